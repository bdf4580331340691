/-
  Lists of places at which something holds; false drops as data (plain Lean).
-/
import Derived.Test.YtegopgpnjgikeaaGreatDoorG2
set_option linter.unusedVariables false
namespace Go.Proofs.YtegopgpnjgikeaaGreatDoor
open Go.RowKit
/-- The places below n at which p holds. -/
def idxTo (p : Nat → Bool) : Nat → List Int
  | 0 => []
  | k + 1 => idxTo p k ++ if p k = true then [(k : Int)] else []
theorem idxTo_zero (p : Nat → Bool) : idxTo p 0 = [] := rfl
theorem idxTo_hit (p : Nat → Bool) (k : Nat) (h : p k = true) : idxTo p (k + 1) = idxTo p k ++ [(k : Int)] := by rw [idxTo, if_pos h]
theorem idxTo_miss (p : Nat → Bool) (k : Nat) (h : p k = false) : idxTo p (k + 1) = idxTo p k := by rw [idxTo, if_neg (by rw [h]; decide), List.append_nil]
theorem idxTo_mem (p : Nat → Bool) (n : Nat) (v : Int) : v ∈ idxTo p n ↔ ∃ i, i < n ∧ v = (i : Int) ∧ p i = true := by
  induction n with
  | zero => rw [idxTo_zero]; exact ⟨fun h => (by simp at h), fun ⟨i, h, _⟩ => absurd h (by omega)⟩
  | succ n ih =>
    rw [idxTo, List.mem_append, ih]
    constructor
    · rintro (⟨i, h1, h2, h3⟩ | h)
      · exact ⟨i, by omega, h2, h3⟩
      · by_cases e : p n = true
        · rw [if_pos e] at h; exact ⟨n, by omega, by simpa using h, e⟩
        · rw [if_neg e] at h; simp at h
    · rintro ⟨i, h1, h2, h3⟩
      by_cases e : i = n
      · subst e; rw [if_pos h3]; exact .inr (by simp [h2])
      · exact .inl ⟨i, by omega, h2, h3⟩
theorem idxTo_len (p : Nat → Bool) (n : Nat) : (idxTo p n).length ≤ n := by
  induction n with
  | zero => simp [idxTo]
  | succ n ih =>
    rw [idxTo, List.length_append]
    split
    · simp; omega
    · simp; omega
theorem idxTo_congr {p q : Nat → Bool} (n : Nat) (h : ∀ i, i < n → p i = q i) : idxTo p n = idxTo q n := by
  induction n with
  | zero => rfl
  | succ n ih => rw [idxTo, idxTo, ih (fun i hi => h i (by omega)), h n (by omega)]
theorem idxTo_count (p : Nat → Bool) (n : Nat) : (idxTo p n).length = (List.range n).countP p := by
  induction n with
  | zero => simp [idxTo]
  | succ n ih =>
    rw [idxTo, List.length_append, ih, List.range_succ, List.countP_append, List.countP_singleton]
    split <;> simp
/-- What is dropped and not truly so: first all that is dropped, then what is not among the true ones. -/
theorem idxTo_less (p q : Nat → Bool) (N : Nat) : ∀ n, n ≤ N → (idxTo p n).filter (fun v => !(idxTo q N).contains v) = idxTo (fun i => p i && !q i) n
  | 0, _ => rfl
  | n + 1, h => by
    rw [idxTo, List.filter_append, idxTo_less p q N n (by omega), idxTo]
    congr 1
    have hq : (idxTo q N).contains (n : Int) = q n := by
      rw [Bool.eq_iff_iff, List.contains_iff_mem, idxTo_mem]
      constructor
      · rintro ⟨i, h1, h2, h3⟩; rw [show n = i by omega]; exact h3
      · intro h3; exact ⟨n, by omega, rfl, h3⟩
    cases e : p n with
    | false => simp
    | true => rw [if_pos rfl, List.filter_cons, hq, List.filter_nil, Bool.true_and]
/-- Has m no hole that n lacks? -/
def mwin (m n : Mask) : Bool := decide (mless m n = 0)
/-- Has a list all words? -/
def hasAllB (list words : List ByteArray) : Bool := words.all fun w => list.contains w
/-- The lists that drop falsely. -/
noncomputable def falseL (x : Mx) (lot : List (List ByteArray)) (words : List ByteArray) : List Int :=
  idxTo (fun i => mwin (wallM x words) (wallM x (lot.getD i [])) && !hasAllB (lot.getD i []) words) lot.length
theorem falseL_spec (x : Mx) (lot : List (List ByteArray)) (words : List ByteArray) :
    (idxTo (fun i => mwin (wallM x words) (wallM x (lot.getD i []))) lot.length).filter (fun v => !(idxTo (fun i => hasAllB (lot.getD i []) words) lot.length).contains v) = falseL x lot words :=
  idxTo_less _ _ _ _ (Nat.le_refl _)
end Go.Proofs.YtegopgpnjgikeaaGreatDoor
