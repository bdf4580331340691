/-
  Ways up in a catalogue: what is narrower, and what an entry means; with no program in sight.
-/
import Derived.Test.YtmphnocgihegbaaDoorE12
set_option linter.unusedVariables false
namespace Go.Proofs.YtmphnocgihegbaaDoor
open Go.RowKit
theorem hasI_mem (is : List Int) (v : Int) : hasI is v = true ↔ v ∈ is := by
  unfold hasI
  rw [List.any_eq_true]
  constructor
  · rintro ⟨x, hx, h⟩
    rw [beq_iff_eq] at h
    subst h
    exact hx
  · intro h
    exact ⟨v, h, by simp⟩
theorem pickI_mem (p : Nat → Bool) : ∀ (n : Nat) (v : Int), v ∈ pickI p n ↔ ∃ k : Nat, k < n ∧ v = k ∧ p k = true
  | 0, v => by
    rw [pickI_zero]
    simp
  | n + 1, v => by
    have ih := pickI_mem p n v
    cases h : p n with
    | true =>
      rw [pickI_hit p n h, List.mem_append, ih, List.mem_singleton]
      constructor
      · rintro (⟨k, h1, h2, h3⟩ | h1)
        · exact ⟨k, by omega, h2, h3⟩
        · exact ⟨n, by omega, h1, h⟩
      · rintro ⟨k, h1, h2, h3⟩
        by_cases hk : k = n
        · subst hk
          exact .inr h2
        · exact .inl ⟨k, by omega, h2, h3⟩
    | false =>
      rw [pickI_miss p n h, ih]
      constructor
      · rintro ⟨k, h1, h2, h3⟩
        exact ⟨k, by omega, h2, h3⟩
      · rintro ⟨k, h1, h2, h3⟩
        by_cases hk : k = n
        · subst hk
          rw [h] at h3
          simp at h3
        · exact ⟨k, by omega, h2, h3⟩
theorem pathFrom_mem {xs : List Ent} (h : standsB xs = true) : ∀ (n : Nat) (a : Int), InC xs a → ∀ x ∈ pathFrom xs n a, ∃ j, climb xs j a = x
  | 0, _, _, x, hx => by simp [pathFrom] at hx
  | n + 1, a, ha, x, hx => by
    rw [pathFrom] at hx
    split at hx
    · simp at hx
    · rename_i hne
      have h0 : 0 ≤ a := by unfold InC at ha; omega
      have hst : stepUp xs a = xs[a.toNat]!.br := by unfold stepUp; rw [if_pos h0]
      rcases List.mem_cons.1 hx with rfl | hx
      · exact ⟨0, rfl⟩
      · obtain ⟨j, hj⟩ := pathFrom_mem h n xs[a.toNat]!.br (by rw [← hst]; exact stepUp_in h ha) x hx
        exact ⟨j + 1, by rw [climb, hst]; exact hj⟩
/-- A way up never comes back. -/
theorem no_return {xs : List Ent} (a : Int) (h0 : 0 ≤ a) (hT : climb xs xs.length a < 0) (j : Nat) : climb xs (j + 1) a ≠ a := by
  intro he
  have hcyc : ∀ q, climb xs (q * (j + 1)) a = a := by
    intro q
    induction q with
    | zero => rw [Nat.zero_mul]; rfl
    | succ q ih => rw [Nat.succ_mul, climb_add, ih, he]
  have h1 := hcyc xs.length
  have h2 : xs.length ≤ xs.length * (j + 1) := Nat.le_mul_of_pos_right _ (by omega)
  rw [show xs.length * (j + 1) = xs.length + (xs.length * (j + 1) - xs.length) by omega, climb_add, climb_neg xs _ hT] at h1
  omega
theorem firstF_pref {xs : List Ent} (h : standsB xs = true) (i : Int) (h0 : 0 ≤ i) (h1 : i < xs.length) : xs[(firstF xs i).toNat]!.see = -1 := by
  unfold firstF
  split
  · assumption
  · rename_i hs
    have hr := (stand_parts (stands_at h i.toNat (by omega))).2.2.1
    unfold refB prefB at hr
    simp only [Bool.or_eq_true, beq_iff_eq, Bool.and_eq_true, decide_eq_true_eq] at hr
    exact (hr.resolve_left hs).2.2
theorem firstF_self {xs : List Ent} (q : Int) (h : xs[q.toNat]!.see = -1) : firstF xs q = q := by unfold firstF; rw [if_pos h]
/-- The way up from a preferred entry: itself, and what is above it. -/
theorem pathL_cons {xs : List Ent} (q : Int) (h0 : 0 ≤ q) (h1 : q < xs.length) (hs : xs[q.toNat]!.see = -1) : pathL xs q = q :: pathFrom xs (xs.length - 1) xs[q.toNat]!.br := by
  unfold pathL
  rw [firstF_self q hs, show xs.length = xs.length - 1 + 1 by omega, pathFrom, if_neg (by omega)]
  rfl
/-- What is above a preferred entry does not hold the entry. -/
theorem above_not {xs : List Ent} (hc : catB xs = true) (q : Int) (h0 : 0 ≤ q) (h1 : q < xs.length) : q ∉ pathFrom xs (xs.length - 1) xs[q.toNat]!.br := by
  intro hm
  have hS := cat_stands hc
  obtain ⟨j, hj⟩ := pathFrom_mem hS _ _ (br_in hS q.toNat (by omega)) q hm
  refine no_return q h0 (tops_at (cat_tops hc) q h0 h1) j ?_
  rw [climb, show stepUp xs q = xs[q.toNat]!.br by unfold stepUp; rw [if_pos h0]]
  exact hj
/-- Is the entry at k preferred, and below p? -/
def narB (xs : List Ent) (p : Int) (k : Nat) : Bool := xs[k]!.see == -1 && hasI ((pathL xs k).drop 1) p
def narF (xs : List Ent) (i : Int) : List Int × Int := if atsF xs [i] = 0 then (pickI (narB xs (firstF xs i)) xs.length, 0) else ([], atsF xs [i])
/-- Does the entry at k mean p or something below it? -/
def expB (xs : List Ent) (p : Int) (k : Nat) : Bool := hasI (pathL xs k) p
def expF (xs : List Ent) (i : Int) : List Int × Int := if atsF xs [i] = 0 then (pickI (expB xs (firstF xs i)) xs.length, 0) else ([], atsF xs [i])
theorem narB_spec {xs : List Ent} (hc : catB xs = true) (p : Int) (k : Nat) (hk : k < xs.length) (hs : xs[k]!.see = -1) : hasI ((pathL xs k).drop 1) p = (!decide ((k : Int) = p) && hasI (pathL xs k) p) := by
  have hcons := pathL_cons (xs := xs) (k : Int) (by omega) (by omega) (by rw [Int.toNat_natCast]; exact hs)
  have hnot := above_not hc (k : Int) (by omega) (by omega)
  rw [hcons, List.drop_succ_cons, List.drop_zero]
  by_cases h : (k : Int) = p
  · subst h
    rw [decide_eq_true rfl, Bool.not_true, Bool.false_and]
    cases hh : hasI (pathFrom xs (xs.length - 1) xs[(k : Int).toNat]!.br) k with
    | false => rfl
    | true => exact absurd ((hasI_mem _ _).1 hh) hnot
  · rw [decide_eq_false h, Bool.not_false, Bool.true_and, Bool.eq_iff_iff, hasI_mem, hasI_mem, List.mem_cons]
    constructor
    · exact .inr
    · rintro (h2 | h2)
      · exact absurd h2.symm h
      · exact h2
theorem expB_impl {xs : List Ent} (hc : catB xs = true) (p : Int) (k : Nat) (hk : k < xs.length) : hasI (pickI (narB xs p) xs.length ++ [p]) (firstF xs k) = expB xs p k := by
  have hS := cat_stands hc
  have hin := firstF_in hS (k : Int) (by omega) (by omega)
  have hpr := firstF_pref hS (k : Int) (by omega) (by omega)
  have hpl : pathL xs k = pathL xs (firstF xs k) := by
    unfold pathL
    rw [firstF_self (firstF xs k) hpr]
  unfold expB
  rw [hpl]
  generalize firstF xs k = q at hin hpr
  have hcons := pathL_cons q hin.1 hin.2 hpr
  rw [Bool.eq_iff_iff, hasI_mem, hasI_mem, List.mem_append, pickI_mem, List.mem_singleton]
  constructor
  · rintro (⟨j, h1, h2, h3⟩ | h1)
    · unfold narB at h3
      simp only [Bool.and_eq_true] at h3
      have := (hasI_mem _ _).1 h3.2
      rw [← h2] at this
      exact List.mem_of_mem_drop this
    · subst h1
      rw [hcons]
      exact List.mem_cons_self
  · intro h
    rw [hcons] at h
    rcases List.mem_cons.1 h with h | h
    · exact .inr h.symm
    · refine .inl ⟨q.toNat, by omega, by omega, ?_⟩
      unfold narB
      rw [show ((q.toNat : Nat) : Int) = q by omega, hcons, List.drop_succ_cons, List.drop_zero]
      simp only [Bool.and_eq_true, beq_iff_eq]
      exact ⟨hpr, (hasI_mem _ _).2 h⟩
end Go.Proofs.YtmphnocgihegbaaDoor
