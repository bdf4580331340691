/-
  Different words: sorted and made compact, or in the order in which they are first seen: the same sums (plain Lean).
-/
import Derived.Test.YtegopgpnjgikeaaGreatDoorG3
import Derived.Lib.SlicesCompact
set_option linter.unusedVariables false
set_option linter.unusedSectionVars false
namespace Go.Proofs.YtegopgpnjgikeaaGreatDoor
open Go.RowKit
section
variable {α : Type} [Inhabited α] [DecidableEq α]
theorem compactTo_sorted (R : α → α → Prop) (anti : ∀ a b, R a b → R b a → a = b) (d : Array α) (n : Nat) (hs : ∀ i j, i ≤ j → j < n → R d[i]! d[j]!) :
    ∀ m, m ≤ n → (Lib.compactUpTo d m).Nodup ∧ ∀ x, x ∈ Lib.compactUpTo d m ↔ ∃ i, i < m ∧ d[i]! = x
  | 0, _ => ⟨by simp [Lib.compactUpTo], fun x => by simp [Lib.compactUpTo]⟩
  | m + 1, h => by
    obtain ⟨h1, h2⟩ := compactTo_sorted R anti d n hs m (by omega)
    rw [Lib.compactUpTo_succ]
    by_cases e : Lib.keeps d m = true
    · rw [if_pos e]
      have hn : d[m]! ∉ Lib.compactUpTo d m := fun hx => by
        obtain ⟨i, hi, hd⟩ := (h2 _).1 hx
        have hp : d[m]! = d[m - 1]! := anti _ _ (hd ▸ hs i (m - 1) (by omega) (by omega)) (hs (m - 1) m (by omega) (by omega))
        have hm : ¬ m = 0 := by omega
        simp [Lib.keeps, hm, hp] at e
      refine ⟨?_, fun x => ?_⟩
      · rw [List.nodup_append]
        exact ⟨h1, by simp, fun a ha b hb hab => by rw [List.mem_singleton] at hb; subst hb; subst hab; exact hn ha⟩
      · rw [List.mem_append, h2, List.mem_singleton]
        constructor
        · rintro (⟨i, hi, hd⟩ | rfl)
          · exact ⟨i, by omega, hd⟩
          · exact ⟨m, by omega, rfl⟩
        · rintro ⟨i, hi, hd⟩
          by_cases e2 : i = m
          · subst e2; exact .inr hd.symm
          · exact .inl ⟨i, by omega, hd⟩
    · rw [if_neg e, List.append_nil]
      refine ⟨h1, fun x => ?_⟩
      rw [h2]
      constructor
      · rintro ⟨i, hi, hd⟩; exact ⟨i, by omega, hd⟩
      · rintro ⟨i, hi, hd⟩
        by_cases e2 : i = m
        · subst e2
          have hm : ¬ i = 0 := fun hz => e (by simp [Lib.keeps, hz])
          have hp : d[i]! = d[i - 1]! := Classical.byContradiction fun hne => e (by simp [Lib.keeps, hne])
          exact ⟨i - 1, by omega, by rw [← hp, hd]⟩
        · exact ⟨i, by omega, hd⟩
/-- The different ones, in the order in which they are first seen. -/
def firsts (xs : List α) : List α := xs.foldl (fun acc x => if acc.contains x then acc else acc ++ [x]) []
theorem firsts_nil : firsts ([] : List α) = [] := rfl
theorem firsts_take (xs : List α) (k : Nat) (hk : k < xs.length) : firsts (xs.take (k + 1)) = if (firsts (xs.take k)).contains xs[k] then firsts (xs.take k) else firsts (xs.take k) ++ [xs[k]] := by
  unfold firsts
  rw [List.take_succ_eq_append_getElem hk, List.foldl_append]
  rfl
theorem firsts_go (xs : List α) : ∀ acc : List α, acc.Nodup → (xs.foldl (fun acc x => if acc.contains x then acc else acc ++ [x]) acc).Nodup ∧
    ∀ y, y ∈ xs.foldl (fun acc x => if acc.contains x then acc else acc ++ [x]) acc ↔ y ∈ acc ∨ y ∈ xs := by
  induction xs with
  | nil => intro acc h; exact ⟨h, fun y => by simp⟩
  | cons x xs ih =>
    intro acc h
    rw [List.foldl_cons]
    by_cases e : acc.contains x = true
    · rw [if_pos e]
      have hx : x ∈ acc := by simpa using e
      obtain ⟨h1, h2⟩ := ih acc h
      refine ⟨h1, fun y => ?_⟩
      rw [h2, List.mem_cons]
      constructor
      · rintro (h | h)
        · exact .inl h
        · exact .inr (.inr h)
      · rintro (h | rfl | h)
        · exact .inl h
        · exact .inl hx
        · exact .inr h
    · rw [if_neg e]
      have hx : x ∉ acc := by simpa using e
      obtain ⟨h1, h2⟩ := ih (acc ++ [x]) (by
        rw [List.nodup_append]
        exact ⟨h, by simp, fun a ha b hb hab => by rw [List.mem_singleton] at hb; subst hb; subst hab; exact hx ha⟩)
      refine ⟨h1, fun y => ?_⟩
      rw [h2, List.mem_append, List.mem_singleton, List.mem_cons]
      exact or_assoc
theorem firsts_nodup (xs : List α) : (firsts xs).Nodup := (firsts_go xs [] List.nodup_nil).1
theorem firsts_mem (xs : List α) (y : α) : y ∈ firsts xs ↔ y ∈ xs := by rw [show (y ∈ firsts xs ↔ _) from (firsts_go xs [] List.nodup_nil).2 y]; simp
theorem sum_perm {xs ys : List α} (h : xs.Perm ys) (f : α → Nat) : (xs.map f).sum = (ys.map f).sum := (h.map f).sum_nat
theorem sum_firsts (xs ys : List α) (hn : ys.Nodup) (hm : ∀ y, y ∈ ys ↔ y ∈ xs) (f : α → Nat) : (ys.map f).sum = ((firsts xs).map f).sum :=
  sum_perm ((List.perm_ext_iff_of_nodup hn (firsts_nodup xs)).2 fun y => (hm y).trans (firsts_mem xs y).symm) f
end
/-- Sorted and compact: each word once. -/
theorem sorted_compact (zs : List (List UInt8)) : (Lib.compact (zs.mergeSort fun x y => decide (x ≤ y))).Nodup ∧ ∀ x, x ∈ Lib.compact (zs.mergeSort fun x y => decide (x ≤ y)) ↔ x ∈ zs := by
  have hp := List.pairwise_mergeSort (le := fun x y : List UInt8 => decide (x ≤ y)) (fun a b c h1 h2 => by simp only [decide_eq_true_eq] at *; exact List.le_trans h1 h2)
    (fun a b => by simp only [Bool.or_eq_true, decide_eq_true_eq]; exact List.le_total a b) zs
  have hq := List.mergeSort_perm zs (fun x y => decide (x ≤ y))
  generalize (zs.mergeSort fun x y => decide (x ≤ y)) = ss at hp hq
  have hs : ∀ i j, i ≤ j → j < ss.length → ss.toArray[i]! ≤ ss.toArray[j]! := by
    intro i j hij hj
    rw [getElem!_pos ss.toArray i (by simp; omega), getElem!_pos ss.toArray j (by simpa using hj)]
    simp only [List.getElem_toArray]
    by_cases e : i = j
    · subst e; exact List.le_refl _
    · simpa using List.pairwise_iff_getElem.1 hp i j (by omega) hj (by omega)
  obtain ⟨h1, h2⟩ := compactTo_sorted (fun a b : List UInt8 => a ≤ b) (fun a b => List.le_antisymm) ss.toArray ss.length hs ss.length (Nat.le_refl _)
  refine ⟨h1, fun x => ?_⟩
  rw [show (x ∈ Lib.compact ss ↔ _) from h2 x, ← hq.mem_iff, List.mem_iff_getElem]
  constructor
  · rintro ⟨i, hi, hd⟩; exact ⟨i, hi, by rw [getElem!_pos _ _ (by simpa using hi)] at hd; simpa using hd⟩
  · rintro ⟨i, hi, hd⟩; exact ⟨i, hi, by rw [getElem!_pos _ _ (by simpa using hi)]; simpa using hd⟩
end Go.Proofs.YtegopgpnjgikeaaGreatDoor
