/-
  Contracts of the functions that ask whether a field is valid, and tell its greatest value.
-/
import Derived.Test.YtegopgpnjgikeaaGreatDoorF0
import Derived.IntWalk
set_option linter.unusedVariables false
set_option linter.unusedSimpArgs false
set_option maxRecDepth 100000
namespace Go.Proofs.YtegopgpnjgikeaaGreatDoor
open Go.RowKit
theorem manyF1 (sz : Int) : manyF 1 sz = 4 * sz := by unfold manyF; rw [if_pos rfl]
theorem manyF2 (sz : Int) : manyF 2 sz = 5 * sz := by unfold manyF; rw [if_neg (by decide), if_pos rfl]
theorem manyF3 (sz : Int) : manyF 3 sz = sz + 1 := by unfold manyF; rw [if_neg (by decide), if_neg (by decide), if_pos rfl]
theorem manyF0 {kd : Int} (sz : Int) (h1 : kd ≠ 1) (h2 : kd ≠ 2) (h3 : kd ≠ 3) : manyF kd sz = sz := by unfold manyF; rw [if_neg h1, if_neg h2, if_neg h3]
theorem fldB_false {f : Fld} (h : ¬ (isNameB f.nm = true ∧ 0 ≤ f.kd ∧ f.kd ≤ 3 ∧ 0 ≤ f.st ∧ 1 ≤ f.sz ∧ f.sz ≤ mostSz f.kd ∧ f.st + manyF f.kd f.sz ≤ 96)) : fldB f = false := by
  cases hb : fldB f with
  | false => rfl
  | true =>
    unfold fldB at hb
    simp only [Bool.and_eq_true, decide_eq_true_eq] at hb
    exact absurd hb h
theorem fldB_true {f : Fld} (h0 : isNameB f.nm = true) (h1 : 0 ≤ f.kd) (h2 : f.kd ≤ 3) (h3 : 0 ≤ f.st) (h4 : 1 ≤ f.sz) (h5 : f.sz ≤ mostSz f.kd) (h6 : f.st + manyF f.kd f.sz ≤ 96) : fldB f = true := by
  unfold fldB
  simp only [Bool.and_eq_true, decide_eq_true_eq]
  exact ⟨h0, h1, h2, h3, h4, h5, h6⟩
theorem fldB_parts {f : Fld} (h : fldB f = true) : isNameB f.nm = true ∧ 0 ≤ f.kd ∧ f.kd ≤ 3 ∧ 0 ≤ f.st ∧ 1 ≤ f.sz ∧ f.sz ≤ mostSz f.kd ∧ f.st + manyF f.kd f.sz ≤ 96 := by
  unfold fldB at h
  simp only [Bool.and_eq_true, decide_eq_true_eq] at h
  exact h
theorem manyF_bd (kd sz : Int) (h0 : 1 ≤ sz) (h1 : sz < 32768) : 1 ≤ manyF kd sz ∧ manyF kd sz ≤ 163840 := by
  unfold manyF
  split
  · omega
  · split
    · omega
    · split <;> omega
