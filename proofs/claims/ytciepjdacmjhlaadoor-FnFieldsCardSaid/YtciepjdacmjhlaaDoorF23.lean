/-
  Contracts of ValuesOf, program's and reference's, and of the laws' marks on fields.
-/
import Derived.Test.YtciepjdacmjhlaaDoorF19
import Derived.Test.YtciepjdacmjhlaaDoorF20
import Derived.Test.YtciepjdacmjhlaaDoorK1
import Derived.Test.YtciepjdacmjhlaaDoorMA
import Derived.Test.YtciepjdacmjhlaaDoorL5
set_option linter.unusedVariables false
set_option linter.unusedSimpArgs false
set_option maxRecDepth 100000
namespace Go.Proofs.YtciepjdacmjhlaaDoor
open Go.RowKit
/-- A field's value in a mask, -1 if there is none. -/
def valF (m : Mask) (f : Fld) : Int := if (valueF f m).2 = 6 then -1 else (valueF f m).1
/-- Can a field be read? -/
def readsB (m : Mask) (f : Fld) : Bool := !decide ((valueF f m).2 = 8)
/-- What ValuesOf returns. -/
def valuesF (xs : List Fld) (c : Crd) : List Int × Int :=
  if (schB xs && isCardB c) = true then (if xs.all (readsB c.m) = true then (xs.map (valF c.m), 0) else ([], 8)) else ([], 1)
theorem values_bad {xs : List Fld} {c : Crd} (h : (schB xs && isCardB c) = false) : valuesF xs c = ([], 1) := by unfold valuesF; rw [h]; rfl
theorem values_err {xs : List Fld} {c : Crd} (h : (schB xs && isCardB c) = true) (k : Nat) (hk : k < xs.length) (h8 : (valueF xs[k] c.m).2 = 8) : valuesF xs c = ([], 8) := by
  unfold valuesF
  rw [if_pos h, all_miss (readsB c.m) xs k hk (by unfold readsB; rw [decide_eq_true h8]; rfl)]
  rfl
theorem values_good {xs : List Fld} {c : Crd} (h : (schB xs && isCardB c) = true) (ha : xs.all (readsB c.m) = true) : valuesF xs c = (xs.map (valF c.m), 0) := by unfold valuesF; rw [if_pos h, if_pos ha]
theorem values_len (xs : List Fld) (c : Crd) (h : xs.length ≤ 1048576) : (valuesF xs c).1.length ≤ 1048576 := by
  unfold valuesF
  split
  · split
    · simpa using h
    · simp
  · simp
theorem map_take_succ {α β : Type} (f : α → β) (xs : List α) (k : Nat) (hk : k < xs.length) : (xs.take (k + 1)).map f = (xs.take k).map f ++ [f xs[k]] := by rw [List.take_succ_eq_append_getElem hk, List.map_append]; rfl
attribute [irreducible] valuesF
