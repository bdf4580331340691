/-
  Fields that are repaired by copies: as data, with no program in sight.
-/
import Derived.Test.YtknbebglabpegaaDoorF8
import Derived.Test.YtknbebglabpegaaDoorF14
set_option linter.unusedVariables false
namespace Go.Proofs.YtknbebglabpegaaDoor
open Go.RowKit
theorem valAt_range {f : Fld} {p : Mask} {v : Int} : ∀ n, valAt f p n = some v → 0 ≤ v ∧ v < n
  | 0, h => by simp [valAt] at h
  | n + 1, h => by
    rw [valAt] at h
    cases h1 : valAt f p n with
    | some x =>
      rw [h1, Option.some_or] at h
      have := valAt_range n (h1.trans h)
      omega
    | none =>
      rw [h1, Option.none_or] at h
      split at h
      · have := Option.some.inj h; omega
      · cases h
theorem valueF_range {f : Fld} {m : Mask} (h : (valueF f m).2 = 0) : 0 ≤ (valueF f m).1 ∧ (valueF f m).1 ≤ mostF f := by
  unfold valueF at h ⊢
  split at h
  · cases h
  · rename_i h0
    rw [if_neg h0]
    cases h1 : valAt f (mmeet m (partF f)) (mostF f + 1).toNat with
    | some v =>
      have := valAt_range _ h1
      show 0 ≤ v ∧ v ≤ mostF f
      omega
    | none => rw [h1] at h; cases h
theorem getM (xs : List Mask) (k : Nat) (hk : k < xs.length) : xs[k]! = xs[k] := getElem!_pos xs k hk
theorem getV (xs : List Int) (k : Nat) (hk : k < xs.length) : xs[k]! = xs[k] := getElem!_pos xs k hk
/-- The values that the first copies tell. -/
def valsTo (f : Fld) (xs : List Mask) : Nat → List Int
  | 0 => []
  | k + 1 => if (valueF f xs[k]!).2 = 0 then valsTo f xs k ++ [(valueF f xs[k]!).1] else valsTo f xs k
theorem valsTo_zero (f : Fld) (xs : List Mask) : valsTo f xs 0 = [] := rfl
theorem valsTo_hit {f : Fld} {xs : List Mask} {k : Nat} (hk : k < xs.length) (h : (valueF f xs[k]).2 = 0) : valsTo f xs (k + 1) = valsTo f xs k ++ [(valueF f xs[k]).1] := by rw [valsTo, getM xs k hk, if_pos h]
theorem valsTo_miss {f : Fld} {xs : List Mask} {k : Nat} (hk : k < xs.length) (h : ¬ (valueF f xs[k]).2 = 0) : valsTo f xs (k + 1) = valsTo f xs k := by rw [valsTo, getM xs k hk, if_neg h]
theorem valsTo_len (f : Fld) (xs : List Mask) : ∀ k, (valsTo f xs k).length ≤ k
  | 0 => Nat.le_refl _
  | k + 1 => by
    have := valsTo_len f xs k
    rw [valsTo]
    split
    · rw [List.length_append, List.length_singleton]; omega
    · omega
theorem valsTo_range (f : Fld) (xs : List Mask) : ∀ k, ∀ v ∈ valsTo f xs k, 0 ≤ v ∧ v ≤ mostF f
  | 0, v, h => by simp [valsTo] at h
  | k + 1, v, h => by
    rw [valsTo] at h
    split at h
    · rename_i h0
      rcases List.mem_append.1 h with h1 | h1
      · exact valsTo_range f xs k v h1
      · rw [List.mem_singleton.1 h1]; exact valueF_range h0
    · exact valsTo_range f xs k v h
theorem nearTo_range (f : Fld) (p : Mask) (far : Int) : ∀ k, ∀ v ∈ nearTo f p far k, 0 ≤ v ∧ v < k
  | 0, v, h => by rw [nearTo_zero] at h; cases h
  | k + 1, v, h => by
    by_cases hd : dOf f p k ≤ far
    · rw [nearTo_hit hd] at h
      rcases List.mem_append.1 h with h1 | h1
      · have := nearTo_range f p far k v h1; omega
      · rw [List.mem_singleton.1 h1]; omega
    · rw [nearTo_miss hd] at h
      have := nearTo_range f p far k v h; omega
theorem nearL_range {f : Fld} {m : Mask} {far : Int} {v : Int} (h : v ∈ nearL f m far) : 0 ≤ v ∧ v ≤ mostF f := by
  have := nearTo_range f _ far _ v h
  omega
/-- How often a value is told. -/
def cntF (ys : List Int) (v : Int) : Nat := ys.countP fun o => o == v
/-- The first value among the first ones that more than a half tell. -/
def agTo (ys : List Int) : Nat → Option Int
  | 0 => none
  | k + 1 => (agTo ys k).or (if ys.length < 2 * cntF ys ys[k]! then some ys[k]! else none)
theorem agTo_hit {ys : List Int} {k : Nat} (h0 : agTo ys k = none) (hk : k < ys.length) (h : ys.length < 2 * cntF ys ys[k]) : ∀ n, k < n → agTo ys n = some ys[k]
  | 0, hn => by omega
  | n + 1, hn => by
    rw [agTo]
    by_cases hkn : k = n
    · subst hkn; rw [h0, Option.none_or, getV ys k hk, if_pos h]
    · rw [agTo_hit h0 hk h n (by omega), Option.some_or]
theorem agTo_miss {ys : List Int} {k : Nat} (h0 : agTo ys k = none) (hk : k < ys.length) (h : ¬ ys.length < 2 * cntF ys ys[k]) : agTo ys (k + 1) = none := by rw [agTo, h0, Option.none_or, getV ys k hk, if_neg h]
/-- A value is put into a field of a mask. -/
def putM (f : Fld) (m : Mask) (v : Int) : Mask := mjoin (mless m (partF f)) (codeF f v)
/-- The value that is agreed about. -/
def agreeF (f : Fld) (xs : List Mask) : Option Int := agTo (valsTo f xs xs.length) (valsTo f xs xs.length).length
/-- A field of a mask, repaired, and how. -/
def repF (f : Fld) (m : Mask) (xs : List Mask) : Mask × Int :=
  if (valueF f m).2 = 8 then (match agreeF f xs with | some v => (putM f m v, 1) | none => if (nearL f m 1).length = 1 then (putM f m (nearL f m 1)[0]!, 2) else (m, -1)) else (m, 0)
theorem rep_ok {f : Fld} {m : Mask} {xs : List Mask} (h : ¬ (valueF f m).2 = 8) : repF f m xs = (m, 0) := by unfold repF; rw [if_neg h]
theorem rep_ag {f : Fld} {m : Mask} {xs : List Mask} {v : Int} (h : (valueF f m).2 = 8) (h2 : agreeF f xs = some v) : repF f m xs = (putM f m v, 1) := by unfold repF; rw [if_pos h, h2]
theorem rep_near {f : Fld} {m : Mask} {xs : List Mask} (h : (valueF f m).2 = 8) (h2 : agreeF f xs = none) (h3 : (nearL f m 1).length = 1) (h4 : 0 < (nearL f m 1).length) : repF f m xs = (putM f m (nearL f m 1)[0], 2) := by
  unfold repF; rw [if_pos h, h2]
  show (if (nearL f m 1).length = 1 then _ else _) = _
  rw [if_pos h3, getV _ 0 h4]
theorem rep_none {f : Fld} {m : Mask} {xs : List Mask} (h : (valueF f m).2 = 8) (h2 : agreeF f xs = none) (h3 : ¬ (nearL f m 1).length = 1) : repF f m xs = (m, -1) := by
  unfold repF; rw [if_pos h, h2]
  show (if (nearL f m 1).length = 1 then _ else _) = _
  rw [if_neg h3]
/-- What RepairField returns. -/
def repairF (f : Fld) (m : Mask) (xs : List Mask) : Mask × Int × Int :=
  if (fldB f && isMaskB m) = true then (if masksCode xs = 0 then (if (repF f m xs).2 < 0 then (0, 0, 4) else ((repF f m xs).1, (repF f m xs).2, 0)) else (0, 0, masksCode xs)) else (0, 0, 1)
theorem repair_bad {f : Fld} {m : Mask} {xs : List Mask} (h : (fldB f && isMaskB m) = false) : repairF f m xs = (0, 0, 1) := by unfold repairF; rw [h]; rfl
theorem repair_code {f : Fld} {m : Mask} {xs : List Mask} (h : (fldB f && isMaskB m) = true) (h2 : ¬ masksCode xs = 0) : repairF f m xs = (0, 0, masksCode xs) := by unfold repairF; rw [if_pos h, if_neg h2]
theorem repair_no {f : Fld} {m : Mask} {xs : List Mask} (h : (fldB f && isMaskB m) = true) (h2 : masksCode xs = 0) (h3 : (repF f m xs).2 < 0) : repairF f m xs = (0, 0, 4) := by unfold repairF; rw [if_pos h, if_pos h2, if_pos h3]
theorem repair_yes {f : Fld} {m : Mask} {xs : List Mask} (h : (fldB f && isMaskB m) = true) (h2 : masksCode xs = 0) (h3 : ¬ (repF f m xs).2 < 0) : repairF f m xs = ((repF f m xs).1, (repF f m xs).2, 0) := by unfold repairF; rw [if_pos h, if_pos h2, if_neg h3]
theorem rep_how (f : Fld) (m : Mask) (xs : List Mask) : -1 ≤ (repF f m xs).2 ∧ (repF f m xs).2 ≤ 2 := by
  unfold repF
  split
  · split
    · constructor <;> (dsimp only; omega)
    · split
      · constructor <;> (dsimp only; omega)
      · constructor <;> (dsimp only; omega)
  · constructor <;> (dsimp only; omega)
attribute [irreducible] valsTo agTo repF repairF
end Go.Proofs.YtknbebglabpegaaDoor
