/-
  Values near a mask, the nearest value, and whether wear is told: as data, with no program in sight.
-/
import Derived.Test.YtegopgpnjgikeaaDoorF5
set_option linter.unusedVariables false
namespace Go.Proofs.YtegopgpnjgikeaaDoor
open Go.RowKit
/-- In how many holes two masks differ. -/
def distM (m n : Mask) : Int := mcount (mless m n) + mcount (mless n m)
theorem distM_ge (m n : Mask) : 0 ≤ distM m n := by unfold distM; have := mcount_ge (mless m n); have := mcount_ge (mless n m); omega
theorem distM_le (m n : Mask) : distM m n ≤ 256 := by unfold distM; have := mcount_le (mless m n); have := mcount_le (mless n m); omega
theorem pcf_disj : ∀ (n x y : Nat), (∀ i, ¬ (x.testBit i = true ∧ y.testBit i = true)) → pcf n x + pcf n y ≤ n
  | 0, _, _, _ => by simp [pcf]
  | n + 1, x, y, h => by
    have h0 := h 0
    rw [Nat.testBit_zero, Nat.testBit_zero, decide_eq_true_eq, decide_eq_true_eq] at h0
    have h1 := pcf_disj n (x / 2) (y / 2) (fun i => by have := h (i + 1); rwa [Nat.testBit_add_one, Nat.testBit_add_one] at this)
    unfold pcf
    omega
theorem pcf_high {x : Nat} (h : x < 4294967296) : pcf 64 x = pcf 32 x := by
  have e := pcf_add 32 32 x
  rw [Nat.div_eq_of_lt (show x < 2 ^ 32 from h), pcf_zero, Nat.mod_eq_of_lt (show x < 2 ^ 32 from h)] at e
  exact e
theorem isMask_hi {m : Mask} (h : isMaskB m = true) : m.toNat / 18446744073709551616 < 4294967296 := by
  unfold isMaskB at h
  rw [decide_eq_true_eq] at h
  omega
theorem mless_tb (m n : Mask) (i : Nat) : (mless m n).getLsbD i = true → m.getLsbD i = true ∧ n.getLsbD i = false := by
  unfold mless
  rw [BitVec.getLsbD_and, BitVec.getLsbD_not]
  simp only [Bool.and_eq_true, Bool.not_eq_true', decide_eq_true_eq]
  rintro ⟨h, _, h2⟩
  exact ⟨h, h2⟩
theorem mless_le (m n : Mask) : (mless m n).toNat ≤ m.toNat := by
  unfold mless
  rw [BitVec.toNat_and]
  exact Nat.and_le_left
theorem isMask_mless {m n : Mask} (h : isMaskB m = true) : isMaskB (mless m n) = true := by
  unfold isMaskB at h ⊢
  rw [decide_eq_true_eq] at h ⊢
  exact Nat.lt_of_le_of_lt (mless_le m n) h
theorem distM_96 {m n : Mask} (hm : isMaskB m = true) (hn : isMaskB n = true) : distM m n ≤ 96 := by
  have a1 := isMask_hi (isMask_mless (n := n) hm)
  have a2 := isMask_hi (isMask_mless (n := m) hn)
  unfold distM mcount
  rw [pcf_high a1, pcf_high a2]
  have b1 := pcf_disj 64 ((mless m n).toNat % 18446744073709551616) ((mless n m).toNat % 18446744073709551616) (fun i => by
    rw [lo_tb, lo_tb]
    rintro ⟨h1, h2⟩
    rw [Bool.and_eq_true] at h1 h2
    have g1 := mless_tb m n i h1.2
    have g2 := mless_tb n m i h2.2
    rw [g2.2] at g1
    exact absurd g1.1 (by decide))
  have b2 := pcf_disj 32 ((mless m n).toNat / 18446744073709551616) ((mless n m).toNat / 18446744073709551616) (fun i => by
    rw [hi_tb, hi_tb]
    rintro ⟨h1, h2⟩
    have g1 := mless_tb m n _ h1
    have g2 := mless_tb n m _ h2
    rw [g2.2] at g1
    exact absurd g1.1 (by decide))
  omega
/-- The state behind the values up to k: the best one, its distance, how many have it. -/
def nvF (d : Nat → Int) : Nat → Int × Int × Int
  | 0 => (0, d 0, 1)
  | k + 1 => if d (k + 1) < (nvF d k).2.1 then ((k : Int) + 1, d (k + 1), 1) else if d (k + 1) = (nvF d k).2.1 then ((nvF d k).1, (nvF d k).2.1, (nvF d k).2.2 + 1) else nvF d k
theorem nvF_less {d : Nat → Int} {k : Nat} (h : d (k + 1) < (nvF d k).2.1) : nvF d (k + 1) = ((k : Int) + 1, d (k + 1), 1) := by rw [nvF, if_pos h]
theorem nvF_same {d : Nat → Int} {k : Nat} (h : d (k + 1) = (nvF d k).2.1) : nvF d (k + 1) = ((nvF d k).1, (nvF d k).2.1, (nvF d k).2.2 + 1) := by rw [nvF, if_neg (by omega), if_pos h]
theorem nvF_more {d : Nat → Int} {k : Nat} (h1 : ¬ d (k + 1) < (nvF d k).2.1) (h2 : ¬ d (k + 1) = (nvF d k).2.1) : nvF d (k + 1) = nvF d k := by rw [nvF, if_neg h1, if_neg h2]
theorem nvF_many (d : Nat → Int) : ∀ k, 1 ≤ (nvF d k).2.2 ∧ (nvF d k).2.2 ≤ k + 1
  | 0 => by simp [nvF]
  | k + 1 => by
    have ih := nvF_many d k
    rw [nvF]
    split
    · constructor <;> simp <;> omega
    · split
      · constructor <;> simp <;> omega
      · omega
theorem nvF_best (d : Nat → Int) : ∀ k, 0 ≤ (nvF d k).1 ∧ (nvF d k).1 ≤ k
  | 0 => by simp [nvF]
  | k + 1 => by
    have ih := nvF_best d k
    rw [nvF]
    split
    · constructor <;> simp <;> omega
    · split
      · constructor <;> simp <;> omega
      · omega
theorem nvF_least (d : Nat → Int) (lo hi : Int) (h : ∀ k, lo ≤ d k ∧ d k ≤ hi) : ∀ k, lo ≤ (nvF d k).2.1 ∧ (nvF d k).2.1 ≤ hi
  | 0 => h 0
  | k + 1 => by
    have ih := nvF_least d lo hi h k
    rw [nvF]
    split
    · exact h (k + 1)
    · split
      · exact ih
      · exact ih
/-- The distance of a value's code from a part. -/
def dOf (f : Fld) (p : Mask) (k : Nat) : Int := distM (codeF f k) p
/-- What NearestValue returns: three numbers. -/
def nearestF (f : Fld) (m : Mask) : Int × Int × Int :=
  if (fldB f && isMaskB m) = true then
    (if 1 < (nvF (dOf f (mmeet m (partF f))) (mostF f).toNat).2.2 then (0, 0, 4)
     else ((nvF (dOf f (mmeet m (partF f))) (mostF f).toNat).1, (nvF (dOf f (mmeet m (partF f))) (mostF f).toNat).2.1, 0))
  else (0, 0, 1)
/-- The first k values whose codes are near. -/
def nearTo (f : Fld) (p : Mask) (far : Int) : Nat → List Int
  | 0 => []
  | k + 1 => if dOf f p k ≤ far then nearTo f p far k ++ [(k : Int)] else nearTo f p far k
theorem nearTo_zero (f : Fld) (p : Mask) (far : Int) : nearTo f p far 0 = [] := rfl
theorem nearTo_hit {f : Fld} {p : Mask} {far : Int} {k : Nat} (h : dOf f p k ≤ far) : nearTo f p far (k + 1) = nearTo f p far k ++ [(k : Int)] := by rw [nearTo, if_pos h]
theorem nearTo_miss {f : Fld} {p : Mask} {far : Int} {k : Nat} (h : ¬ dOf f p k ≤ far) : nearTo f p far (k + 1) = nearTo f p far k := by rw [nearTo, if_neg h]
theorem nearTo_len (f : Fld) (p : Mask) (far : Int) : ∀ k, (nearTo f p far k).length ≤ k
  | 0 => Nat.le_refl _
  | k + 1 => by
    have := nearTo_len f p far k
    rw [nearTo]
    split
    · rw [List.length_append, List.length_singleton]; omega
    · omega
attribute [irreducible] nearTo
/-- All values whose codes are near a mask. -/
def nearL (f : Fld) (m : Mask) (far : Int) : List Int := nearTo f (mmeet m (partF f)) far (mostF f + 1).toNat
/-- What ValuesNear returns. -/
def nearF (f : Fld) (m : Mask) (far : Int) : List Int × Int :=
  if (fldB f && isMaskB m) = true then (if 0 ≤ far ∧ far ≤ 2 then (nearL f m far, 0) else ([], 2)) else ([], 1)
/-- What IsTold returns. -/
def toldF (f : Fld) (v : Int) (t u : Mask) : Bool × Int :=
  if (fldB f && isWearB t u) = true then
    (if 0 ≤ v ∧ v ≤ mostF f then (decide ((valueF f (mless (mjoin (codeF f v) t) u)).2 ≠ 0 ∨ (valueF f (mless (mjoin (codeF f v) t) u)).1 = v), 0) else (false, 2))
  else (false, 1)
end Go.Proofs.YtegopgpnjgikeaaDoor
