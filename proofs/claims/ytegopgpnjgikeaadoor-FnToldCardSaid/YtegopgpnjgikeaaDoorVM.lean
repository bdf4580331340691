/-
  Plain laws of masks, by their holes; what wear does.
-/
import Derived.Test.YtegopgpnjgikeaaDoorC2
set_option linter.unusedVariables false
set_option linter.unusedSimpArgs false
set_option maxRecDepth 100000
namespace Go.Proofs.YtegopgpnjgikeaaDoor
open Go.RowKit
theorem mhas_or (a b : Mask) (i : Nat) : mhas (mjoin a b) i = (mhas a i || mhas b i) := by simp [mhas, mjoin]
theorem mhas_less (a b : Mask) (i : Nat) (h : i < 128) : mhas (mless a b) i = (mhas a i && !mhas b i) := by simp [mhas, mless, h]
theorem mhas_and (a b : Mask) (i : Nat) : mhas (mmeet a b) i = (mhas a i && mhas b i) := by simp [mhas, mmeet]
theorem mhas_bit (k i : Nat) (hk : k < 128) : mhas (mbit k) i = decide (i = k) := by
  unfold mhas mbit
  rw [BitVec.getLsbD_shiftLeft]
  simp only [Int.toNat_natCast]
  by_cases h : i = k
  · subst h; simp [hk]
  · have h1 : decide (i = k) = false := decide_eq_false h
    rw [h1]
    by_cases h2 : i < k
    · simp [h2]
    · have h3 : BitVec.getLsbD 1#128 (i - k) = false := by rw [BitVec.getLsbD_one]; simp; omega
      rw [h3]; simp
theorem mask_ext {a b : Mask} (h : ∀ i : Nat, i < 128 → mhas a i = mhas b i) : a = b := BitVec.eq_of_getLsbD_eq fun i hi => by have := h i hi; simpa [mhas] using this
theorem mask_high {m : Mask} (h : isMaskB m = true) (i : Nat) (hi : 96 ≤ i) : mhas m i = false := by
  unfold isMaskB at h
  rw [decide_eq_true_eq] at h
  show m.toNat.testBit i = false
  exact Nat.testBit_lt_two_pow (Nat.lt_of_lt_of_le h (Nat.pow_le_pow_right (n := 2) (by decide) hi))
theorem sm_less {m n : Mask} (h : isMaskB m = true) : isMaskB (mless m n) = true := by
  unfold isMaskB mless at *
  rw [decide_eq_true_eq] at *
  rw [BitVec.toNat_and]
  exact Nat.lt_of_le_of_lt Nat.and_le_left h
theorem mzero_iff (m : Mask) : mzero m = true ↔ ∀ i : Nat, i < 128 → mhas m i = false := by
  constructor
  · intro h i hi
    have : m = 0 := by simpa [mzero] using h
    subst this; simp [mhas]
  · intro h
    have : m = 0 := mask_ext fun i hi => by rw [h i hi]; simp [mhas]
    subst this; simp [mzero]
theorem isWear_iff {t f : Mask} : isWearB t f = true ↔ isMaskB t = true ∧ isMaskB f = true ∧ ∀ i : Nat, i < 128 → (mhas t i = true → mhas f i = false) := by
  unfold isWearB
  rw [Bool.and_eq_true, Bool.and_eq_true, mzero_iff, and_assoc]
  refine and_congr_right fun _ => and_congr_right fun _ => forall_congr' fun i => forall_congr' fun hi => ?_
  rw [mhas_and]
  cases mhas t i <;> cases mhas f i <;> simp
theorem sm_joinV {a b : Mask} (ha : isMaskB a = true) (hb : isMaskB b = true) : isMaskB (mjoin a b) = true := by
  unfold isMaskB mjoin at *
  rw [decide_eq_true_eq] at *
  rw [BitVec.toNat_or]
  exact Nat.or_lt_two_pow (n := 96) ha hb
theorem isMask_zero : isMaskB 0 = true := by decide
theorem wear_zero : isWearB 0 0 = true := by decide
theorem wear_tear {t f b : Mask} (h : isWearB t f = true) (hb : isMaskB b = true) : isWearB (mjoin t b) (mless f b) = true := by
  obtain ⟨h1, h2, h3⟩ := isWear_iff.1 h
  refine isWear_iff.2 ⟨sm_joinV h1 hb, sm_less h2, fun i hi => ?_⟩
  have q1 := h3 i hi
  revert q1
  rw [mhas_or, mhas_less _ _ _ hi]
  cases mhas t i <;> cases mhas f i <;> cases mhas b i <;> simp
theorem wear_fill {t f b : Mask} (h : isWearB t f = true) (hb : isMaskB b = true) : isWearB (mless t b) (mjoin f b) = true := by
  obtain ⟨h1, h2, h3⟩ := isWear_iff.1 h
  refine isWear_iff.2 ⟨sm_less h1, sm_joinV h2 hb, fun i hi => ?_⟩
  have q1 := h3 i hi
  revert q1
  rw [mhas_or, mhas_less _ _ _ hi]
  cases mhas t i <;> cases mhas f i <;> cases mhas b i <;> simp
theorem wear_between {a b : Mask} (ha : isMaskB a = true) (hb : isMaskB b = true) : isWearB (mless b a) (mless a b) = true := by
  refine isWear_iff.2 ⟨sm_less hb, sm_less ha, fun i hi => ?_⟩
  rw [mhas_less _ _ _ hi, mhas_less _ _ _ hi]
  cases mhas a i <;> cases mhas b i <;> simp
theorem wear_swap {t f : Mask} (h : isWearB t f = true) : isWearB f t = true := by
  obtain ⟨h1, h2, h3⟩ := isWear_iff.1 h
  refine isWear_iff.2 ⟨h2, h1, fun i hi => ?_⟩
  have q1 := h3 i hi
  revert q1
  cases mhas t i <;> cases mhas f i <;> simp
theorem wear_after {t f t' f' : Mask} (h : isWearB t f = true) (h' : isWearB t' f' = true) : isWearB (mjoin t' (mless t f')) (mjoin f' (mless f t')) = true := by
  obtain ⟨h1, h2, h3⟩ := isWear_iff.1 h
  obtain ⟨g1, g2, g3⟩ := isWear_iff.1 h'
  refine isWear_iff.2 ⟨sm_joinV g1 (sm_less h1), sm_joinV g2 (sm_less h2), fun i hi => ?_⟩
  have q1 := h3 i hi
  revert q1
  have q2 := g3 i hi
  revert q2
  rw [mhas_or, mhas_less _ _ _ hi, mhas_or, mhas_less _ _ _ hi]
  cases mhas t i <;> cases mhas f i <;> cases mhas t' i <;> cases mhas f' i <;> simp
theorem worn_between (a b : Mask) : mless (mjoin a (mless b a)) (mless a b) = b := mask_ext fun i hi => by
  rw [mhas_less _ _ _ hi, mhas_or, mhas_less _ _ _ hi, mhas_less _ _ _ hi]
  cases mhas a i <;> cases mhas b i <;> rfl
theorem worn_after {t f t' f' : Mask} (a : Mask) (h : isWearB t f = true) (h' : isWearB t' f' = true) : mless (mjoin a (mjoin t' (mless t f'))) (mjoin f' (mless f t')) = mless (mjoin (mless (mjoin a t) f) t') f' := by
  obtain ⟨h1, h2, h3⟩ := isWear_iff.1 h
  obtain ⟨g1, g2, g3⟩ := isWear_iff.1 h'
  refine mask_ext fun i hi => ?_
  have q1 := h3 i hi
  revert q1
  have q2 := g3 i hi
  revert q2
  simp only [mhas_less _ _ _ hi, mhas_or]
  cases mhas t i <;> cases mhas f i <;> cases mhas t' i <;> cases mhas f' i <;> cases mhas a i <;> simp
/-- What wear changes, if nothing is torn that is torn and nothing filled that is not. -/
theorem worn_torn {t f a : Mask} (h : ∀ i : Nat, i < 128 → (mhas t i = true → mhas a i = false) ∧ (mhas f i = true → mhas a i = true)) : mless (mless (mjoin a t) f) a = t ∧ mless a (mless (mjoin a t) f) = f := by
  constructor
  all_goals
    refine mask_ext fun i hi => ?_
    have q1 := h i hi
    revert q1
    simp only [mhas_less _ _ _ hi, mhas_or]
    cases mhas t i <;> cases mhas f i <;> cases mhas a i <;> simp
end Go.Proofs.YtegopgpnjgikeaaDoor
