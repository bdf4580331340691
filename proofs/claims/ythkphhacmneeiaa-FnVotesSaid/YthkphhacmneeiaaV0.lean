/-
  Plain laws: masks by their holes; votes of few masks.
-/
import Derived.Test.YthkphhacmneeiaaC7
import Derived.Test.YthkphhacmneeiaaS0
set_option linter.unusedVariables false
set_option linter.unusedSimpArgs false
set_option maxRecDepth 100000
namespace Go.Proofs.Ythkphhacmneeiaa
open Go.RowKit
theorem mhas_or (a b : Mask) (i : Nat) : mhas (mjoin a b) i = (mhas a i || mhas b i) := by simp [mhas, mjoin]
theorem mhas_less (a b : Mask) (i : Nat) (h : i < 128) : mhas (mless a b) i = (mhas a i && !mhas b i) := by simp [mhas, mless, h]
theorem mhas_and (a b : Mask) (i : Nat) : mhas (mmeet a b) i = (mhas a i && mhas b i) := by simp [mhas, mmeet]
theorem mhas_bit (k i : Nat) (hk : k < 128) : mhas (mbit k) i = decide (i = k) := by
  unfold mhas mbit
  rw [BitVec.getLsbD_shiftLeft]
  simp only [Int.toNat_natCast]
  by_cases h : i = k
  · subst h; simp [hk]
  · have h1 : decide (i = k) = false := decide_eq_false h
    rw [h1]
    by_cases h2 : i < k
    · simp [h2]
    · have h3 : BitVec.getLsbD 1#128 (i - k) = false := by rw [BitVec.getLsbD_one]; simp; omega
      rw [h3]; simp
theorem mask_ext {a b : Mask} (h : ∀ i : Nat, i < 128 → mhas a i = mhas b i) : a = b := BitVec.eq_of_getLsbD_eq fun i hi => by have := h i hi; simpa [mhas] using this
theorem mask_high {m : Mask} (h : isMaskB m = true) (i : Nat) (hi : 96 ≤ i) : mhas m i = false := by
  unfold isMaskB at h
  rw [decide_eq_true_eq] at h
  show m.toNat.testBit i = false
  exact Nat.testBit_lt_two_pow (Nat.lt_of_lt_of_le h (Nat.pow_le_pow_right (n := 2) (by decide) hi))
theorem pick_has (p : Int → Bool) (i : Nat) : ∀ k : Nat, k ≤ 128 → mhas (pickTo p k) i = (decide (i < k) && p i)
  | 0, _ => by rw [pickTo_zero]; simp [mhas]
  | k + 1, hk => by
    have ih := pick_has p i k (by omega)
    cases hp : p k with
    | true =>
      rw [pickTo_hit p k hp, mhas_or, ih, mhas_bit k i (by omega)]
      by_cases h : i = k
      · subst h; simp [hp]
      · have : (decide (i < k + 1)) = decide (i < k) := by rw [decide_eq_decide]; omega
        rw [this]; simp [h]
    | false =>
      rw [pickTo_miss p k hp, ih]
      by_cases h : i = k
      · subst h; simp [hp]
      · have : (decide (i < k + 1)) = decide (i < k) := by rw [decide_eq_decide]; omega
        rw [this]
theorem pick_eq {p : Int → Bool} {a : Mask} (ha : isMaskB a = true) (h : ∀ i : Nat, i < 96 → p i = mhas a i) : pickTo p 96 = a := mask_ext fun i hi => by
  rw [pick_has p i 96 (by decide)]
  by_cases h1 : i < 96
  · rw [h i h1]; simp [h1]
  · rw [mask_high ha i (by omega)]; simp [h1]
theorem sm_less {m n : Mask} (h : isMaskB m = true) : isMaskB (mless m n) = true := by
  unfold isMaskB mless at *
  rw [decide_eq_true_eq] at *
  rw [BitVec.toNat_and]
  exact Nat.lt_of_le_of_lt Nat.and_le_left h
theorem codes_ok {xs : List Mask} (h : ∀ m ∈ xs, isMaskB m = true) (hl : xs.length ≤ 15) : masksCode xs = 0 := by
  unfold masksCode
  rw [if_pos (List.all_eq_true.2 h), if_neg (by omega)]
theorem votes3 (a b : Mask) (h : Int) : votesN h [a, b, a] = 2 * (if mhas a h = true then 1 else 0) + (if mhas b h = true then 1 else 0) := by
  unfold votesN
  simp only [List.countP_cons, List.countP_nil]
  cases mhas a h <;> cases mhas b h <;> rfl
theorem ok3 {a b : Mask} (ha : isMaskB a = true) (hb : isMaskB b = true) : masksCode [a, b, a] = 0 := codes_ok (fun m hm => by simp at hm; rcases hm with rfl | rfl | rfl <;> assumption) (by simp)
theorem maj3 {a b : Mask} (ha : isMaskB a = true) (hb : isMaskB b = true) : majF [a, b, a] = (a, 0) := by
  unfold majF
  rw [if_pos (ok3 ha hb), if_neg (by simp)]
  refine Prod.ext (pick_eq ha fun i hi => ?_) rfl
  unfold majP
  rw [votes3]
  cases mhas a i <;> cases mhas b i <;> rfl
theorem lon3 {a b : Mask} (ha : isMaskB a = true) (hb : isMaskB b = true) : lonF [a, b, a] = (mjoin (mless a b) (mless b a), 0) := by
  unfold lonF
  rw [if_pos (ok3 ha hb), if_neg (by simp)]
  refine Prod.ext (pick_eq (sm_join (sm_less ha) (sm_less hb)) fun i hi => ?_) rfl
  unfold lonP
  rw [votes3, mhas_or, mhas_less _ _ _ (by omega), mhas_less _ _ _ (by omega)]
  cases mhas a i <;> cases mhas b i <;> rfl
theorem maj_ok {xs : List Mask} (h : ∀ m ∈ xs, isMaskB m = true) (h1 : 1 ≤ xs.length) (h2 : xs.length ≤ 15) : majF xs = (pickTo (majP xs) 96, 0) := by
  unfold majF
  rw [if_pos (codes_ok h h2), if_neg (by omega)]
theorem maj_mask (p : Int → Bool) : isMaskB (pickTo p 96) = true := by
  unfold isMaskB
  rw [decide_eq_true_eq]
  show (pickTo p 96).toNat < 2 ^ 96
  refine Nat.lt_pow_two_of_testBit _ (fun i hi => ?_)
  have := pick_has p i 96 (by decide)
  rw [decide_eq_false (by omega), Bool.false_and] at this
  exact this
theorem maj_has (xs : List Mask) (i : Nat) (h : i < 96) : mhas (pickTo (majP xs) 96) i = decide (2 * votesN i xs > xs.length) := by
  rw [pick_has _ _ _ (by decide), decide_eq_true h, Bool.true_and]; rfl
theorem lon_code {xs : List Mask} (h : ∀ m ∈ xs, isMaskB m = true) (h2 : xs.length ≤ 15) : (lonF xs).2 = if xs.length < 3 then 6 else 0 := by
  unfold lonF
  rw [if_pos (codes_ok h h2)]
  split <;> rfl
theorem votes_ok {xs : List Mask} (h : ∀ m ∈ xs, isMaskB m = true) (h2 : xs.length ≤ 15) (i : Nat) (hi : i < 96) : votesF xs i = (votesN i xs, 0) := by
  unfold votesF
  rw [if_pos (codes_ok h h2), if_pos (by unfold isHoleB; rw [Bool.and_eq_true, decide_eq_true_eq, decide_eq_true_eq]; omega)]
set_option maxHeartbeats 400000 in
theorem spec_l01Asked (m : Mask) (hm : isMaskB m = true) (h : Int) (h0 : 0 ≤ h) (h1 : h < 96) (w : World) :
    Calls Try.prog 26 #[.agg #[.int .u64 (lo m), .int .u64 (hi m)], .int .i64 h] w fun e w' => e = .returned (.int .i64 0) ∧ Ext w w' := by
  have hh : isHoleB h = true := by unfold isHoleB; rw [Bool.and_eq_true, decide_eq_true_eq, decide_eq_true_eq]; omega
  have c1 := fun W => spec_l01Mask m W
  have c2 := fun W => spec_l01Hole h W
  rw [hm] at c1
  rw [hh] at c2
  go_enter Try.func26, Try.ntmps26
  go_wp2_with fail
  refine Calls.mono (c1 _) ?_
  rintro e w1 ⟨rfl, hb1⟩
  go_wp2_with fail
  refine Calls.mono (c2 _) ?_
  rintro e w2 ⟨rfl, hb2⟩
  go_wp2
  go_ret
  exact ⟨rfl, (((Ext.refl _).alloc _).trans hb1).trans hb2⟩
set_option maxHeartbeats 400000 in
theorem spec_HasHole (m : Mask) (hm : isMaskB m = true) (h : Int) (h0 : 0 ≤ h) (h1 : h < 96) (w : World) :
    Calls Try.prog 14 #[.agg #[.int .u64 (lo m), .int .u64 (hi m)], .int .i64 h] w fun e w' => e = .returned (.tuple #[.bool (mhas m h), .int .i64 0]) ∧ Ext w w' := by
  have c1 := fun W => spec_l01Asked m hm h h0 h1 W
  have c2 := fun W => spec_l01Has m h h0 (by omega) W
  have hX : BoxAt (w.alloc (.cells #[.int .u64 (lo m), .int .u64 (hi m)] 26)) w.heap.size #[.int .u64 (lo m), .int .u64 (hi m)] 26 := BoxAt.new' rfl
  go_enter Try.func14, Try.ntmps14
  go_wp2_with fail
  refine Calls.mono (c1 _) ?_
  rintro e w1 ⟨rfl, hb1⟩
  have x0 : w1.cell? ⟨w.heap.size, 0, none⟩ = some (.int .u64 (lo m)) := (hX.ext hb1).cell 0
  have x1 : w1.cell? ⟨w.heap.size, 1, none⟩ = some (.int .u64 (hi m)) := (hX.ext hb1).cell 1
  go_wp2_with fail
  refine Calls.mono (c2 _) ?_
  rintro e w2 ⟨rfl, hb2⟩
  go_wp2
  refine bodyPost_ret (v := .tuple #[.bool (mhas m h), .int .i64 0]) (by simp [results, Try.results14, go_sem]) rfl ⟨rfl, (((Ext.refl _).alloc _).trans hb1).trans hb2⟩
end Go.Proofs.Ythkphhacmneeiaa
