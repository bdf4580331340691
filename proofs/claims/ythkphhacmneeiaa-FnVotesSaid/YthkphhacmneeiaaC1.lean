/-
  Contracts of the functions on masks, holes and wear: what each call returns, and that it only adds blocks.
-/
import Derived.Test.YthkphhacmneeiaaRows
import Derived.Test.YthkphhacmneeiaaL0
set_option linter.unusedVariables false
set_option linter.unusedSimpArgs false
namespace Go.Proofs.Ythkphhacmneeiaa
open Go.RowKit

theorem eqA_Mask (d : Nat) (a b c f : Int) (w : World) :
    (Op.equalIn (d + 2) 26 (.agg #[.int .u64 a, .int .u64 b]) (.agg #[.int .u64 c, .int .u64 f])).run Try.prog w = .ok (a == c && b == f) w := by
  rw [Op.equalIn]
  simp only [Sem.run_bind, run_underlying Try.underlying26, Result.andThen_ok, Std.Legacy.Range.forIn_eq_forIn_range', Std.Legacy.Range.size]
  go_simp
  rw [show List.range' 0 2 = [0, 1] from rfl]
  cases h1 : (a == c) <;> cases h2 : (b == f) <;> go_simp

set_option maxHeartbeats 400000 in
theorem impl_isMask (m : Mask) (w : World) :
    Calls Try.prog 31 #[.agg #[.int .u64 (lo m), .int .u64 (hi m)]] w fun e w' => e = .returned (.bool (isMaskB m)) ∧ Ext w w' := by
  have h0 := hi_ge m
  have h1 := hi_lt m
  have e1 := isMask_eq m
  go_enter Try.func31, Try.ntmps31
  go_wp2
  go_ret
  exact ⟨rfl, (Ext.refl _).alloc _⟩

set_option maxHeartbeats 400000 in
theorem spec_l01Mask (m : Mask) (w : World) :
    Calls Try.prog 33 #[.agg #[.int .u64 (lo m), .int .u64 (hi m)]] w fun e w' => e = .returned (.bool (isMaskB m)) ∧ Ext w w' := by
  have h0 := hi_ge m
  have h1 := hi_lt m
  have e1 := isMask_eq m
  go_enter Try.func33, Try.ntmps33
  go_wp2
  go_ret
  exact ⟨rfl, (Ext.refl _).alloc _⟩

set_option maxHeartbeats 400000 in
theorem spec_l01Join (m n : Mask) (w : World) :
    Calls Try.prog 17 #[.agg #[.int .u64 (lo m), .int .u64 (hi m)], .agg #[.int .u64 (lo n), .int .u64 (hi n)]] w fun e w' => e = .returned (.agg #[.int .u64 (lo (mjoin m n)), .int .u64 (hi (mjoin m n))]) ∧ Ext w w' := by
  have e1 := lo_or m n
  have e2 := hi_or m n
  go_enter Try.func17, Try.ntmps17
  go_wp2
  refine bodyPost_ret (v := .agg #[.int .u64 (lo (mjoin m n)), .int .u64 (hi (mjoin m n))]) (by simp [results, Try.results17, go_sem]) rfl ⟨rfl, ?_⟩
  exact (((Ext.refl _).alloc _).alloc _).alloc _

set_option maxHeartbeats 400000 in
theorem spec_l01Less (m n : Mask) (w : World) :
    Calls Try.prog 22 #[.agg #[.int .u64 (lo m), .int .u64 (hi m)], .agg #[.int .u64 (lo n), .int .u64 (hi n)]] w fun e w' => e = .returned (.agg #[.int .u64 (lo (mless m n)), .int .u64 (hi (mless m n))]) ∧ Ext w w' := by
  have e1 := lo_andNot m n
  have e2 := hi_andNot m n
  go_enter Try.func22, Try.ntmps22
  go_wp2
  refine bodyPost_ret (v := .agg #[.int .u64 (lo (mless m n)), .int .u64 (hi (mless m n))]) (by simp [results, Try.results22, go_sem]) rfl ⟨rfl, ?_⟩
  exact (((Ext.refl _).alloc _).alloc _).alloc _

set_option maxHeartbeats 400000 in
theorem spec_JoinMasks (m n : Mask) (w : World) :
    Calls Try.prog 8 #[.agg #[.int .u64 (lo m), .int .u64 (hi m)], .agg #[.int .u64 (lo n), .int .u64 (hi n)]] w fun e w' => e = .returned (.agg #[.int .u64 (lo (mjoin m n)), .int .u64 (hi (mjoin m n))]) ∧ Ext w w' := by
  go_enter Try.func8, Try.ntmps8
  go_wp2_with fail
  refine Calls.mono (spec_l01Join _ _ _) ?_
  rintro e w1 ⟨rfl, hb1⟩
  obtain ⟨hc1, hf1, hz1⟩ := bcell3 hb1
  try simp at hz1
  have hz1_0 : w.heap.size < w1.heap.size := by omega
  have hz1_1 : w.heap.size + 1 < w1.heap.size := by omega
  have hz1_2 : w.heap.size + 1 + 1 < w1.heap.size := by omega
  go_wp2
  refine bodyPost_ret (v := .agg #[.int .u64 (lo (mjoin m n)), .int .u64 (hi (mjoin m n))]) (by simp [results, Try.results8, go_sem, hc1, hz1_0, hz1_1, hz1_2]) rfl ⟨rfl, ?_⟩
  (repeat (first | with_reducible exact Ext.refl _ | with_reducible exact hw | with_reducible exact hb9 | with_reducible exact hb8 | with_reducible exact hb7 | with_reducible exact hb6 | with_reducible exact hb5 | with_reducible exact hb4 | with_reducible exact hb3 | with_reducible exact hb2 | with_reducible exact hb1 | with_reducible refine Ext.alloc ?_ _ | with_reducible refine Ext.drew ?_ | ((with_reducible refine Ext.set ?_ ?_ _); focus (dsimp only; omega)) | with_reducible refine Ext.trans ?_ hb9 | with_reducible refine Ext.trans ?_ hb8 | with_reducible refine Ext.trans ?_ hb7 | with_reducible refine Ext.trans ?_ hb6 | with_reducible refine Ext.trans ?_ hb5 | with_reducible refine Ext.trans ?_ hb4 | with_reducible refine Ext.trans ?_ hb3 | with_reducible refine Ext.trans ?_ hb2 | with_reducible refine Ext.trans ?_ hb1 | with_reducible refine Ext.trans ?_ hw))

set_option maxHeartbeats 400000 in
theorem spec_LessMask (m n : Mask) (w : World) :
    Calls Try.prog 9 #[.agg #[.int .u64 (lo m), .int .u64 (hi m)], .agg #[.int .u64 (lo n), .int .u64 (hi n)]] w fun e w' => e = .returned (.agg #[.int .u64 (lo (mless m n)), .int .u64 (hi (mless m n))]) ∧ Ext w w' := by
  go_enter Try.func9, Try.ntmps9
  go_wp2_with fail
  refine Calls.mono (spec_l01Less _ _ _) ?_
  rintro e w1 ⟨rfl, hb1⟩
  obtain ⟨hc1, hf1, hz1⟩ := bcell3 hb1
  try simp at hz1
  have hz1_0 : w.heap.size < w1.heap.size := by omega
  have hz1_1 : w.heap.size + 1 < w1.heap.size := by omega
  have hz1_2 : w.heap.size + 1 + 1 < w1.heap.size := by omega
  go_wp2
  refine bodyPost_ret (v := .agg #[.int .u64 (lo (mless m n)), .int .u64 (hi (mless m n))]) (by simp [results, Try.results9, go_sem, hc1, hz1_0, hz1_1, hz1_2]) rfl ⟨rfl, ?_⟩
  (repeat (first | with_reducible exact Ext.refl _ | with_reducible exact hw | with_reducible exact hb9 | with_reducible exact hb8 | with_reducible exact hb7 | with_reducible exact hb6 | with_reducible exact hb5 | with_reducible exact hb4 | with_reducible exact hb3 | with_reducible exact hb2 | with_reducible exact hb1 | with_reducible refine Ext.alloc ?_ _ | with_reducible refine Ext.drew ?_ | ((with_reducible refine Ext.set ?_ ?_ _); focus (dsimp only; omega)) | with_reducible refine Ext.trans ?_ hb9 | with_reducible refine Ext.trans ?_ hb8 | with_reducible refine Ext.trans ?_ hb7 | with_reducible refine Ext.trans ?_ hb6 | with_reducible refine Ext.trans ?_ hb5 | with_reducible refine Ext.trans ?_ hb4 | with_reducible refine Ext.trans ?_ hb3 | with_reducible refine Ext.trans ?_ hb2 | with_reducible refine Ext.trans ?_ hb1 | with_reducible refine Ext.trans ?_ hw))

set_option maxHeartbeats 400000 in
theorem impl_has (m : Mask) (h : Int) (h0 : 0 ≤ h) (h1 : h < 128) (w : World) :
    Calls Try.prog 32 #[.agg #[.int .u64 (lo m), .int .u64 (hi m)], .int .i64 h] w fun e w' => e = .returned (.bool (mhas m h)) ∧ Ext w w' := by
  have b0 := lo_ge m
  have b1 := lo_lt m
  have b2 := hi_ge m
  have b3 := hi_lt m
  by_cases hh : h < 64
  · have e0 : h / 64 = 0 := by omega
    have e1 := has_lo m h h0 hh
    go_enter Try.func32, Try.ntmps32
    go_wp2
    go_ret
    exact ⟨rfl, (Ext.refl _).alloc _⟩
  · have e0 : h / 64 = 1 := by omega
    have e1 := has_hi m h (by omega) h1
    go_enter Try.func32, Try.ntmps32
    go_wp2
    go_ret
    exact ⟨rfl, (Ext.refl _).alloc _⟩

set_option maxHeartbeats 400000 in
theorem spec_l01Has (m : Mask) (h : Int) (h0 : 0 ≤ h) (h1 : h < 128) (w : World) :
    Calls Try.prog 27 #[.agg #[.int .u64 (lo m), .int .u64 (hi m)], .int .i64 h] w fun e w' => e = .returned (.bool (mhas m h)) ∧ Ext w w' := by
  have b0 := lo_ge m
  have b1 := lo_lt m
  have b2 := hi_ge m
  have b3 := hi_lt m
  by_cases hh : h < 64
  · have e0 : h / 64 = 0 := by omega
    have e1 := lhas_lo m h h0 hh
    go_enter Try.func27, Try.ntmps27
    go_wp2
    go_ret
    exact ⟨rfl, (Ext.refl _).alloc _⟩
  · have e0 : h / 64 = 1 := by omega
    have e1 := lhas_hi m h (by omega) h1
    go_enter Try.func27, Try.ntmps27
    go_wp2
    go_ret
    exact ⟨rfl, (Ext.refl _).alloc _⟩

set_option maxHeartbeats 400000 in
theorem spec_l01Bit (h : Int) (h0 : 0 ≤ h) (h1 : h < 128) (w : World) :
    Calls Try.prog 18 #[.int .i64 h] w fun e w' => e = .returned (.agg #[.int .u64 (lo (mbit h)), .int .u64 (hi (mbit h))]) ∧ Ext w w' := by
  by_cases hh : h < 64
  · have e0 : h / 64 = 0 := by omega
    have e1 := bit_lo_w h h0 hh
    have e2 := bit_lo_z h h0 hh
    go_enter Try.func18, Try.ntmps18
    go_wp2
    refine bodyPost_ret (v := .agg #[.int .u64 (lo (mbit h)), .int .u64 0]) (by simp [results, Try.results18, go_sem]) rfl ⟨by first | rfl | rw [e2], ?_⟩
    exact (((Ext.refl _).alloc _).alloc _)
  · have e0 : h / 64 = 1 := by omega
    have e1 := bit_hi_w h (by omega) h1
    have e2 := bit_hi_z h (by omega) h1
    go_enter Try.func18, Try.ntmps18
    go_wp2
    refine bodyPost_ret (v := .agg #[.int .u64 0, .int .u64 (hi (mbit h))]) (by simp [results, Try.results18, go_sem]) rfl ⟨by first | rfl | rw [e2], ?_⟩
    exact (((Ext.refl _).alloc _).alloc _)

set_option maxHeartbeats 400000 in
theorem spec_l00In (n a b : Int) (w : World) :
    Calls Try.prog 36 #[.int .i64 n, .int .i64 a, .int .i64 b] w fun e w' => e = .returned (.bool (inB n a b)) ∧ Ext w w' := by
  by_cases h0 : a ≤ n
  · have e1 : inB n a b = decide (n ≤ b) := by simp [inB, h0]
    rw [e1]
    clear e1
    go_enter Try.func36, Try.ntmps36
    go_wp2
    go_ret
    exact ⟨rfl, Ext.refl _⟩
  · have e1 : inB n a b = false := by simp [inB, h0]
    rw [e1]
    clear e1
    go_enter Try.func36, Try.ntmps36
    go_wp2
    go_ret
    exact ⟨rfl, Ext.refl _⟩
set_option maxHeartbeats 400000 in
theorem impl_isHole (h : Int) (w : World) :
    Calls Try.prog 25 #[.int .i64 h] w fun e w' => e = .returned (.bool (isHoleB h)) ∧ Ext w w' := by
  by_cases h0 : 0 ≤ h
  · have e1 : isHoleB h = decide (h < 96) := by simp [isHoleB, h0]
    rw [e1]
    clear e1
    go_enter Try.func25, Try.ntmps25
    go_wp2
    go_ret
    exact ⟨rfl, Ext.refl _⟩
  · have e1 : isHoleB h = false := by simp [isHoleB, h0]
    rw [e1]
    clear e1
    go_enter Try.func25, Try.ntmps25
    go_wp2
    go_ret
    exact ⟨rfl, Ext.refl _⟩
set_option maxHeartbeats 400000 in
theorem spec_l01Hole (h : Int) (w : World) :
    Calls Try.prog 34 #[.int .i64 h] w fun e w' => e = .returned (.bool (isHoleB h)) ∧ Ext w w' := by
  rw [← inB_hole]
  go_enter Try.func34, Try.ntmps34
  go_wp2_with fail
  refine Calls.mono (spec_l00In _ _ _ _) ?_
  rintro e w1 ⟨rfl, hb1⟩
  obtain ⟨hc1, hf1, hz1⟩ := bcell3 hb1
  try simp at hz1
  go_wp2
  go_ret
  exact ⟨rfl, hb1⟩
