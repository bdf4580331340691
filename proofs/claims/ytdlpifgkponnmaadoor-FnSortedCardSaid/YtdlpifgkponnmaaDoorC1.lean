/-
  Contracts of the functions on masks, holes and wear: what each call returns, and that it only adds blocks.
-/
import Derived.Test.YtdlpifgkponnmaaDoorRows
import Derived.Test.YtdlpifgkponnmaaDoorL0
set_option linter.unusedVariables false
set_option linter.unusedSimpArgs false
namespace Go.Proofs.YtdlpifgkponnmaaDoor
open Go.RowKit

theorem eqA_Mask (d : Nat) (a b c f : Int) (w : World) :
    (Op.equalIn (d + 2) 58 (.agg #[.int .u64 a, .int .u64 b]) (.agg #[.int .u64 c, .int .u64 f])).run Tryd.prog w = .ok (a == c && b == f) w := by
  rw [Op.equalIn]
  simp only [Sem.run_bind, run_underlying Tryd.underlying58, Result.andThen_ok, Std.Legacy.Range.forIn_eq_forIn_range', Std.Legacy.Range.size]
  go_simp
  rw [show List.range' 0 2 = [0, 1] from rfl]
  cases h1 : (a == c) <;> cases h2 : (b == f) <;> go_simp

set_option maxHeartbeats 400000 in
theorem impl_isMask (m : Mask) (w : World) :
    Calls Tryd.prog 53 #[.agg #[.int .u64 (lo m), .int .u64 (hi m)]] w fun e w' => e = .returned (.bool (isMaskB m)) ∧ Ext w w' := by
  have h0 := hi_ge m
  have h1 := hi_lt m
  have e1 := isMask_eq m
  go_enter Tryd.func53, Tryd.ntmps53
  go_wp2
  go_ret
  exact ⟨rfl, (Ext.refl _).alloc _⟩

set_option maxHeartbeats 400000 in
theorem spec_l01Mask (m : Mask) (w : World) :
    Calls Tryd.prog 85 #[.agg #[.int .u64 (lo m), .int .u64 (hi m)]] w fun e w' => e = .returned (.bool (isMaskB m)) ∧ Ext w w' := by
  have h0 := hi_ge m
  have h1 := hi_lt m
  have e1 := isMask_eq m
  go_enter Tryd.func85, Tryd.ntmps85
  go_wp2
  go_ret
  exact ⟨rfl, (Ext.refl _).alloc _⟩

set_option maxHeartbeats 400000 in
theorem spec_l01Join (m n : Mask) (w : World) :
    Calls Tryd.prog 80 #[.agg #[.int .u64 (lo m), .int .u64 (hi m)], .agg #[.int .u64 (lo n), .int .u64 (hi n)]] w fun e w' => e = .returned (.agg #[.int .u64 (lo (mjoin m n)), .int .u64 (hi (mjoin m n))]) ∧ Ext w w' := by
  have e1 := lo_or m n
  have e2 := hi_or m n
  go_enter Tryd.func80, Tryd.ntmps80
  go_wp2
  refine bodyPost_ret (v := .agg #[.int .u64 (lo (mjoin m n)), .int .u64 (hi (mjoin m n))]) (by simp [results, Tryd.results80, go_sem]) rfl ⟨rfl, ?_⟩
  exact (((Ext.refl _).alloc _).alloc _).alloc _

set_option maxHeartbeats 400000 in
theorem impl_has (m : Mask) (h : Int) (h0 : 0 ≤ h) (h1 : h < 128) (w : World) :
    Calls Tryd.prog 74 #[.agg #[.int .u64 (lo m), .int .u64 (hi m)], .int .i64 h] w fun e w' => e = .returned (.bool (mhas m h)) ∧ Ext w w' := by
  have b0 := lo_ge m
  have b1 := lo_lt m
  have b2 := hi_ge m
  have b3 := hi_lt m
  by_cases hh : h < 64
  · have e0 : h / 64 = 0 := by omega
    have e1 := has_lo m h h0 hh
    go_enter Tryd.func74, Tryd.ntmps74
    go_wp2
    go_ret
    exact ⟨rfl, (Ext.refl _).alloc _⟩
  · have e0 : h / 64 = 1 := by omega
    have e1 := has_hi m h (by omega) h1
    go_enter Tryd.func74, Tryd.ntmps74
    go_wp2
    go_ret
    exact ⟨rfl, (Ext.refl _).alloc _⟩

set_option maxHeartbeats 400000 in
theorem spec_l01Has (m : Mask) (h : Int) (h0 : 0 ≤ h) (h1 : h < 128) (w : World) :
    Calls Tryd.prog 70 #[.agg #[.int .u64 (lo m), .int .u64 (hi m)], .int .i64 h] w fun e w' => e = .returned (.bool (mhas m h)) ∧ Ext w w' := by
  have b0 := lo_ge m
  have b1 := lo_lt m
  have b2 := hi_ge m
  have b3 := hi_lt m
  by_cases hh : h < 64
  · have e0 : h / 64 = 0 := by omega
    have e1 := lhas_lo m h h0 hh
    go_enter Tryd.func70, Tryd.ntmps70
    go_wp2
    go_ret
    exact ⟨rfl, (Ext.refl _).alloc _⟩
  · have e0 : h / 64 = 1 := by omega
    have e1 := lhas_hi m h (by omega) h1
    go_enter Tryd.func70, Tryd.ntmps70
    go_wp2
    go_ret
    exact ⟨rfl, (Ext.refl _).alloc _⟩

set_option maxHeartbeats 400000 in
theorem spec_l01Bit (h : Int) (h0 : 0 ≤ h) (h1 : h < 128) (w : World) :
    Calls Tryd.prog 83 #[.int .i64 h] w fun e w' => e = .returned (.agg #[.int .u64 (lo (mbit h)), .int .u64 (hi (mbit h))]) ∧ Ext w w' := by
  by_cases hh : h < 64
  · have e0 : h / 64 = 0 := by omega
    have e1 := bit_lo_w h h0 hh
    have e2 := bit_lo_z h h0 hh
    go_enter Tryd.func83, Tryd.ntmps83
    go_wp2
    refine bodyPost_ret (v := .agg #[.int .u64 (lo (mbit h)), .int .u64 0]) (by simp [results, Tryd.results83, go_sem]) rfl ⟨by first | rfl | rw [e2], ?_⟩
    exact (((Ext.refl _).alloc _).alloc _)
  · have e0 : h / 64 = 1 := by omega
    have e1 := bit_hi_w h (by omega) h1
    have e2 := bit_hi_z h (by omega) h1
    go_enter Tryd.func83, Tryd.ntmps83
    go_wp2
    refine bodyPost_ret (v := .agg #[.int .u64 0, .int .u64 (hi (mbit h))]) (by simp [results, Tryd.results83, go_sem]) rfl ⟨by first | rfl | rw [e2], ?_⟩
    exact (((Ext.refl _).alloc _).alloc _)

set_option maxHeartbeats 400000 in
theorem spec_l00In (n a b : Int) (w : World) :
    Calls Tryd.prog 56 #[.int .i64 n, .int .i64 a, .int .i64 b] w fun e w' => e = .returned (.bool (inB n a b)) ∧ Ext w w' := by
  by_cases h0 : a ≤ n
  · have e1 : inB n a b = decide (n ≤ b) := by simp [inB, h0]
    rw [e1]
    clear e1
    go_enter Tryd.func56, Tryd.ntmps56
    go_wp2
    go_ret
    exact ⟨rfl, Ext.refl _⟩
  · have e1 : inB n a b = false := by simp [inB, h0]
    rw [e1]
    clear e1
    go_enter Tryd.func56, Tryd.ntmps56
    go_wp2
    go_ret
    exact ⟨rfl, Ext.refl _⟩
set_option maxHeartbeats 400000 in
theorem impl_isHole (h : Int) (w : World) :
    Calls Tryd.prog 51 #[.int .i64 h] w fun e w' => e = .returned (.bool (isHoleB h)) ∧ Ext w w' := by
  by_cases h0 : 0 ≤ h
  · have e1 : isHoleB h = decide (h < 96) := by simp [isHoleB, h0]
    rw [e1]
    clear e1
    go_enter Tryd.func51, Tryd.ntmps51
    go_wp2
    go_ret
    exact ⟨rfl, Ext.refl _⟩
  · have e1 : isHoleB h = false := by simp [isHoleB, h0]
    rw [e1]
    clear e1
    go_enter Tryd.func51, Tryd.ntmps51
    go_wp2
    go_ret
    exact ⟨rfl, Ext.refl _⟩
set_option maxHeartbeats 400000 in
theorem laws_toMask (m : Mask) (w : World) :
    Calls Tryd.prog 59 #[.agg #[.int .u64 (lo m), .int .u64 (hi m)]] w fun e w' => e = .returned (.agg #[.int .u64 (lo m), .int .u64 (hi m)]) ∧ Ext w w' := by
  go_enter Tryd.func59, Tryd.ntmps59
  go_wp2
  refine wp_loop_rounds 3 ?_
  rw [rounds_succ]
  go_wp2
  rw [rounds_succ]
  go_wp2
  rw [rounds_succ]
  go_wp2
  refine bodyPost_ret (v := .agg #[.int .u64 (lo m), .int .u64 (hi m)]) (by simp [results, Tryd.results59, go_sem]) rfl ⟨rfl, ?_⟩
  (repeat (first | with_reducible exact Ext.refl _ | with_reducible exact hw | with_reducible exact hb9 | with_reducible exact hb8 | with_reducible exact hb7 | with_reducible exact hb6 | with_reducible exact hb5 | with_reducible exact hb4 | with_reducible exact hb3 | with_reducible exact hb2 | with_reducible exact hb1 | with_reducible refine Ext.alloc ?_ _ | with_reducible refine Ext.drew ?_ | ((with_reducible refine Ext.set ?_ ?_ _); focus (dsimp only; omega)) | with_reducible refine Ext.trans ?_ hb9 | with_reducible refine Ext.trans ?_ hb8 | with_reducible refine Ext.trans ?_ hb7 | with_reducible refine Ext.trans ?_ hb6 | with_reducible refine Ext.trans ?_ hb5 | with_reducible refine Ext.trans ?_ hb4 | with_reducible refine Ext.trans ?_ hb3 | with_reducible refine Ext.trans ?_ hb2 | with_reducible refine Ext.trans ?_ hb1 | with_reducible refine Ext.trans ?_ hw))
set_option maxHeartbeats 400000 in
theorem laws_eqMask (m n : Mask) (w : World) :
    Calls Tryd.prog 69 #[.agg #[.int .u64 (lo m), .int .u64 (hi m)], .agg #[.int .u64 (lo n), .int .u64 (hi n)]] w fun e w' => e = .returned (.bool (meqB m n)) ∧ Ext w w' := by
  have hx := @ExtOf.cell
  by_cases h0 : lo m = lo n
  · by_cases h1 : hi m = hi n
    · rw [show meqB m n = true by rw [← lohi_meq]; simp [h0, h1]]
      go_enter Tryd.func69, Tryd.ntmps69
      go_wp2
      refine wp_loop_rounds 3 ?_
      rw [rounds_succ]
      go_wp2
      refine wp_region_ext (by kernel_rfl) (by kernel_rfl) ?_
      repeat (first | go_big_quiet_step (fail) | quiet_step (fail))
      refine wpQuiet_nil ?_
      intro w1 hq1
      have hb1 := ext_of_class hq1
      clear hq1
      obtain ⟨hc1, hf1, hz1⟩ := bcell3 hb1
      try simp at hz1
      have hz1_0 : w.heap.size < w1.heap.size := by omega
      have hz1_1 : w.heap.size + 1 < w1.heap.size := by omega
      go_wp2
      rw [rounds_succ]
      go_wp2
      refine wp_region_ext (by kernel_rfl) (by kernel_rfl) ?_
      repeat (first | go_big_quiet_step (fail) | quiet_step (fail))
      refine wpQuiet_nil ?_
      intro w2 hq2
      have hb2 := ext_of_class hq2
      clear hq2
      obtain ⟨hc2, hf2, hz2⟩ := bcell3 hb2
      try simp at hz2
      have hz2_0 : w.heap.size < w2.heap.size := by omega
      have hz2_1 : w.heap.size + 1 < w2.heap.size := by omega
      go_wp2
      rw [rounds_succ]
      go_wp2
      go_ret
      refine ⟨rfl, ?_⟩
      (repeat (first | with_reducible exact Ext.refl _ | with_reducible exact hw | with_reducible exact hb9 | with_reducible exact hb8 | with_reducible exact hb7 | with_reducible exact hb6 | with_reducible exact hb5 | with_reducible exact hb4 | with_reducible exact hb3 | with_reducible exact hb2 | with_reducible exact hb1 | with_reducible refine Ext.alloc ?_ _ | with_reducible refine Ext.drew ?_ | ((with_reducible refine Ext.set ?_ ?_ _); focus (dsimp only; omega)) | with_reducible refine Ext.trans ?_ hb9 | with_reducible refine Ext.trans ?_ hb8 | with_reducible refine Ext.trans ?_ hb7 | with_reducible refine Ext.trans ?_ hb6 | with_reducible refine Ext.trans ?_ hb5 | with_reducible refine Ext.trans ?_ hb4 | with_reducible refine Ext.trans ?_ hb3 | with_reducible refine Ext.trans ?_ hb2 | with_reducible refine Ext.trans ?_ hb1 | with_reducible refine Ext.trans ?_ hw))
    · rw [show meqB m n = false by rw [← lohi_meq]; simp [h1]]
      have e2 : (hi m != hi n) = true := by simp [h1]
      go_enter Tryd.func69, Tryd.ntmps69
      go_wp2
      refine wp_loop_rounds 3 ?_
      rw [rounds_succ]
      go_wp2
      refine wp_region_ext (by kernel_rfl) (by kernel_rfl) ?_
      repeat (first | go_big_quiet_step (fail) | quiet_step (fail))
      refine wpQuiet_nil ?_
      intro w1 hq1
      have hb1 := ext_of_class hq1
      clear hq1
      obtain ⟨hc1, hf1, hz1⟩ := bcell3 hb1
      try simp at hz1
      have hz1_0 : w.heap.size < w1.heap.size := by omega
      have hz1_1 : w.heap.size + 1 < w1.heap.size := by omega
      go_wp2
      rw [rounds_succ]
      go_wp2
      refine wp_region_ext (by kernel_rfl) (by kernel_rfl) ?_
      repeat (first | go_big_quiet_step (fail) | quiet_step (fail))
      refine wpQuiet_nil ?_
      intro w2 hq2
      have hb2 := ext_of_class hq2
      clear hq2
      obtain ⟨hc2, hf2, hz2⟩ := bcell3 hb2
      try simp at hz2
      have hz2_0 : w.heap.size < w2.heap.size := by omega
      have hz2_1 : w.heap.size + 1 < w2.heap.size := by omega
      go_wp2
      go_ret
      refine ⟨rfl, ?_⟩
      (repeat (first | with_reducible exact Ext.refl _ | with_reducible exact hw | with_reducible exact hb9 | with_reducible exact hb8 | with_reducible exact hb7 | with_reducible exact hb6 | with_reducible exact hb5 | with_reducible exact hb4 | with_reducible exact hb3 | with_reducible exact hb2 | with_reducible exact hb1 | with_reducible refine Ext.alloc ?_ _ | with_reducible refine Ext.drew ?_ | ((with_reducible refine Ext.set ?_ ?_ _); focus (dsimp only; omega)) | with_reducible refine Ext.trans ?_ hb9 | with_reducible refine Ext.trans ?_ hb8 | with_reducible refine Ext.trans ?_ hb7 | with_reducible refine Ext.trans ?_ hb6 | with_reducible refine Ext.trans ?_ hb5 | with_reducible refine Ext.trans ?_ hb4 | with_reducible refine Ext.trans ?_ hb3 | with_reducible refine Ext.trans ?_ hb2 | with_reducible refine Ext.trans ?_ hb1 | with_reducible refine Ext.trans ?_ hw))
  · rw [show meqB m n = false by rw [← lohi_meq]; simp [h0]]
    have e2 : (lo m != lo n) = true := by simp [h0]
    go_enter Tryd.func69, Tryd.ntmps69
    go_wp2
    refine wp_loop_rounds 3 ?_
    rw [rounds_succ]
    go_wp2
    refine wp_region_ext (by kernel_rfl) (by kernel_rfl) ?_
    repeat (first | go_big_quiet_step (fail) | quiet_step (fail))
    refine wpQuiet_nil ?_
    intro w1 hq1
    have hb1 := ext_of_class hq1
    clear hq1
    obtain ⟨hc1, hf1, hz1⟩ := bcell3 hb1
    try simp at hz1
    have hz1_0 : w.heap.size < w1.heap.size := by omega
    have hz1_1 : w.heap.size + 1 < w1.heap.size := by omega
    go_wp2
    go_ret
    refine ⟨rfl, ?_⟩
    (repeat (first | with_reducible exact Ext.refl _ | with_reducible exact hw | with_reducible exact hb9 | with_reducible exact hb8 | with_reducible exact hb7 | with_reducible exact hb6 | with_reducible exact hb5 | with_reducible exact hb4 | with_reducible exact hb3 | with_reducible exact hb2 | with_reducible exact hb1 | with_reducible refine Ext.alloc ?_ _ | with_reducible refine Ext.drew ?_ | ((with_reducible refine Ext.set ?_ ?_ _); focus (dsimp only; omega)) | with_reducible refine Ext.trans ?_ hb9 | with_reducible refine Ext.trans ?_ hb8 | with_reducible refine Ext.trans ?_ hb7 | with_reducible refine Ext.trans ?_ hb6 | with_reducible refine Ext.trans ?_ hb5 | with_reducible refine Ext.trans ?_ hb4 | with_reducible refine Ext.trans ?_ hb3 | with_reducible refine Ext.trans ?_ hb2 | with_reducible refine Ext.trans ?_ hb1 | with_reducible refine Ext.trans ?_ hw))
