/-
  Contracts of the functions on masks, holes and wear: what each call returns, and that it only adds blocks.
-/
import Derived.Test.YtegopgpnjgikeaaDoorRows
import Derived.Test.YtegopgpnjgikeaaDoorL0
set_option linter.unusedVariables false
set_option linter.unusedSimpArgs false
namespace Go.Proofs.YtegopgpnjgikeaaDoor
open Go.RowKit

theorem eqA_Mask (d : Nat) (a b c f : Int) (w : World) :
    (Op.equalIn (d + 2) 33 (.agg #[.int .u64 a, .int .u64 b]) (.agg #[.int .u64 c, .int .u64 f])).run Tryd.prog w = .ok (a == c && b == f) w := by
  rw [Op.equalIn]
  simp only [Sem.run_bind, run_underlying Tryd.underlying33, Result.andThen_ok, Std.Legacy.Range.forIn_eq_forIn_range', Std.Legacy.Range.size]
  go_simp
  rw [show List.range' 0 2 = [0, 1] from rfl]
  cases h1 : (a == c) <;> cases h2 : (b == f) <;> go_simp

set_option maxHeartbeats 400000 in
theorem impl_isMask (m : Mask) (w : World) :
    Calls Tryd.prog 80 #[.agg #[.int .u64 (lo m), .int .u64 (hi m)]] w fun e w' => e = .returned (.bool (isMaskB m)) ∧ Ext w w' := by
  have h0 := hi_ge m
  have h1 := hi_lt m
  have e1 := isMask_eq m
  go_enter Tryd.func80, Tryd.ntmps80
  go_wp2
  go_ret
  exact ⟨rfl, (Ext.refl _).alloc _⟩

set_option maxHeartbeats 400000 in
theorem spec_l01Mask (m : Mask) (w : World) :
    Calls Tryd.prog 82 #[.agg #[.int .u64 (lo m), .int .u64 (hi m)]] w fun e w' => e = .returned (.bool (isMaskB m)) ∧ Ext w w' := by
  have h0 := hi_ge m
  have h1 := hi_lt m
  have e1 := isMask_eq m
  go_enter Tryd.func82, Tryd.ntmps82
  go_wp2
  go_ret
  exact ⟨rfl, (Ext.refl _).alloc _⟩

set_option maxHeartbeats 400000 in
theorem impl_MeetMasks (m n : Mask) (w : World) :
    Calls Tryd.prog 52 #[.agg #[.int .u64 (lo m), .int .u64 (hi m)], .agg #[.int .u64 (lo n), .int .u64 (hi n)]] w fun e w' => e = .returned (.agg #[.int .u64 (lo (mmeet m n)), .int .u64 (hi (mmeet m n))]) ∧ Ext w w' := by
  have e1 := lo_and m n
  have e2 := hi_and m n
  go_enter Tryd.func52, Tryd.ntmps52
  go_wp2
  refine bodyPost_ret (v := .agg #[.int .u64 (lo (mmeet m n)), .int .u64 (hi (mmeet m n))]) (by simp [results, Tryd.results52, go_sem]) rfl ⟨rfl, ?_⟩
  exact (((Ext.refl _).alloc _).alloc _).alloc _

set_option maxHeartbeats 400000 in
theorem impl_JoinMasks (m n : Mask) (w : World) :
    Calls Tryd.prog 99 #[.agg #[.int .u64 (lo m), .int .u64 (hi m)], .agg #[.int .u64 (lo n), .int .u64 (hi n)]] w fun e w' => e = .returned (.agg #[.int .u64 (lo (mjoin m n)), .int .u64 (hi (mjoin m n))]) ∧ Ext w w' := by
  have e1 := lo_or m n
  have e2 := hi_or m n
  go_enter Tryd.func99, Tryd.ntmps99
  go_wp2
  refine bodyPost_ret (v := .agg #[.int .u64 (lo (mjoin m n)), .int .u64 (hi (mjoin m n))]) (by simp [results, Tryd.results99, go_sem]) rfl ⟨rfl, ?_⟩
  exact (((Ext.refl _).alloc _).alloc _).alloc _

set_option maxHeartbeats 400000 in
theorem impl_LessMask (m n : Mask) (w : World) :
    Calls Tryd.prog 108 #[.agg #[.int .u64 (lo m), .int .u64 (hi m)], .agg #[.int .u64 (lo n), .int .u64 (hi n)]] w fun e w' => e = .returned (.agg #[.int .u64 (lo (mless m n)), .int .u64 (hi (mless m n))]) ∧ Ext w w' := by
  have e1 := lo_andNot m n
  have e2 := hi_andNot m n
  go_enter Tryd.func108, Tryd.ntmps108
  go_wp2
  refine bodyPost_ret (v := .agg #[.int .u64 (lo (mless m n)), .int .u64 (hi (mless m n))]) (by simp [results, Tryd.results108, go_sem]) rfl ⟨rfl, ?_⟩
  exact (((Ext.refl _).alloc _).alloc _).alloc _

set_option maxHeartbeats 400000 in
theorem spec_l01Meet (m n : Mask) (w : World) :
    Calls Tryd.prog 79 #[.agg #[.int .u64 (lo m), .int .u64 (hi m)], .agg #[.int .u64 (lo n), .int .u64 (hi n)]] w fun e w' => e = .returned (.agg #[.int .u64 (lo (mmeet m n)), .int .u64 (hi (mmeet m n))]) ∧ Ext w w' := by
  have e1 := lo_and m n
  have e2 := hi_and m n
  go_enter Tryd.func79, Tryd.ntmps79
  go_wp2
  refine bodyPost_ret (v := .agg #[.int .u64 (lo (mmeet m n)), .int .u64 (hi (mmeet m n))]) (by simp [results, Tryd.results79, go_sem]) rfl ⟨rfl, ?_⟩
  exact (((Ext.refl _).alloc _).alloc _).alloc _

set_option maxHeartbeats 400000 in
theorem spec_l01Join (m n : Mask) (w : World) :
    Calls Tryd.prog 61 #[.agg #[.int .u64 (lo m), .int .u64 (hi m)], .agg #[.int .u64 (lo n), .int .u64 (hi n)]] w fun e w' => e = .returned (.agg #[.int .u64 (lo (mjoin m n)), .int .u64 (hi (mjoin m n))]) ∧ Ext w w' := by
  have e1 := lo_or m n
  have e2 := hi_or m n
  go_enter Tryd.func61, Tryd.ntmps61
  go_wp2
  refine bodyPost_ret (v := .agg #[.int .u64 (lo (mjoin m n)), .int .u64 (hi (mjoin m n))]) (by simp [results, Tryd.results61, go_sem]) rfl ⟨rfl, ?_⟩
  exact (((Ext.refl _).alloc _).alloc _).alloc _

set_option maxHeartbeats 400000 in
theorem spec_l01Less (m n : Mask) (w : World) :
    Calls Tryd.prog 78 #[.agg #[.int .u64 (lo m), .int .u64 (hi m)], .agg #[.int .u64 (lo n), .int .u64 (hi n)]] w fun e w' => e = .returned (.agg #[.int .u64 (lo (mless m n)), .int .u64 (hi (mless m n))]) ∧ Ext w w' := by
  have e1 := lo_andNot m n
  have e2 := hi_andNot m n
  go_enter Tryd.func78, Tryd.ntmps78
  go_wp2
  refine bodyPost_ret (v := .agg #[.int .u64 (lo (mless m n)), .int .u64 (hi (mless m n))]) (by simp [results, Tryd.results78, go_sem]) rfl ⟨rfl, ?_⟩
  exact (((Ext.refl _).alloc _).alloc _).alloc _

set_option maxHeartbeats 400000 in
theorem spec_JoinMasks (m n : Mask) (w : World) :
    Calls Tryd.prog 20 #[.agg #[.int .u64 (lo m), .int .u64 (hi m)], .agg #[.int .u64 (lo n), .int .u64 (hi n)]] w fun e w' => e = .returned (.agg #[.int .u64 (lo (mjoin m n)), .int .u64 (hi (mjoin m n))]) ∧ Ext w w' := by
  go_enter Tryd.func20, Tryd.ntmps20
  go_wp2_with fail
  refine Calls.mono (spec_l01Join _ _ _) ?_
  rintro e w1 ⟨rfl, hb1⟩
  obtain ⟨hc1, hf1, hz1⟩ := bcell3 hb1
  try simp at hz1
  have hz1_0 : w.heap.size < w1.heap.size := by omega
  have hz1_1 : w.heap.size + 1 < w1.heap.size := by omega
  have hz1_2 : w.heap.size + 1 + 1 < w1.heap.size := by omega
  go_wp2
  refine bodyPost_ret (v := .agg #[.int .u64 (lo (mjoin m n)), .int .u64 (hi (mjoin m n))]) (by simp [results, Tryd.results20, go_sem, hc1, hz1_0, hz1_1, hz1_2]) rfl ⟨rfl, ?_⟩
  (repeat (first | with_reducible exact Ext.refl _ | with_reducible exact hw | with_reducible exact hb9 | with_reducible exact hb8 | with_reducible exact hb7 | with_reducible exact hb6 | with_reducible exact hb5 | with_reducible exact hb4 | with_reducible exact hb3 | with_reducible exact hb2 | with_reducible exact hb1 | with_reducible refine Ext.alloc ?_ _ | with_reducible refine Ext.drew ?_ | ((with_reducible refine Ext.set ?_ ?_ _); focus (dsimp only; omega)) | with_reducible refine Ext.trans ?_ hb9 | with_reducible refine Ext.trans ?_ hb8 | with_reducible refine Ext.trans ?_ hb7 | with_reducible refine Ext.trans ?_ hb6 | with_reducible refine Ext.trans ?_ hb5 | with_reducible refine Ext.trans ?_ hb4 | with_reducible refine Ext.trans ?_ hb3 | with_reducible refine Ext.trans ?_ hb2 | with_reducible refine Ext.trans ?_ hb1 | with_reducible refine Ext.trans ?_ hw))

set_option maxHeartbeats 400000 in
theorem spec_LessMask (m n : Mask) (w : World) :
    Calls Tryd.prog 33 #[.agg #[.int .u64 (lo m), .int .u64 (hi m)], .agg #[.int .u64 (lo n), .int .u64 (hi n)]] w fun e w' => e = .returned (.agg #[.int .u64 (lo (mless m n)), .int .u64 (hi (mless m n))]) ∧ Ext w w' := by
  go_enter Tryd.func33, Tryd.ntmps33
  go_wp2_with fail
  refine Calls.mono (spec_l01Less _ _ _) ?_
  rintro e w1 ⟨rfl, hb1⟩
  obtain ⟨hc1, hf1, hz1⟩ := bcell3 hb1
  try simp at hz1
  have hz1_0 : w.heap.size < w1.heap.size := by omega
  have hz1_1 : w.heap.size + 1 < w1.heap.size := by omega
  have hz1_2 : w.heap.size + 1 + 1 < w1.heap.size := by omega
  go_wp2
  refine bodyPost_ret (v := .agg #[.int .u64 (lo (mless m n)), .int .u64 (hi (mless m n))]) (by simp [results, Tryd.results33, go_sem, hc1, hz1_0, hz1_1, hz1_2]) rfl ⟨rfl, ?_⟩
  (repeat (first | with_reducible exact Ext.refl _ | with_reducible exact hw | with_reducible exact hb9 | with_reducible exact hb8 | with_reducible exact hb7 | with_reducible exact hb6 | with_reducible exact hb5 | with_reducible exact hb4 | with_reducible exact hb3 | with_reducible exact hb2 | with_reducible exact hb1 | with_reducible refine Ext.alloc ?_ _ | with_reducible refine Ext.drew ?_ | ((with_reducible refine Ext.set ?_ ?_ _); focus (dsimp only; omega)) | with_reducible refine Ext.trans ?_ hb9 | with_reducible refine Ext.trans ?_ hb8 | with_reducible refine Ext.trans ?_ hb7 | with_reducible refine Ext.trans ?_ hb6 | with_reducible refine Ext.trans ?_ hb5 | with_reducible refine Ext.trans ?_ hb4 | with_reducible refine Ext.trans ?_ hb3 | with_reducible refine Ext.trans ?_ hb2 | with_reducible refine Ext.trans ?_ hb1 | with_reducible refine Ext.trans ?_ hw))

set_option maxHeartbeats 400000 in
theorem spec_MeetMasks (m n : Mask) (w : World) :
    Calls Tryd.prog 34 #[.agg #[.int .u64 (lo m), .int .u64 (hi m)], .agg #[.int .u64 (lo n), .int .u64 (hi n)]] w fun e w' => e = .returned (.agg #[.int .u64 (lo (mmeet m n)), .int .u64 (hi (mmeet m n))]) ∧ Ext w w' := by
  go_enter Tryd.func34, Tryd.ntmps34
  go_wp2_with fail
  refine Calls.mono (spec_l01Meet _ _ _) ?_
  rintro e w1 ⟨rfl, hb1⟩
  obtain ⟨hc1, hf1, hz1⟩ := bcell3 hb1
  try simp at hz1
  have hz1_0 : w.heap.size < w1.heap.size := by omega
  have hz1_1 : w.heap.size + 1 < w1.heap.size := by omega
  have hz1_2 : w.heap.size + 1 + 1 < w1.heap.size := by omega
  go_wp2
  refine bodyPost_ret (v := .agg #[.int .u64 (lo (mmeet m n)), .int .u64 (hi (mmeet m n))]) (by simp [results, Tryd.results34, go_sem, hc1, hz1_0, hz1_1, hz1_2]) rfl ⟨rfl, ?_⟩
  (repeat (first | with_reducible exact Ext.refl _ | with_reducible exact hw | with_reducible exact hb9 | with_reducible exact hb8 | with_reducible exact hb7 | with_reducible exact hb6 | with_reducible exact hb5 | with_reducible exact hb4 | with_reducible exact hb3 | with_reducible exact hb2 | with_reducible exact hb1 | with_reducible refine Ext.alloc ?_ _ | with_reducible refine Ext.drew ?_ | ((with_reducible refine Ext.set ?_ ?_ _); focus (dsimp only; omega)) | with_reducible refine Ext.trans ?_ hb9 | with_reducible refine Ext.trans ?_ hb8 | with_reducible refine Ext.trans ?_ hb7 | with_reducible refine Ext.trans ?_ hb6 | with_reducible refine Ext.trans ?_ hb5 | with_reducible refine Ext.trans ?_ hb4 | with_reducible refine Ext.trans ?_ hb3 | with_reducible refine Ext.trans ?_ hb2 | with_reducible refine Ext.trans ?_ hb1 | with_reducible refine Ext.trans ?_ hw))

set_option maxHeartbeats 400000 in
theorem spec_l01Bit (h : Int) (h0 : 0 ≤ h) (h1 : h < 128) (w : World) :
    Calls Tryd.prog 106 #[.int .i64 h] w fun e w' => e = .returned (.agg #[.int .u64 (lo (mbit h)), .int .u64 (hi (mbit h))]) ∧ Ext w w' := by
  by_cases hh : h < 64
  · have e0 : h / 64 = 0 := by omega
    have e1 := bit_lo_w h h0 hh
    have e2 := bit_lo_z h h0 hh
    go_enter Tryd.func106, Tryd.ntmps106
    go_wp2
    refine bodyPost_ret (v := .agg #[.int .u64 (lo (mbit h)), .int .u64 0]) (by simp [results, Tryd.results106, go_sem]) rfl ⟨by first | rfl | rw [e2], ?_⟩
    exact (((Ext.refl _).alloc _).alloc _)
  · have e0 : h / 64 = 1 := by omega
    have e1 := bit_hi_w h (by omega) h1
    have e2 := bit_hi_z h (by omega) h1
    go_enter Tryd.func106, Tryd.ntmps106
    go_wp2
    refine bodyPost_ret (v := .agg #[.int .u64 0, .int .u64 (hi (mbit h))]) (by simp [results, Tryd.results106, go_sem]) rfl ⟨by first | rfl | rw [e2], ?_⟩
    exact (((Ext.refl _).alloc _).alloc _)

set_option maxHeartbeats 400000 in
theorem spec_l00In (n a b : Int) (w : World) :
    Calls Tryd.prog 56 #[.int .i64 n, .int .i64 a, .int .i64 b] w fun e w' => e = .returned (.bool (inB n a b)) ∧ Ext w w' := by
  by_cases h0 : a ≤ n
  · have e1 : inB n a b = decide (n ≤ b) := by simp [inB, h0]
    rw [e1]
    clear e1
    go_enter Tryd.func56, Tryd.ntmps56
    go_wp2
    go_ret
    exact ⟨rfl, Ext.refl _⟩
  · have e1 : inB n a b = false := by simp [inB, h0]
    rw [e1]
    clear e1
    go_enter Tryd.func56, Tryd.ntmps56
    go_wp2
    go_ret
    exact ⟨rfl, Ext.refl _⟩
set_option maxHeartbeats 400000 in
theorem impl_isWear (t f : Mask) (w : World) :
    Calls Tryd.prog 67 #[.agg #[.int .u64 (lo t), .int .u64 (hi t), .int .u64 (lo f), .int .u64 (hi f)]] w fun e w' => e = .returned (.bool (isWearB t f)) ∧ Ext w w' := by
  have e1 := lohi_zero (mmeet t f)
  have e2 := eqA_Mask
  unfold isWearB
  cases ht : isMaskB t
  · go_enter Tryd.func67, Tryd.ntmps67
    go_wp2_with fail
    refine Calls.mono (impl_isMask _ _) ?_
    rintro e w1 ⟨rfl, hb1⟩
    obtain ⟨hc1, hf1, hz1⟩ := bcell3 hb1
    try simp at hz1
    have hz1_0 : w.heap.size < w1.heap.size := by omega
    go_wp2_with fail
    go_ret
    refine ⟨rfl, ?_⟩
    (repeat (first | with_reducible exact Ext.refl _ | with_reducible exact hw | with_reducible exact hb9 | with_reducible exact hb8 | with_reducible exact hb7 | with_reducible exact hb6 | with_reducible exact hb5 | with_reducible exact hb4 | with_reducible exact hb3 | with_reducible exact hb2 | with_reducible exact hb1 | with_reducible refine Ext.alloc ?_ _ | with_reducible refine Ext.drew ?_ | ((with_reducible refine Ext.set ?_ ?_ _); focus (dsimp only; omega)) | with_reducible refine Ext.trans ?_ hb9 | with_reducible refine Ext.trans ?_ hb8 | with_reducible refine Ext.trans ?_ hb7 | with_reducible refine Ext.trans ?_ hb6 | with_reducible refine Ext.trans ?_ hb5 | with_reducible refine Ext.trans ?_ hb4 | with_reducible refine Ext.trans ?_ hb3 | with_reducible refine Ext.trans ?_ hb2 | with_reducible refine Ext.trans ?_ hb1 | with_reducible refine Ext.trans ?_ hw))
  cases hf : isMaskB f
  · go_enter Tryd.func67, Tryd.ntmps67
    go_wp2_with fail
    refine Calls.mono (impl_isMask _ _) ?_
    rintro e w1 ⟨rfl, hb1⟩
    obtain ⟨hc1, hf1, hz1⟩ := bcell3 hb1
    try simp at hz1
    have hz1_0 : w.heap.size < w1.heap.size := by omega
    go_wp2_with fail
    refine Calls.mono (impl_isMask _ _) ?_
    rintro e w2 ⟨rfl, hb2⟩
    obtain ⟨hc2, hf2, hz2⟩ := bcell3 hb2
    try simp at hz2
    have hz2_0 : w.heap.size < w2.heap.size := by omega
    go_wp2_with fail
    go_ret
    refine ⟨rfl, ?_⟩
    (repeat (first | with_reducible exact Ext.refl _ | with_reducible exact hw | with_reducible exact hb9 | with_reducible exact hb8 | with_reducible exact hb7 | with_reducible exact hb6 | with_reducible exact hb5 | with_reducible exact hb4 | with_reducible exact hb3 | with_reducible exact hb2 | with_reducible exact hb1 | with_reducible refine Ext.alloc ?_ _ | with_reducible refine Ext.drew ?_ | ((with_reducible refine Ext.set ?_ ?_ _); focus (dsimp only; omega)) | with_reducible refine Ext.trans ?_ hb9 | with_reducible refine Ext.trans ?_ hb8 | with_reducible refine Ext.trans ?_ hb7 | with_reducible refine Ext.trans ?_ hb6 | with_reducible refine Ext.trans ?_ hb5 | with_reducible refine Ext.trans ?_ hb4 | with_reducible refine Ext.trans ?_ hb3 | with_reducible refine Ext.trans ?_ hb2 | with_reducible refine Ext.trans ?_ hb1 | with_reducible refine Ext.trans ?_ hw))
  · go_enter Tryd.func67, Tryd.ntmps67
    go_wp2_with fail
    refine Calls.mono (impl_isMask _ _) ?_
    rintro e w1 ⟨rfl, hb1⟩
    obtain ⟨hc1, hf1, hz1⟩ := bcell3 hb1
    try simp at hz1
    have hz1_0 : w.heap.size < w1.heap.size := by omega
    go_wp2_with fail
    refine Calls.mono (impl_isMask _ _) ?_
    rintro e w2 ⟨rfl, hb2⟩
    obtain ⟨hc2, hf2, hz2⟩ := bcell3 hb2
    try simp at hz2
    have hz2_0 : w.heap.size < w2.heap.size := by omega
    go_wp2_with fail
    refine Calls.mono (impl_MeetMasks _ _ _) ?_
    rintro e w3 ⟨rfl, hb3⟩
    obtain ⟨hc3, hf3, hz3⟩ := bcell3 hb3
    try simp at hz3
    have hz3_0 : w.heap.size < w3.heap.size := by omega
    go_wp2_with fail
    go_ret
    refine ⟨rfl, ?_⟩
    (repeat (first | with_reducible exact Ext.refl _ | with_reducible exact hw | with_reducible exact hb9 | with_reducible exact hb8 | with_reducible exact hb7 | with_reducible exact hb6 | with_reducible exact hb5 | with_reducible exact hb4 | with_reducible exact hb3 | with_reducible exact hb2 | with_reducible exact hb1 | with_reducible refine Ext.alloc ?_ _ | with_reducible refine Ext.drew ?_ | ((with_reducible refine Ext.set ?_ ?_ _); focus (dsimp only; omega)) | with_reducible refine Ext.trans ?_ hb9 | with_reducible refine Ext.trans ?_ hb8 | with_reducible refine Ext.trans ?_ hb7 | with_reducible refine Ext.trans ?_ hb6 | with_reducible refine Ext.trans ?_ hb5 | with_reducible refine Ext.trans ?_ hb4 | with_reducible refine Ext.trans ?_ hb3 | with_reducible refine Ext.trans ?_ hb2 | with_reducible refine Ext.trans ?_ hb1 | with_reducible refine Ext.trans ?_ hw))
set_option maxHeartbeats 400000 in
theorem spec_l04Ok (t f : Mask) (b o : Nat) (w : World) (hb : b < w.heap.size) (h0 : w.cell? ⟨b, o, none⟩ = some (.int .u64 (lo t))) (h1 : w.cell? ⟨b, o + 1, none⟩ = some (.int .u64 (hi t)))
    (h2 : w.cell? ⟨b, o + 2, none⟩ = some (.int .u64 (lo f))) (h3 : w.cell? ⟨b, o + 2 + 1, none⟩ = some (.int .u64 (hi f))) :
    Calls Tryd.prog 71 #[.pointer (some ⟨b, o, none⟩)] w fun e w' => e = .returned (.bool (isWearB t f)) ∧ Ext w w' := by
  have hx := @ExtOf.cell
  have e1 := lohi_zero (mmeet t f)
  have e2 := eqA_Mask
  unfold isWearB
  cases ht : isMaskB t <;> cases hf : isMaskB f
  all_goals
    go_enter Tryd.func71, Tryd.ntmps71
    go_wp2_with fail
    refine wp_region_ext (by kernel_rfl) (by kernel_rfl) ?_
    repeat (first | go_big_quiet_step (((first | (go_at_call 82; with_reducible exact Calls.ext_of (spec_l01Mask _ _)) | (go_at_call 79; with_reducible exact Calls.ext_of (spec_l01Meet _ _ _))))) | quiet_step (((first | (go_at_call 82; with_reducible exact Calls.ext_of (spec_l01Mask _ _)) | (go_at_call 79; with_reducible exact Calls.ext_of (spec_l01Meet _ _ _))))))
    refine wpQuiet_nil ?_
    intro w1 hq1
    have hb1 := ext_of_class hq1
    clear hq1
    obtain ⟨hc1, hf1, hz1⟩ := bcell3 hb1
    try simp at hz1
    go_wp2
    go_ret
    exact ⟨rfl, hb1⟩
