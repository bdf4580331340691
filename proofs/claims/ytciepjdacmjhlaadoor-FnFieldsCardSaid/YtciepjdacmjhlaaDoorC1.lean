/-
  Contracts of the functions on masks, holes and wear: what each call returns, and that it only adds blocks.
-/
import Derived.Test.YtciepjdacmjhlaaDoorRows
import Derived.Test.YtciepjdacmjhlaaDoorL0
set_option linter.unusedVariables false
set_option linter.unusedSimpArgs false
namespace Go.Proofs.YtciepjdacmjhlaaDoor
open Go.RowKit

theorem eqA_Mask (d : Nat) (a b c f : Int) (w : World) :
    (Op.equalIn (d + 2) 35 (.agg #[.int .u64 a, .int .u64 b]) (.agg #[.int .u64 c, .int .u64 f])).run Tryd.prog w = .ok (a == c && b == f) w := by
  rw [Op.equalIn]
  simp only [Sem.run_bind, run_underlying Tryd.underlying35, Result.andThen_ok, Std.Legacy.Range.forIn_eq_forIn_range', Std.Legacy.Range.size]
  go_simp
  rw [show List.range' 0 2 = [0, 1] from rfl]
  cases h1 : (a == c) <;> cases h2 : (b == f) <;> go_simp

set_option maxHeartbeats 400000 in
theorem impl_isMask (m : Mask) (w : World) :
    Calls Tryd.prog 37 #[.agg #[.int .u64 (lo m), .int .u64 (hi m)]] w fun e w' => e = .returned (.bool (isMaskB m)) ∧ Ext w w' := by
  have h0 := hi_ge m
  have h1 := hi_lt m
  have e1 := isMask_eq m
  go_enter Tryd.func37, Tryd.ntmps37
  go_wp2
  go_ret
  exact ⟨rfl, (Ext.refl _).alloc _⟩

set_option maxHeartbeats 400000 in
theorem impl_MeetMasks (m n : Mask) (w : World) :
    Calls Tryd.prog 55 #[.agg #[.int .u64 (lo m), .int .u64 (hi m)], .agg #[.int .u64 (lo n), .int .u64 (hi n)]] w fun e w' => e = .returned (.agg #[.int .u64 (lo (mmeet m n)), .int .u64 (hi (mmeet m n))]) ∧ Ext w w' := by
  have e1 := lo_and m n
  have e2 := hi_and m n
  go_enter Tryd.func55, Tryd.ntmps55
  go_wp2
  refine bodyPost_ret (v := .agg #[.int .u64 (lo (mmeet m n)), .int .u64 (hi (mmeet m n))]) (by simp [results, Tryd.results55, go_sem]) rfl ⟨rfl, ?_⟩
  exact (((Ext.refl _).alloc _).alloc _).alloc _

set_option maxHeartbeats 400000 in
theorem impl_JoinMasks (m n : Mask) (w : World) :
    Calls Tryd.prog 36 #[.agg #[.int .u64 (lo m), .int .u64 (hi m)], .agg #[.int .u64 (lo n), .int .u64 (hi n)]] w fun e w' => e = .returned (.agg #[.int .u64 (lo (mjoin m n)), .int .u64 (hi (mjoin m n))]) ∧ Ext w w' := by
  have e1 := lo_or m n
  have e2 := hi_or m n
  go_enter Tryd.func36, Tryd.ntmps36
  go_wp2
  refine bodyPost_ret (v := .agg #[.int .u64 (lo (mjoin m n)), .int .u64 (hi (mjoin m n))]) (by simp [results, Tryd.results36, go_sem]) rfl ⟨rfl, ?_⟩
  exact (((Ext.refl _).alloc _).alloc _).alloc _

set_option maxHeartbeats 400000 in
theorem impl_LessMask (m n : Mask) (w : World) :
    Calls Tryd.prog 20 #[.agg #[.int .u64 (lo m), .int .u64 (hi m)], .agg #[.int .u64 (lo n), .int .u64 (hi n)]] w fun e w' => e = .returned (.agg #[.int .u64 (lo (mless m n)), .int .u64 (hi (mless m n))]) ∧ Ext w w' := by
  have e1 := lo_andNot m n
  have e2 := hi_andNot m n
  go_enter Tryd.func20, Tryd.ntmps20
  go_wp2
  refine bodyPost_ret (v := .agg #[.int .u64 (lo (mless m n)), .int .u64 (hi (mless m n))]) (by simp [results, Tryd.results20, go_sem]) rfl ⟨rfl, ?_⟩
  exact (((Ext.refl _).alloc _).alloc _).alloc _

set_option maxHeartbeats 400000 in
theorem spec_l01Join (m n : Mask) (w : World) :
    Calls Tryd.prog 52 #[.agg #[.int .u64 (lo m), .int .u64 (hi m)], .agg #[.int .u64 (lo n), .int .u64 (hi n)]] w fun e w' => e = .returned (.agg #[.int .u64 (lo (mjoin m n)), .int .u64 (hi (mjoin m n))]) ∧ Ext w w' := by
  have e1 := lo_or m n
  have e2 := hi_or m n
  go_enter Tryd.func52, Tryd.ntmps52
  go_wp2
  refine bodyPost_ret (v := .agg #[.int .u64 (lo (mjoin m n)), .int .u64 (hi (mjoin m n))]) (by simp [results, Tryd.results52, go_sem]) rfl ⟨rfl, ?_⟩
  exact (((Ext.refl _).alloc _).alloc _).alloc _

set_option maxHeartbeats 400000 in
theorem spec_l01Bit (h : Int) (h0 : 0 ≤ h) (h1 : h < 128) (w : World) :
    Calls Tryd.prog 49 #[.int .i64 h] w fun e w' => e = .returned (.agg #[.int .u64 (lo (mbit h)), .int .u64 (hi (mbit h))]) ∧ Ext w w' := by
  by_cases hh : h < 64
  · have e0 : h / 64 = 0 := by omega
    have e1 := bit_lo_w h h0 hh
    have e2 := bit_lo_z h h0 hh
    go_enter Tryd.func49, Tryd.ntmps49
    go_wp2
    refine bodyPost_ret (v := .agg #[.int .u64 (lo (mbit h)), .int .u64 0]) (by simp [results, Tryd.results49, go_sem]) rfl ⟨by first | rfl | rw [e2], ?_⟩
    exact (((Ext.refl _).alloc _).alloc _)
  · have e0 : h / 64 = 1 := by omega
    have e1 := bit_hi_w h (by omega) h1
    have e2 := bit_hi_z h (by omega) h1
    go_enter Tryd.func49, Tryd.ntmps49
    go_wp2
    refine bodyPost_ret (v := .agg #[.int .u64 0, .int .u64 (hi (mbit h))]) (by simp [results, Tryd.results49, go_sem]) rfl ⟨by first | rfl | rw [e2], ?_⟩
    exact (((Ext.refl _).alloc _).alloc _)

set_option maxHeartbeats 400000 in
theorem spec_l00In (n a b : Int) (w : World) :
    Calls Tryd.prog 32 #[.int .i64 n, .int .i64 a, .int .i64 b] w fun e w' => e = .returned (.bool (inB n a b)) ∧ Ext w w' := by
  by_cases h0 : a ≤ n
  · have e1 : inB n a b = decide (n ≤ b) := by simp [inB, h0]
    rw [e1]
    clear e1
    go_enter Tryd.func32, Tryd.ntmps32
    go_wp2
    go_ret
    exact ⟨rfl, Ext.refl _⟩
  · have e1 : inB n a b = false := by simp [inB, h0]
    rw [e1]
    clear e1
    go_enter Tryd.func32, Tryd.ntmps32
    go_wp2
    go_ret
    exact ⟨rfl, Ext.refl _⟩
