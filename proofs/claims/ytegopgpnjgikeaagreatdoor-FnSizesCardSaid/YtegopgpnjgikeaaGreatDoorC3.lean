/-
  Contracts of the functions that count holes.
-/
import Derived.Test.YtegopgpnjgikeaaGreatDoorC2
import Derived.Test.YtegopgpnjgikeaaGreatDoorP1
set_option linter.unusedVariables false
set_option linter.unusedSimpArgs false
namespace Go.Proofs.YtegopgpnjgikeaaGreatDoor
open Go.RowKit
set_option maxHeartbeats 400000 in
theorem bits_OnesCount64 (x : Int) (h0 : 0 ≤ x) (h1 : x < 18446744073709551616) (w : World) :
    Calls Tryz.prog 59 #[.int .u64 x] w fun e w' => e = .returned (.int .i64 (wcount x)) ∧ Ext w w' := by
  obtain ⟨X, rfl⟩ := Int.eq_ofNat_of_zero_le h0
  obtain ⟨A, B, Y, C, D, Z, E, V, V1, V2, V3, a1, a2, a3, b3, a4, a5, a6, b6, a7, a8, b8, a9, b9, a10, b10, a11, b11, hfin⟩ := ones_facts X (by omega)
  rw [show wcount (X : Int) = V3 % 128 by unfold wcount; rw [hfin, Int.toNat_natCast]]
  clear hfin
  go_enter Tryz.func59, Tryz.ntmps59
  go_wp2
  go_ret
  exact ⟨ret_int (show bits .and .i64 (wrap64 V3) 127 = V3 % 128 by rw [i64_and127]; unfold wrap64; omega), Ext.refl _⟩
theorem bits_ones_lo (m : Mask) (w : World) : Calls Tryz.prog 59 #[.int .u64 (lo m)] w fun e w' => e = .returned (.int .i64 (wcount (lo m))) ∧ Ext w w' := bits_OnesCount64 _ (lo_ge m) (lo_lt m) w
theorem bits_ones_hi (m : Mask) (w : World) : Calls Tryz.prog 59 #[.int .u64 (hi m)] w fun e w' => e = .returned (.int .i64 (wcount (hi m))) ∧ Ext w w' := bits_OnesCount64 _ (hi_ge m) (hi_lt m) w
set_option maxHeartbeats 400000 in
theorem impl_CountHoles (m : Mask) (w : World) :
    Calls Tryz.prog 35 #[.agg #[.int .u64 (lo m), .int .u64 (hi m)]] w fun e w' => e = .returned (.int .i64 (mcount m)) ∧ Ext w w' := by
  have e1 := wcount_lohi m
  have g1 := wcount_ge (lo m)
  have g2 := wcount_ge (hi m)
  have g3 := wcount_le (lo m)
  have g4 := wcount_le (hi m)
  have hx := @ExtOf.cell
  go_enter Tryz.func35, Tryz.ntmps35
  have b0 := lo_ge m
  have b1 := lo_lt m
  have b2 := hi_ge m
  have b3 := hi_lt m
  go_wp2_with fail
  refine wp_region_ext (by kernel_rfl) (by kernel_rfl) ?_
  repeat (first | go_big_quiet_step (((first | (go_at_call 59; with_reducible exact Calls.ext_of (bits_ones_lo m _)) | (go_at_call 59; with_reducible exact Calls.ext_of (bits_ones_hi m _))))) | quiet_step (((first | (go_at_call 59; with_reducible exact Calls.ext_of (bits_ones_lo m _)) | (go_at_call 59; with_reducible exact Calls.ext_of (bits_ones_hi m _))))))
  refine wpQuiet_nil ?_
  intro w1 hq1
  have hb1 := ext_of_class hq1
  clear hq1
  obtain ⟨hc1, hf1, hz1⟩ := bcell3 hb1
  try simp at hz1
  have hz1_0 : w.heap.size < w1.heap.size := by omega
  go_wp2
  go_ret
  refine ⟨rfl, ?_⟩
  (repeat (first | with_reducible exact Ext.refl _ | with_reducible exact hw | with_reducible exact hb9 | with_reducible exact hb8 | with_reducible exact hb7 | with_reducible exact hb6 | with_reducible exact hb5 | with_reducible exact hb4 | with_reducible exact hb3 | with_reducible exact hb2 | with_reducible exact hb1 | with_reducible refine Ext.alloc ?_ _ | with_reducible refine Ext.drew ?_ | ((with_reducible refine Ext.set ?_ ?_ _); focus (dsimp only; omega)) | with_reducible refine Ext.trans ?_ hb9 | with_reducible refine Ext.trans ?_ hb8 | with_reducible refine Ext.trans ?_ hb7 | with_reducible refine Ext.trans ?_ hb6 | with_reducible refine Ext.trans ?_ hb5 | with_reducible refine Ext.trans ?_ hb4 | with_reducible refine Ext.trans ?_ hb3 | with_reducible refine Ext.trans ?_ hb2 | with_reducible refine Ext.trans ?_ hb1 | with_reducible refine Ext.trans ?_ hw))
set_option maxHeartbeats 400000 in
theorem spec_CountHoles (m : Mask) (w : World) :
    Calls Tryz.prog 16 #[.agg #[.int .u64 (lo m), .int .u64 (hi m)]] w fun e w' => e = .returned (.int .i64 (mcount m)) ∧ Ext w w' := by
  have e1 := wcount_lohi m
  have g1 := wcount_ge (lo m)
  have g2 := wcount_ge (hi m)
  have g3 := wcount_le (lo m)
  have g4 := wcount_le (hi m)
  have g5 := lo_ge m
  have g6 := lo_lt m
  have g7 := hi_ge m
  have g8 := hi_lt m
  have E1 := hd e1
  clear e1
  go_enter Tryz.func16, Tryz.ntmps16
  go_wp2
  refine wp_loop_rounds 3 ?_
  rw [rounds_succ]
  go_wp2
  go_loopg [5, 3] 64 (fun g x n wr => ∃ y c : Int, 0 ≤ y ∧ y < 18446744073709551616 ∧ x = .int .u64 y ∧ n = .int .i64 c ∧ 0 ≤ c ∧ c ≤ 128 ∧ CountRel g y c (0 + wcount (lo m)) ∧ wr = w.alloc (.cells #[.int .u64 (lo m), .int .u64 (hi m)] 47))
  case atStart => exact ⟨lo m, 0, by omega, by omega, rfl, rfl, by omega, by omega, CountRel.start 0 (by omega), rfl⟩
  case round =>
    obtain ⟨y, c, hy0, hy1, rfl, rfl, hc0, hc1, HC, rfl⟩ := hrel
    by_cases h0 : y = 0
    · subst h0
      have hc := HC.done
      rw [Int.zero_add] at hc
      subst hc
      clear HC
      go_wp2
      rw [rounds_succ]
      go_wp2
      go_loopg [5, 3] 64 (fun g x n wr => ∃ y c : Int, 0 ≤ y ∧ y < 18446744073709551616 ∧ x = .int .u64 y ∧ n = .int .i64 c ∧ 0 ≤ c ∧ c ≤ 128 ∧ CountRel g y c (wcount (lo m) + wcount (hi m)) ∧ wr = w.alloc (.cells #[.int .u64 (lo m), .int .u64 (hi m)] 47))
      case atStart => exact ⟨hi m, wcount (lo m), by omega, by omega, rfl, rfl, by omega, by omega, CountRel.start _ (by omega), rfl⟩
      case round =>
        obtain ⟨y, c, hy0, hy1, rfl, rfl, hc0, hc1, HC, rfl⟩ := hrel
        by_cases h0 : y = 0
        · subst h0
          have hc := HC.done
          rw [E1.out] at hc
          subst hc
          clear HC
          go_wp2
          rw [rounds_succ]
          go_wp2
          go_ret
          exact ⟨rfl, (Ext.refl _).alloc _⟩
        · have hp : (0 : Int) < y := by omega
          have hr0 : 0 ≤ y % 2 := by omega
          have hr1 : y % 2 ≤ 1 := by omega
          obtain ⟨k, rfl, HN⟩ := HC.next hp
          have hcl := HN.cle
          clear h0 HC
          go_wp2
          go_roundg k
          case rel => exact ⟨y / 2, c + y % 2, by omega, by omega, rfl, rfl, by omega, by omega, HN, rfl⟩
          case measure => omega
    · have hp : (0 : Int) < y := by omega
      have hr0 : 0 ≤ y % 2 := by omega
      have hr1 : y % 2 ≤ 1 := by omega
      obtain ⟨k, rfl, HN⟩ := HC.next hp
      have hcl := HN.cle
      clear h0 HC
      go_wp2
      go_roundg k
      case rel => exact ⟨y / 2, c + y % 2, by omega, by omega, rfl, rfl, by omega, by omega, HN, rfl⟩
      case measure => omega
end Go.Proofs.YtegopgpnjgikeaaGreatDoor
