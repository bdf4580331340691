/-
  Contracts of the functions that count holes.
-/
import Derived.Test.YtdlpifgkponnmaaDoorC2
import Derived.Test.YtdlpifgkponnmaaDoorP1
set_option linter.unusedVariables false
set_option linter.unusedSimpArgs false
namespace Go.Proofs.YtdlpifgkponnmaaDoor
open Go.RowKit
set_option maxHeartbeats 400000 in
theorem spec_CountHoles (m : Mask) (w : World) :
    Calls Tryd.prog 92 #[.agg #[.int .u64 (lo m), .int .u64 (hi m)]] w fun e w' => e = .returned (.int .i64 (mcount m)) ∧ Ext w w' := by
  have e1 := wcount_lohi m
  have g1 := wcount_ge (lo m)
  have g2 := wcount_ge (hi m)
  have g3 := wcount_le (lo m)
  have g4 := wcount_le (hi m)
  have g5 := lo_ge m
  have g6 := lo_lt m
  have g7 := hi_ge m
  have g8 := hi_lt m
  have E1 := hd e1
  clear e1
  go_enter Tryd.func92, Tryd.ntmps92
  go_wp2
  refine wp_loop_rounds 3 ?_
  rw [rounds_succ]
  go_wp2
  go_loopg [5, 3] 64 (fun g x n wr => ∃ y c : Int, 0 ≤ y ∧ y < 18446744073709551616 ∧ x = .int .u64 y ∧ n = .int .i64 c ∧ 0 ≤ c ∧ c ≤ 128 ∧ CountRel g y c (0 + wcount (lo m)) ∧ wr = w.alloc (.cells #[.int .u64 (lo m), .int .u64 (hi m)] 58))
  case atStart => exact ⟨lo m, 0, by omega, by omega, rfl, rfl, by omega, by omega, CountRel.start 0 (by omega), rfl⟩
  case round =>
    obtain ⟨y, c, hy0, hy1, rfl, rfl, hc0, hc1, HC, rfl⟩ := hrel
    by_cases h0 : y = 0
    · subst h0
      have hc := HC.done
      rw [Int.zero_add] at hc
      subst hc
      clear HC
      go_wp2
      rw [rounds_succ]
      go_wp2
      go_loopg [5, 3] 64 (fun g x n wr => ∃ y c : Int, 0 ≤ y ∧ y < 18446744073709551616 ∧ x = .int .u64 y ∧ n = .int .i64 c ∧ 0 ≤ c ∧ c ≤ 128 ∧ CountRel g y c (wcount (lo m) + wcount (hi m)) ∧ wr = w.alloc (.cells #[.int .u64 (lo m), .int .u64 (hi m)] 58))
      case atStart => exact ⟨hi m, wcount (lo m), by omega, by omega, rfl, rfl, by omega, by omega, CountRel.start _ (by omega), rfl⟩
      case round =>
        obtain ⟨y, c, hy0, hy1, rfl, rfl, hc0, hc1, HC, rfl⟩ := hrel
        by_cases h0 : y = 0
        · subst h0
          have hc := HC.done
          rw [E1.out] at hc
          subst hc
          clear HC
          go_wp2
          rw [rounds_succ]
          go_wp2
          go_ret
          exact ⟨rfl, (Ext.refl _).alloc _⟩
        · have hp : (0 : Int) < y := by omega
          have hr0 : 0 ≤ y % 2 := by omega
          have hr1 : y % 2 ≤ 1 := by omega
          obtain ⟨k, rfl, HN⟩ := HC.next hp
          have hcl := HN.cle
          clear h0 HC
          go_wp2
          go_roundg k
          case rel => exact ⟨y / 2, c + y % 2, by omega, by omega, rfl, rfl, by omega, by omega, HN, rfl⟩
          case measure => omega
    · have hp : (0 : Int) < y := by omega
      have hr0 : 0 ≤ y % 2 := by omega
      have hr1 : y % 2 ≤ 1 := by omega
      obtain ⟨k, rfl, HN⟩ := HC.next hp
      have hcl := HN.cle
      clear h0 HC
      go_wp2
      go_roundg k
      case rel => exact ⟨y / 2, c + y % 2, by omega, by omega, rfl, rfl, by omega, by omega, HN, rfl⟩
      case measure => omega
end Go.Proofs.YtdlpifgkponnmaaDoor
