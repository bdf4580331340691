/-
  Contracts of the functions on slices of masks.
-/
import Derived.Test.YtbmompanhigmnaaDoorC2
import Derived.Test.YtbmompanhigmnaaDoorL3
set_option linter.unusedVariables false
set_option linter.unusedSimpArgs false
namespace Go.Proofs.YtbmompanhigmnaaDoor
open Go.RowKit
theorem info_Mask : (Tryd.prog.info? 53).map (fun i => (i.zero, i.size, i.bytes)) = some (some (.agg #[.int .u64 0, .int .u64 0]), 2, 16) := by kernel_rfl
theorem info_Mask2 : (Tryd.prog.info? 53).map (·.size) = some encMask.sz := by kernel_rfl
set_option maxHeartbeats 400000 in
theorem laws_toMaskS (xs : List Mask) (A : Option Addr) (cap : Nat) (w : World) (hR : Rd encMask w A xs) (hn : xs.length ≤ 1048576) :
    Calls Tryd.prog 23 #[.slice A xs.length cap] w fun e w' => ∃ v, e = .returned v ∧ Ow encMask 53 w' w.heap.size v xs ∧ Ext w w' := by
  go_enter Tryd.func23, Tryd.ntmps23
  go_wp2_with (at_make; refine wpList_made encMask (by rfl) _ _ 27 (by rfl) 0 (.agg #[.int .u64 0, .int .u64 0]) 16 Tryd.underlying27 info_Mask (by rfl) .i64 .i64 xs.length (by rfl) (by rfl) (by omega) (by omega) (Nat.le_refl _) (Nat.le_refl _) (Ext.refl w) ?_)
  intro w1 hO hb1 hg1
  go_wp2
  go_loopg [4] xs.length (fun g i wr => ∃ k : Nat, g = xs.length - k ∧ k ≤ xs.length ∧ i = .int .i64 k ∧ Ext w wr ∧ Ow encMask 53 wr w.heap.size (.slice (some ⟨w.heap.size, 0, none⟩) xs.length xs.length) (fill xs 0 k))
  case atStart => exact ⟨0, by omega, by omega, rfl, hb1, by rw [fill_zero]; exact hO⟩
  case round =>
    obtain ⟨k, hg, hk, rfl, hw, hO⟩ := hrel
    by_cases hkl : k < xs.length
    · obtain ⟨b, off, hA, hlt, _⟩ := hR k hkl
      subst hA
      obtain ⟨m0, m1, _⟩ := (hR.ext hw).mask k hkl
      go_wp2_with fail
      refine Calls.mono (laws_toMask _ _) ?_
      rintro e w2 ⟨rfl, hb2⟩
      go_wp2_with (refine wpList_put encMask (by rfl) _ _ _ (by rfl) info_Mask2 (hO.ext hb2) k hkl (by rfl) xs[k] (by rfl) (Nat.le_refl _) (hw.trans hb2) ?_)
      intro w3 hO3 hb3 hg3
      go_wp2
      go_roundg (xs.length - (k + 1))
      case rel => exact ⟨k + 1, rfl, hkl, rfl, hb3, by rw [← fill_set xs 0 k hkl]; exact hO3⟩
      case measure => omega
    · obtain rfl : k = xs.length := by omega
      go_wp2
      go_ret
      rw [fill_full] at hO
      exact ⟨_, rfl, hO, hw⟩
set_option maxHeartbeats 400000 in
theorem laws_eqMaskS (xs ys : List Mask) (A B : Option Addr) (cap cap' : Nat) (w : World) (hR : Rd encMask w A xs) (hS : Rd encMask w B ys) (hn : xs.length ≤ 1048576) (hm : ys.length ≤ 1048576) :
    Calls Tryd.prog 15 #[.slice A xs.length cap, .slice B ys.length cap'] w fun e w' => e = .returned (.bool (eqL meqB xs ys)) ∧ Ext w w' := by
  have hx := @ExtOf.cell
  by_cases hl : xs.length = ys.length
  · go_enter Tryd.func15, Tryd.ntmps15
    go_wp2
    go_loopg [5] xs.length (fun g i wr => ∃ k : Nat, g = xs.length - k ∧ k ≤ xs.length ∧ i = .int .i64 k ∧ Ext w wr ∧ eqL meqB xs ys = eqL meqB (xs.drop k) (ys.drop k))
    case atStart => exact ⟨0, by omega, by omega, rfl, Ext.refl _, rfl⟩
    case round =>
      obtain ⟨k, hg, hk, rfl, hw, hQ⟩ := hrel
      by_cases hkl : k < xs.length
      · have hky : k < ys.length := by omega
        rw [eqL_drop meqB xs ys k hkl hky] at hQ
        obtain ⟨b, off, hA, hlt, _⟩ := hR k hkl
        subst hA
        obtain ⟨b', off', hB, hlt', _⟩ := hS k hky
        subst hB
        obtain ⟨m0, m1, m2⟩ := (hR.ext hw).mask k hkl
        obtain ⟨n0, n1, n2⟩ := (hS.ext hw).mask k hky
        cases hq : meqB xs[k] ys[k] with
        | true =>
          rw [hq, Bool.true_and] at hQ
          go_wp2
          refine wp_region_ext (by kernel_rfl) (by kernel_rfl) ?_
          repeat (first | go_big_quiet_step ((go_at_call 48; with_reducible exact Calls.ext_of (laws_eqMask xs[k] ys[k] _))) | quiet_step ((go_at_call 48; with_reducible exact Calls.ext_of (laws_eqMask xs[k] ys[k] _))))
          refine wpQuiet_nil ?_
          intro w1 hq1
          have hb1 := ext_of_class hq1
          clear hq1
          obtain ⟨hc1, hf1, hz1⟩ := bcell3 hb1
          try simp at hz1
          go_wp2
          go_roundg (xs.length - (k + 1))
          case rel => exact ⟨k + 1, rfl, hkl, rfl, by ((repeat (first | with_reducible exact Ext.refl _ | with_reducible exact hw | with_reducible exact hb9 | with_reducible exact hb8 | with_reducible exact hb7 | with_reducible exact hb6 | with_reducible exact hb5 | with_reducible exact hb4 | with_reducible exact hb3 | with_reducible exact hb2 | with_reducible exact hb1 | with_reducible refine Ext.alloc ?_ _ | with_reducible refine Ext.drew ?_ | ((with_reducible refine Ext.set ?_ ?_ _); focus (dsimp only; omega)) | with_reducible refine Ext.trans ?_ hb9 | with_reducible refine Ext.trans ?_ hb8 | with_reducible refine Ext.trans ?_ hb7 | with_reducible refine Ext.trans ?_ hb6 | with_reducible refine Ext.trans ?_ hb5 | with_reducible refine Ext.trans ?_ hb4 | with_reducible refine Ext.trans ?_ hb3 | with_reducible refine Ext.trans ?_ hb2 | with_reducible refine Ext.trans ?_ hb1 | with_reducible refine Ext.trans ?_ hw))), hQ⟩
          case measure => omega
        | false =>
          rw [hq, Bool.false_and] at hQ
          go_wp2
          refine wp_region_ext (by kernel_rfl) (by kernel_rfl) ?_
          repeat (first | go_big_quiet_step ((go_at_call 48; with_reducible exact Calls.ext_of (laws_eqMask xs[k] ys[k] _))) | quiet_step ((go_at_call 48; with_reducible exact Calls.ext_of (laws_eqMask xs[k] ys[k] _))))
          refine wpQuiet_nil ?_
          intro w1 hq1
          have hb1 := ext_of_class hq1
          clear hq1
          obtain ⟨hc1, hf1, hz1⟩ := bcell3 hb1
          try simp at hz1
          go_wp2
          go_ret
          exact ⟨by rw [hQ]; rfl, by ((repeat (first | with_reducible exact Ext.refl _ | with_reducible exact hw | with_reducible exact hb9 | with_reducible exact hb8 | with_reducible exact hb7 | with_reducible exact hb6 | with_reducible exact hb5 | with_reducible exact hb4 | with_reducible exact hb3 | with_reducible exact hb2 | with_reducible exact hb1 | with_reducible refine Ext.alloc ?_ _ | with_reducible refine Ext.drew ?_ | ((with_reducible refine Ext.set ?_ ?_ _); focus (dsimp only; omega)) | with_reducible refine Ext.trans ?_ hb9 | with_reducible refine Ext.trans ?_ hb8 | with_reducible refine Ext.trans ?_ hb7 | with_reducible refine Ext.trans ?_ hb6 | with_reducible refine Ext.trans ?_ hb5 | with_reducible refine Ext.trans ?_ hb4 | with_reducible refine Ext.trans ?_ hb3 | with_reducible refine Ext.trans ?_ hb2 | with_reducible refine Ext.trans ?_ hb1 | with_reducible refine Ext.trans ?_ hw)))⟩
      · rw [eqL_end meqB xs ys k (by omega) (by omega)] at hQ
        go_wp2
        go_ret
        exact ⟨by rw [hQ]; rfl, hw⟩
  · rw [eqL_len meqB xs ys hl]
    go_enter Tryd.func15, Tryd.ntmps15
    go_wp2
    go_ret
    exact ⟨rfl, Ext.refl _⟩
