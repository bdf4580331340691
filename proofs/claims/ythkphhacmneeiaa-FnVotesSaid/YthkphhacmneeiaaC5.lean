/-
  Contracts of the functions on slices of masks.
-/
import Derived.Test.YthkphhacmneeiaaC2
import Derived.Test.YthkphhacmneeiaaL3
set_option linter.unusedVariables false
set_option linter.unusedSimpArgs false
namespace Go.Proofs.Ythkphhacmneeiaa
open Go.RowKit
theorem info_Mask : (Try.prog.info? 26).map (fun i => (i.zero, i.size, i.bytes)) = some (some (.agg #[.int .u64 0, .int .u64 0]), 2, 16) := by kernel_rfl
theorem info_Mask2 : (Try.prog.info? 26).map (·.size) = some encMask.sz := by kernel_rfl
set_option maxHeartbeats 400000 in
theorem impl_votes (xs : List Mask) (A : Option Addr) (cap : Nat) (h : Int) (h0 : 0 ≤ h) (h1 : h < 128) (w : World) (hR : Rd encMask w A xs) (hn : xs.length ≤ 1048576) :
    Calls Try.prog 20 #[.slice A xs.length cap, .int .i64 h] w fun e w' => e = .returned (.int .i64 (votesN h xs)) ∧ Ext w w' := by
  go_enter Try.func20, Try.ntmps20
  go_wp2
  go_loopg [10, 5] xs.length (fun g i n wr => ∃ k : Nat, ∃ c : Int, g = xs.length - k ∧ k ≤ xs.length ∧ i = .int .i64 k ∧ n = .int .i64 c ∧ votesN h (xs.take k) = c ∧ 0 ≤ c ∧ c ≤ k ∧ Ext w wr)
  case atStart => exact ⟨0, 0, by omega, by omega, rfl, rfl, by rw [List.take_zero, votesN_nil], by omega, by omega, Ext.refl _⟩
  case round =>
    obtain ⟨k, c, hg, hk, rfl, rfl, hC, hc0, hc1, hw⟩ := hrel
    by_cases hkl : k < xs.length
    · obtain ⟨b, off, hA, hlt, _⟩ := hR k hkl
      subst hA
      obtain ⟨m0, m1, m2⟩ := (hR.ext hw).mask k hkl
      have hs := votesN_take h xs k hkl
      cases hq : mhas xs[k] h with
      | true =>
        rw [hq, if_pos rfl, hC] at hs
        go_wp2_with fail
        refine Calls.mono (impl_has _ h h0 h1 _) ?_
        rintro e w1 ⟨rfl, hb1⟩
        go_wp2
        go_roundg (xs.length - (k + 1))
        case rel => exact ⟨k + 1, c + 1, rfl, hkl, rfl, rfl, hs, by omega, by omega, by ((repeat (first | with_reducible exact Ext.refl _ | with_reducible exact hw | with_reducible exact hb9 | with_reducible exact hb8 | with_reducible exact hb7 | with_reducible exact hb6 | with_reducible exact hb5 | with_reducible exact hb4 | with_reducible exact hb3 | with_reducible exact hb2 | with_reducible exact hb1 | with_reducible refine Ext.alloc ?_ _ | with_reducible refine Ext.drew ?_ | ((with_reducible refine Ext.set ?_ ?_ _); focus (dsimp only; omega)) | with_reducible refine Ext.trans ?_ hb9 | with_reducible refine Ext.trans ?_ hb8 | with_reducible refine Ext.trans ?_ hb7 | with_reducible refine Ext.trans ?_ hb6 | with_reducible refine Ext.trans ?_ hb5 | with_reducible refine Ext.trans ?_ hb4 | with_reducible refine Ext.trans ?_ hb3 | with_reducible refine Ext.trans ?_ hb2 | with_reducible refine Ext.trans ?_ hb1 | with_reducible refine Ext.trans ?_ hw)))⟩
        case measure => omega
      | false =>
        rw [hq, if_neg (by simp), hC, Int.add_zero] at hs
        go_wp2_with fail
        refine Calls.mono (impl_has _ h h0 h1 _) ?_
        rintro e w1 ⟨rfl, hb1⟩
        go_wp2
        go_roundg (xs.length - (k + 1))
        case rel => exact ⟨k + 1, c, rfl, hkl, rfl, rfl, hs, by omega, by omega, by ((repeat (first | with_reducible exact Ext.refl _ | with_reducible exact hw | with_reducible exact hb9 | with_reducible exact hb8 | with_reducible exact hb7 | with_reducible exact hb6 | with_reducible exact hb5 | with_reducible exact hb4 | with_reducible exact hb3 | with_reducible exact hb2 | with_reducible exact hb1 | with_reducible refine Ext.alloc ?_ _ | with_reducible refine Ext.drew ?_ | ((with_reducible refine Ext.set ?_ ?_ _); focus (dsimp only; omega)) | with_reducible refine Ext.trans ?_ hb9 | with_reducible refine Ext.trans ?_ hb8 | with_reducible refine Ext.trans ?_ hb7 | with_reducible refine Ext.trans ?_ hb6 | with_reducible refine Ext.trans ?_ hb5 | with_reducible refine Ext.trans ?_ hb4 | with_reducible refine Ext.trans ?_ hb3 | with_reducible refine Ext.trans ?_ hb2 | with_reducible refine Ext.trans ?_ hb1 | with_reducible refine Ext.trans ?_ hw)))⟩
        case measure => omega
    · obtain rfl : k = xs.length := by omega
      rw [List.take_length] at hC
      subst hC
      go_wp2
      go_ret
      exact ⟨rfl, hw⟩
set_option maxHeartbeats 400000 in
theorem spec_l04Votes (xs : List Mask) (A : Option Addr) (cap : Nat) (h : Int) (h0 : 0 ≤ h) (h1 : h < 128) (w : World) (hR : Rd encMask w A xs) (hn : xs.length ≤ 1048576) :
    Calls Try.prog 24 #[.slice A xs.length cap, .int .i64 h] w fun e w' => e = .returned (.int .i64 (votesN h xs)) ∧ Ext w w' := by
  go_enter Try.func24, Try.ntmps24
  go_wp2
  go_loopg [6, 5] xs.length (fun g i n wr => ∃ k : Nat, ∃ c : Int, g = xs.length - k ∧ k ≤ xs.length ∧ i = .int .i64 k ∧ n = .int .i64 c ∧ votesN h (xs.take k) = c ∧ 0 ≤ c ∧ c ≤ k ∧ Ext w wr)
  case atStart => exact ⟨0, 0, by omega, by omega, rfl, rfl, by rw [List.take_zero, votesN_nil], by omega, by omega, Ext.refl _⟩
  case round =>
    obtain ⟨k, c, hg, hk, rfl, rfl, hC, hc0, hc1, hw⟩ := hrel
    by_cases hkl : k < xs.length
    · obtain ⟨b, off, hA, hlt, _⟩ := hR k hkl
      subst hA
      obtain ⟨m0, m1, m2⟩ := (hR.ext hw).mask k hkl
      have hs := votesN_take h xs k hkl
      cases hq : mhas xs[k] h with
      | true =>
        rw [hq, if_pos rfl, hC] at hs
        go_wp2_with fail
        refine Calls.mono (spec_l01Has _ h h0 h1 _) ?_
        rintro e w1 ⟨rfl, hb1⟩
        go_wp2
        go_roundg (xs.length - (k + 1))
        case rel => exact ⟨k + 1, c + 1, rfl, hkl, rfl, rfl, hs, by omega, by omega, by ((repeat (first | with_reducible exact Ext.refl _ | with_reducible exact hw | with_reducible exact hb9 | with_reducible exact hb8 | with_reducible exact hb7 | with_reducible exact hb6 | with_reducible exact hb5 | with_reducible exact hb4 | with_reducible exact hb3 | with_reducible exact hb2 | with_reducible exact hb1 | with_reducible refine Ext.alloc ?_ _ | with_reducible refine Ext.drew ?_ | ((with_reducible refine Ext.set ?_ ?_ _); focus (dsimp only; omega)) | with_reducible refine Ext.trans ?_ hb9 | with_reducible refine Ext.trans ?_ hb8 | with_reducible refine Ext.trans ?_ hb7 | with_reducible refine Ext.trans ?_ hb6 | with_reducible refine Ext.trans ?_ hb5 | with_reducible refine Ext.trans ?_ hb4 | with_reducible refine Ext.trans ?_ hb3 | with_reducible refine Ext.trans ?_ hb2 | with_reducible refine Ext.trans ?_ hb1 | with_reducible refine Ext.trans ?_ hw)))⟩
        case measure => omega
      | false =>
        rw [hq, if_neg (by simp), hC, Int.add_zero] at hs
        go_wp2_with fail
        refine Calls.mono (spec_l01Has _ h h0 h1 _) ?_
        rintro e w1 ⟨rfl, hb1⟩
        go_wp2
        go_roundg (xs.length - (k + 1))
        case rel => exact ⟨k + 1, c, rfl, hkl, rfl, rfl, hs, by omega, by omega, by ((repeat (first | with_reducible exact Ext.refl _ | with_reducible exact hw | with_reducible exact hb9 | with_reducible exact hb8 | with_reducible exact hb7 | with_reducible exact hb6 | with_reducible exact hb5 | with_reducible exact hb4 | with_reducible exact hb3 | with_reducible exact hb2 | with_reducible exact hb1 | with_reducible refine Ext.alloc ?_ _ | with_reducible refine Ext.drew ?_ | ((with_reducible refine Ext.set ?_ ?_ _); focus (dsimp only; omega)) | with_reducible refine Ext.trans ?_ hb9 | with_reducible refine Ext.trans ?_ hb8 | with_reducible refine Ext.trans ?_ hb7 | with_reducible refine Ext.trans ?_ hb6 | with_reducible refine Ext.trans ?_ hb5 | with_reducible refine Ext.trans ?_ hb4 | with_reducible refine Ext.trans ?_ hb3 | with_reducible refine Ext.trans ?_ hb2 | with_reducible refine Ext.trans ?_ hb1 | with_reducible refine Ext.trans ?_ hw)))⟩
        case measure => omega
    · obtain rfl : k = xs.length := by omega
      rw [List.take_length] at hC
      subst hC
      go_wp2
      go_ret
      exact ⟨rfl, hw⟩
set_option maxHeartbeats 400000 in
theorem spec_l04Masks (xs : List Mask) (A : Option Addr) (cap : Nat) (w : World) (hR : Rd encMask w A xs) (hn : xs.length ≤ 1048576) :
    Calls Try.prog 23 #[.slice A xs.length cap] w fun e w' => e = .returned (.int .i64 (masksCode xs)) ∧ Ext w w' := by
  go_enter Try.func23, Try.ntmps23
  go_wp2
  go_loopg [3] xs.length (fun g i wr => ∃ k : Nat, g = xs.length - k ∧ k ≤ xs.length ∧ i = .int .i64 k ∧ (xs.take k).all isMaskB = true ∧ Ext w wr)
  case atStart => exact ⟨0, by omega, by omega, rfl, by rw [List.take_zero]; rfl, Ext.refl _⟩
  case round =>
    obtain ⟨k, hg, hk, rfl, hC, hw⟩ := hrel
    by_cases hkl : k < xs.length
    · obtain ⟨b, off, hA, hlt, _⟩ := hR k hkl
      subst hA
      obtain ⟨m0, m1, m2⟩ := (hR.ext hw).mask k hkl
      have hs := all_take isMaskB xs k hkl
      rw [hC, Bool.true_and] at hs
      cases hq : isMaskB xs[k] with
      | true =>
        rw [hq] at hs
        go_wp2_with fail
        refine Calls.mono (spec_l01Mask _ _) ?_
        rintro e w1 ⟨rfl, hb1⟩
        go_wp2
        go_roundg (xs.length - (k + 1))
        case rel => exact ⟨k + 1, rfl, hkl, rfl, hs, by ((repeat (first | with_reducible exact Ext.refl _ | with_reducible exact hw | with_reducible exact hb9 | with_reducible exact hb8 | with_reducible exact hb7 | with_reducible exact hb6 | with_reducible exact hb5 | with_reducible exact hb4 | with_reducible exact hb3 | with_reducible exact hb2 | with_reducible exact hb1 | with_reducible refine Ext.alloc ?_ _ | with_reducible refine Ext.drew ?_ | ((with_reducible refine Ext.set ?_ ?_ _); focus (dsimp only; omega)) | with_reducible refine Ext.trans ?_ hb9 | with_reducible refine Ext.trans ?_ hb8 | with_reducible refine Ext.trans ?_ hb7 | with_reducible refine Ext.trans ?_ hb6 | with_reducible refine Ext.trans ?_ hb5 | with_reducible refine Ext.trans ?_ hb4 | with_reducible refine Ext.trans ?_ hb3 | with_reducible refine Ext.trans ?_ hb2 | with_reducible refine Ext.trans ?_ hb1 | with_reducible refine Ext.trans ?_ hw)))⟩
        case measure => omega
      | false =>
        have hM : masksCode xs = 1 := by simp [masksCode, all_miss isMaskB xs k hkl hq]
        go_wp2_with fail
        refine Calls.mono (spec_l01Mask _ _) ?_
        rintro e w1 ⟨rfl, hb1⟩
        go_wp2
        go_ret
        exact ⟨by rw [hM]; rfl, by ((repeat (first | with_reducible exact Ext.refl _ | with_reducible exact hw | with_reducible exact hb9 | with_reducible exact hb8 | with_reducible exact hb7 | with_reducible exact hb6 | with_reducible exact hb5 | with_reducible exact hb4 | with_reducible exact hb3 | with_reducible exact hb2 | with_reducible exact hb1 | with_reducible refine Ext.alloc ?_ _ | with_reducible refine Ext.drew ?_ | ((with_reducible refine Ext.set ?_ ?_ _); focus (dsimp only; omega)) | with_reducible refine Ext.trans ?_ hb9 | with_reducible refine Ext.trans ?_ hb8 | with_reducible refine Ext.trans ?_ hb7 | with_reducible refine Ext.trans ?_ hb6 | with_reducible refine Ext.trans ?_ hb5 | with_reducible refine Ext.trans ?_ hb4 | with_reducible refine Ext.trans ?_ hb3 | with_reducible refine Ext.trans ?_ hb2 | with_reducible refine Ext.trans ?_ hb1 | with_reducible refine Ext.trans ?_ hw)))⟩
    · obtain rfl : k = xs.length := by omega
      rw [List.take_length] at hC
      by_cases h15 : 15 < xs.length
      · have hM : masksCode xs = 2 := by simp [masksCode, hC, h15]
        go_wp2
        go_ret
        exact ⟨by rw [hM]; rfl, hw⟩
      · have hM : masksCode xs = 0 := by simp [masksCode, hC, h15]
        go_wp2
        go_ret
        exact ⟨by rw [hM]; rfl, hw⟩
