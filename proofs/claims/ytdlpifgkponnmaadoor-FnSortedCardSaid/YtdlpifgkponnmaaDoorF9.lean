/-
  Contracts of the reference's functions on codes of fields: the holes of a field, powers, notches, the mask of a value.
-/
import Derived.Test.YtdlpifgkponnmaaDoorF6
import Derived.Test.YtdlpifgkponnmaaDoorC3
set_option linter.unusedVariables false
set_option linter.unusedSimpArgs false
set_option maxRecDepth 100000
namespace Go.Proofs.YtdlpifgkponnmaaDoor
open Go.RowKit
theorem powB {b : Int} (hb : b = 2 ∨ b = 10) (j : Nat) (hj : j ≤ 13) : 1 ≤ b ^ j ∧ b ^ j ≤ 10000000000000 := by
  rcases hb with rfl | rfl
  · have h : ∀ j : Fin 14, (1 : Int) ≤ 2 ^ j.val ∧ (2 : Int) ^ j.val ≤ 10000000000000 := by decide
    exact h ⟨j, by omega⟩
  · have h : ∀ j : Fin 14, (1 : Int) ≤ 10 ^ j.val ∧ (10 : Int) ^ j.val ≤ 10000000000000 := by decide
    exact h ⟨j, by omega⟩
set_option maxHeartbeats 400000 in
theorem spec_l01Power (b n : Int) (hb : b = 2 ∨ b = 10) (n0 : 0 ≤ n) (n1 : n ≤ 12) (w : World) :
    Calls Tryd.prog 95 #[.int .i64 b, .int .i64 n] w fun e w' => e = .returned (.int .i64 (b ^ n.toNat)) ∧ Ext w w' := by
  go_enter Tryd.func95, Tryd.ntmps95
  go_wp2
  go_loopg [5, 6] n.toNat (fun g o i wr => ∃ (k : Nat) (p : Int), g = n.toNat - k ∧ k ≤ n.toNat ∧ i = .int .i64 k ∧ o = .int .i64 p ∧ Hd (p = b ^ k) ∧ Ext w wr)
  case atStart => exact ⟨0, 1, by omega, by omega, rfl, rfl, hd (by rw [Int.pow_zero]), by ((repeat (first | with_reducible exact Ext.refl _ | with_reducible exact hw | with_reducible exact hb9 | with_reducible exact hb8 | with_reducible exact hb7 | with_reducible exact hb6 | with_reducible exact hb5 | with_reducible exact hb4 | with_reducible exact hb3 | with_reducible exact hb2 | with_reducible exact hb1 | with_reducible refine Ext.alloc ?_ _ | with_reducible refine Ext.drew ?_ | ((with_reducible refine Ext.set ?_ ?_ _); focus (dsimp only; omega)) | with_reducible refine Ext.trans ?_ hb9 | with_reducible refine Ext.trans ?_ hb8 | with_reducible refine Ext.trans ?_ hb7 | with_reducible refine Ext.trans ?_ hb6 | with_reducible refine Ext.trans ?_ hb5 | with_reducible refine Ext.trans ?_ hb4 | with_reducible refine Ext.trans ?_ hb3 | with_reducible refine Ext.trans ?_ hb2 | with_reducible refine Ext.trans ?_ hb1 | with_reducible refine Ext.trans ?_ hw)))⟩
  case round =>
    obtain ⟨k, p, hg, hk, rfl, rfl, hp, hw⟩ := hrel
    by_cases hkl : k < n.toNat
    · have hks : (k : Int) < n := by omega
      have hn := hd (show p * b = b ^ (k + 1) by rw [hp.out, Int.pow_succ])
      have hB := powB hb (k + 1) (by omega)
      rw [← hn.out] at hB
      have wr1 : IntKind.i64.wrap (p * b) = p * b := IntWalk.i64_in _ (by omega)
      clear hB hp
      go_wp2
      go_roundg (n.toNat - (k + 1))
      case rel => exact ⟨k + 1, p * b, rfl, hkl, by simp, rfl, hn, hw⟩
      case measure => omega
    · obtain rfl : k = n.toNat := by omega
      have hks : ((n.toNat : Nat) : Int) = n := by omega
      go_wp2
      go_ret
      refine ⟨?_, hw⟩
      have := hp.out
      subst this
      rfl
