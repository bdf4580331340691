/-
  Contracts of the laws' functions that mark masks, and look whether the marks are held.
-/
import Derived.Test.YtbmompanhigmnaaDoorMI
import Derived.Test.YtbmompanhigmnaaDoorC5
set_option linter.unusedVariables false
set_option linter.unusedSimpArgs false
set_option maxRecDepth 100000
namespace Go.Proofs.YtbmompanhigmnaaDoor
open Go.RowKit
def markM (k : Nat) : Mask := mof (k : Int) ((k : Int) + 1)
theorem markM_lo {k : Nat} (h : k ≤ 100000000) : lo (markM k) = k := lo_mof (by omega) (by omega) (by omega) (by omega)
theorem markM_hi {k : Nat} (h : k ≤ 100000000) : hi (markM k) = (k : Int) + 1 := hi_mof (by omega) (by omega) (by omega) (by omega)
/-- The marked masks from k on, n of them. -/
def upMk (k : Nat) : Nat → List Mask
  | 0 => []
  | n + 1 => markM k :: upMk (k + 2) n
theorem upMk_len : ∀ (n k : Nat), (upMk k n).length = n
  | 0, _ => rfl
  | n + 1, k => by rw [upMk, List.length_cons, upMk_len n]
theorem upMk_get : ∀ (n k i : Nat) (h : i < (upMk k n).length), (upMk k n)[i] = markM (k + 2 * i)
  | 0, _, _, h => by simp [upMk] at h
  | n + 1, k, 0, _ => rfl
  | n + 1, k, i + 1, h => by
    show (upMk (k + 2) n)[i]'_ = _
    rw [upMk_get n (k + 2) i, show k + 2 + 2 * i = k + 2 * (i + 1) by omega]
theorem upMk_snoc : ∀ (n k : Nat), upMk k (n + 1) = upMk k n ++ [markM (k + 2 * n)]
  | 0, _ => rfl
  | n + 1, k => by
    rw [upMk, upMk_snoc n (k + 2), show k + 2 + 2 * n = k + 2 * (n + 1) by omega]
    rfl
def markMTo (xs : List Mask) (k i : Nat) : List Mask := (upMk k i) ++ xs.drop i
theorem markMTo_len (xs : List Mask) (k i : Nat) (h : i ≤ xs.length) : (markMTo xs k i).length = xs.length := by
  unfold markMTo
  rw [List.length_append, upMk_len, List.length_drop]
  omega
theorem markMTo_set (xs : List Mask) (k i : Nat) (h : i < xs.length) : (markMTo xs k i).set i (markM (k + 2 * i)) = markMTo xs k (i + 1) := by
  unfold markMTo
  rw [List.set_append_right _ _ (by rw [upMk_len]; omega), upMk_len, Nat.sub_self, List.drop_eq_getElem_cons h, List.set_cons_zero, upMk_snoc, List.append_assoc]
  rfl
theorem markMTo_all (xs : List Mask) (k : Nat) : markMTo xs k xs.length = upMk k xs.length := by
  unfold markMTo
  rw [List.drop_length, List.append_nil]
set_option maxHeartbeats 1000000 in
theorem laws_markMaskS (xs : List Mask) (v : Value) (k base : Nat) (w : World) (hO : Ow encMask 53 w base v xs) (hn : xs.length ≤ 1048576) (hk : k ≤ 1048576) :
    Calls Tryd.prog 18 #[v, .int .i64 k] w fun e w' => e = .returned (.int .i64 ((k : Int) + 2 * xs.length)) ∧ Ow encMask 53 w' base v (upMk k xs.length) ∧ w.grownBy w' v.ownBlock := by
  rcases hO.shape with ⟨rfl, rfl⟩ | ⟨g, cap, rfl, hg, hgl⟩
  · go_enter Tryd.func18, Tryd.ntmps18
    go_wp2
    refine wp_loop_rounds 1 ?_
    rw [rounds_succ]
    go_wp2
    go_ret
    exact ⟨by simp, Ow.nil _ _ _ _, grownBy_refl _ _⟩
  · rw [← markMTo_all]
    go_enter Tryd.func18, Tryd.ntmps18
    go_wp2
    go_loopg [5, 1] xs.length (fun g' i m wr => ∃ j q : Nat, g' = xs.length - j ∧ j ≤ xs.length ∧ i = .int .i64 j ∧ m = .int .i64 q ∧ q = k + 2 * j ∧ Ow encMask 53 wr base (.slice (some ⟨g, 0, none⟩) xs.length cap) (markMTo xs k j) ∧ w.grownBy wr (some g))
    case atStart => exact ⟨0, k, by omega, by omega, rfl, rfl, rfl, by unfold markMTo upMk; exact hO, grownBy_refl _ _⟩
    case round =>
      obtain ⟨j, q, hg', hj, rfl, rfl, hq, hO', hgr⟩ := hrel
      have hml := markMTo_len xs k j hj
      by_cases hjl : j < xs.length
      · have hset := markMTo_set xs k j hjl
        rw [← hq] at hset
        have hq2 := hd hq
        have hqb : q ≤ 10000000 := by omega
        clear hq
        generalize markMTo xs k j = ys at hO' hml hset
        have hjy : j < ys.length := by omega
        obtain ⟨c0, c1, hbl⟩ := hO'.rd.mask j hjy
        simp only [Nat.zero_add] at c0 c1
        have f0 := hO'.frozen (j * 2)
        have f1 := hO'.frozen (j * 2 + 1)
        have wq0 : IntKind.u64.wrap ((q : Int)) = (q : Int) := IntWalk.u64_in _ (by omega)
        have wq1 : IntKind.u64.wrap ((q : Int) + 1) = (q : Int) + 1 := IntWalk.u64_in _ (by omega)
        have hm1 : lo (mof (q : Int) (hi ys[j])) = (q : Int) := lo_mof (by omega) (by omega) (hi_ge _) (hi_lt _)
        have hm2 : hi (mof (q : Int) (hi ys[j])) = hi ys[j] := hi_mof (by omega) (by omega) (hi_ge _) (hi_lt _)
        have hm3 : lo (markM q) = (q : Int) := markM_lo (by omega)
        have hm4 : hi (markM q) = (q : Int) + 1 := markM_hi (by omega)
        have z0 := hO'.set1 j 0 (.int .u64 (q : Int)) (mof (q : Int) (hi ys[j])) hjy (by decide) (by simp only [encMask]; rw [hm1, hm2]; rfl)
        have z1 := z0.set1 j 1 (.int .u64 ((q : Int) + 1)) (markM q) (by rw [List.length_set]; exact hjy) (by decide) (by rw [List.getElem_set_self]; simp only [encMask]; rw [hm1, hm2, hm3, hm4]; rfl)
        rw [List.set_set, hset, show j * encMask.sz + 0 = j * 2 from rfl, show j * encMask.sz + 1 = j * 2 + 1 from rfl] at z1
        have g2 := grownBy_set (grownBy_set hgr (j * 2) (.int .u64 (q : Int))) (j * 2 + 1) (.int .u64 ((q : Int) + 1))
        clear z0 hO' hset hgr hm1 hm2 hm3 hm4
        go_wp2
        refine wp_loop_rounds 3 ?_
        rw [rounds_succ]
        go_wp2
        rw [rounds_succ]
        go_wp2
        rw [rounds_succ]
        go_wp2
        go_roundg (xs.length - (j + 1))
        case rel => exact ⟨j + 1, q + 2, rfl, hjl, rfl, by rw [show ((q + 2 : Nat) : Int) = (q : Int) + 1 + 1 by omega], by rw [hq2.out]; omega, z1, g2⟩
        case measure => omega
      · obtain rfl : j = xs.length := by omega
        subst hq
        go_wp2
        go_ret
        exact ⟨by simp, hO', hgr⟩
set_option maxHeartbeats 1000000 in
theorem laws_heldMaskS (n : Nat) (A : Option Addr) (cap : Nat) (k : Nat) (w : World) (hR : Rd encMask w A (upMk k n)) (hn : n ≤ 1048576) (hk : k ≤ 1048576) :
    Calls Tryd.prog 19 #[.slice A n cap, .int .i64 k] w fun e w' => e = .returned (.int .i64 ((k : Int) + 2 * n)) ∧ Ext w w' := by
  go_enter Tryd.func19, Tryd.ntmps19
  go_wp2
  go_loopg [5, 1] n (fun g' i m wr => ∃ j q : Nat, g' = n - j ∧ j ≤ n ∧ i = .int .i64 j ∧ m = .int .i64 q ∧ q = k + 2 * j ∧ Ext w wr)
  case atStart => exact ⟨0, k, by omega, by omega, rfl, rfl, rfl, Ext.refl _⟩
  case round =>
    obtain ⟨j, q, hg', hj, rfl, rfl, hq, hw⟩ := hrel
    by_cases hjl : j < n
    · have hjx : j < (upMk k n).length := by rw [upMk_len]; exact hjl
      obtain ⟨b, off, hA, hlt, _⟩ := hR j hjx
      subst hA
      obtain ⟨c0, c1, hbl⟩ := (hR.ext hw).mask j hjx
      rw [upMk_get n k j hjx, ← hq] at c0 c1
      have hq2 := hd hq
      have hqb : q ≤ 10000000 := by omega
      clear hq
      rw [markM_lo (by omega)] at c0
      rw [markM_hi (by omega)] at c1
      have wq0 : IntKind.u64.wrap ((q : Int)) = (q : Int) := IntWalk.u64_in _ (by omega)
      have wq1 : IntKind.u64.wrap ((q : Int) + 1) = (q : Int) + 1 := IntWalk.u64_in _ (by omega)
      go_wp2
      refine wp_loop_rounds 3 ?_
      rw [rounds_succ]
      go_wp2
      rw [rounds_succ]
      go_wp2
      rw [rounds_succ]
      go_wp2
      go_roundg (n - (j + 1))
      case rel => exact ⟨j + 1, q + 2, rfl, hjl, rfl, by rw [show ((q + 2 : Nat) : Int) = (q : Int) + 1 + 1 by omega], by rw [hq2.out]; omega, hw⟩
      case measure => omega
    · obtain rfl : j = n := by omega
      subst hq
      go_wp2
      go_ret
      exact ⟨by simp, hw⟩
end Go.Proofs.YtbmompanhigmnaaDoor
