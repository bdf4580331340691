/-
  Contracts of the laws' functions that mark entries, and look whether the marks are held.
-/
import Derived.Test.YtmphnocgihegbaaDoorM1
set_option linter.unusedVariables false
set_option linter.unusedSimpArgs false
set_option maxRecDepth 100000
namespace Go.Proofs.YtmphnocgihegbaaDoor
open Go.RowKit
def markE (k : Nat) : Ent := ⟨markS k, (k : Int) + 1, (k : Int) + 1 + 1⟩
/-- The marked entries from k on, n of them. -/
def upEnts (k : Nat) : Nat → List Ent
  | 0 => []
  | n + 1 => markE k :: upEnts (k + 3) n
theorem upEnts_len : ∀ (n k : Nat), (upEnts k n).length = n
  | 0, _ => rfl
  | n + 1, k => by rw [upEnts, List.length_cons, upEnts_len n]
theorem upEnts_get : ∀ (n k i : Nat) (h : i < (upEnts k n).length), (upEnts k n)[i] = markE (k + 3 * i)
  | 0, _, _, h => by simp [upEnts] at h
  | n + 1, k, 0, _ => rfl
  | n + 1, k, i + 1, h => by
    show (upEnts (k + 3) n)[i]'_ = _
    rw [upEnts_get n (k + 3) i, show k + 3 + 3 * i = k + 3 * (i + 1) by omega]
theorem upEnts_snoc : ∀ (n k : Nat), upEnts k (n + 1) = upEnts k n ++ [markE (k + 3 * n)]
  | 0, _ => rfl
  | n + 1, k => by
    rw [upEnts, upEnts_snoc n (k + 3), show k + 3 + 3 * n = k + 3 * (n + 1) by omega]
    rfl
def markETo (xs : List Ent) (k i : Nat) : List Ent := (upEnts k i) ++ xs.drop i
theorem markETo_len (xs : List Ent) (k i : Nat) (h : i ≤ xs.length) : (markETo xs k i).length = xs.length := by
  unfold markETo
  rw [List.length_append, upEnts_len, List.length_drop]
  omega
theorem markETo_set (xs : List Ent) (k i : Nat) (h : i < xs.length) : (markETo xs k i).set i (markE (k + 3 * i)) = markETo xs k (i + 1) := by
  unfold markETo
  rw [List.set_append_right _ _ (by rw [upEnts_len]; omega), upEnts_len, Nat.sub_self, List.drop_eq_getElem_cons h, List.set_cons_zero, upEnts_snoc, List.append_assoc]
  rfl
theorem markETo_all (xs : List Ent) (k : Nat) : markETo xs k xs.length = upEnts k xs.length := by
  unfold markETo
  rw [List.drop_length, List.append_nil]
set_option maxHeartbeats 1000000 in
theorem laws_markEntryS (xs : List Ent) (v : Value) (k base : Nat) (w : World) (hO : Ow encEnt 49 w base v xs) (hn : xs.length ≤ 1048576) (hk : k ≤ 1048576) :
    Calls Tryd.prog 15 #[v, .int .i64 k] w fun e w' => e = .returned (.int .i64 ((k : Int) + 3 * xs.length)) ∧ Ow encEnt 49 w' base v (upEnts k xs.length) ∧ w.grownBy w' v.ownBlock := by
  rcases hO.shape with ⟨rfl, rfl⟩ | ⟨g, cap, rfl, hg, hgl⟩
  · go_enter Tryd.func15, Tryd.ntmps15
    go_wp2
    refine wp_loop_rounds 1 ?_
    rw [rounds_succ]
    go_wp2
    go_ret
    exact ⟨by simp, Ow.nil _ _ _ _, grownBy_refl _ _⟩
  · rw [← markETo_all]
    go_enter Tryd.func15, Tryd.ntmps15
    go_wp2
    go_loopg [5, 1] xs.length (fun g' i m wr => ∃ j q : Nat, g' = xs.length - j ∧ j ≤ xs.length ∧ i = .int .i64 j ∧ m = .int .i64 q ∧ q = k + 3 * j ∧ Ow encEnt 49 wr base (.slice (some ⟨g, 0, none⟩) xs.length cap) (markETo xs k j) ∧ w.grownBy wr (some g))
    case atStart => exact ⟨0, k, by omega, by omega, rfl, rfl, rfl, by unfold markETo upEnts; exact hO, grownBy_refl _ _⟩
    case round =>
      obtain ⟨j, q, hg', hj, rfl, rfl, hq, hO', hgr⟩ := hrel
      have hml := markETo_len xs k j hj
      by_cases hjl : j < xs.length
      · have hset := markETo_set xs k j hjl
        rw [← hq] at hset
        have hq2 := hd hq
        have hqb : q ≤ 10000000 := by omega
        clear hq
        generalize markETo xs k j = ys at hO' hml hset
        have hjy : j < ys.length := by omega
        go_wp2_with fail
        refine Calls.mono (laws_markText q (by omega) _) ?_
        rintro e w1 ⟨rfl, hb1⟩
        have hO1 := hO'.ext hb1
        have hgr1 := grownBy_ext hgr hb1
        clear hO' hgr hb1
        obtain ⟨c0, c1, c2, hbl⟩ := hO1.rd.ent j hjy
        simp only [Nat.zero_add] at c0 c1 c2
        have f0 := hO1.frozen (j * 3)
        have f1 := hO1.frozen (j * 3 + 1)
        have f2 := hO1.frozen (j * 3 + 2)
        have z0 := hO1.set1 j 0 (.string (markS q)) ⟨markS q, ys[j].see, ys[j].br⟩ hjy (by decide) rfl
        have z1 := z0.set1 j 1 (.int .i64 ((q : Int) + 1)) ⟨markS q, (q : Int) + 1, ys[j].br⟩ (by rw [List.length_set]; exact hjy) (by decide) (by rw [List.getElem_set_self]; rfl)
        have z2 := z1.set1 j 2 (.int .i64 ((q : Int) + 1 + 1)) (markE q) (by rw [List.length_set, List.length_set]; exact hjy) (by decide) (by rw [List.getElem_set_self]; rfl)
        rw [List.set_set, List.set_set, hset, show j * encEnt.sz + 0 = j * 3 from rfl, show j * encEnt.sz + 1 = j * 3 + 1 from rfl, show j * encEnt.sz + 2 = j * 3 + 2 from rfl] at z2
        have g2 := grownBy_set (grownBy_set (grownBy_set hgr1 (j * 3) (.string (markS q))) (j * 3 + 1) (.int .i64 ((q : Int) + 1))) (j * 3 + 2) (.int .i64 ((q : Int) + 1 + 1))
        clear z0 z1 hO1 hset hgr1
        go_wp2
        go_roundg (xs.length - (j + 1))
        case rel => exact ⟨j + 1, q + 3, rfl, hjl, rfl, by rw [show ((q + 3 : Nat) : Int) = (q : Int) + 1 + 1 + 1 by omega], by rw [hq2.out]; omega, z2, g2⟩
        case measure => omega
      · obtain rfl : j = xs.length := by omega
        subst hq
        go_wp2
        go_ret
        exact ⟨by simp, hO', hgr⟩
set_option maxHeartbeats 1000000 in
theorem laws_heldEntryS (n : Nat) (A : Option Addr) (cap : Nat) (k : Nat) (w : World) (hR : Rd encEnt w A (upEnts k n)) (hn : n ≤ 1048576) (hk : k ≤ 1048576) :
    Calls Tryd.prog 20 #[.slice A n cap, .int .i64 k] w fun e w' => e = .returned (.int .i64 ((k : Int) + 3 * n)) ∧ Ext w w' := by
  have hx := @ExtOf.cell
  go_enter Tryd.func20, Tryd.ntmps20
  go_wp2
  go_loopg [5, 1] n (fun g' i m wr => ∃ j q : Nat, g' = n - j ∧ j ≤ n ∧ i = .int .i64 j ∧ m = .int .i64 q ∧ q = k + 3 * j ∧ Ext w wr)
  case atStart => exact ⟨0, k, by omega, by omega, rfl, rfl, rfl, Ext.refl _⟩
  case round =>
    obtain ⟨j, q, hg', hj, rfl, rfl, hq, hw⟩ := hrel
    by_cases hjl : j < n
    · have hjx : j < (upEnts k n).length := by rw [upEnts_len]; exact hjl
      obtain ⟨b, off, hA, hlt, _⟩ := hR j hjx
      subst hA
      obtain ⟨c0, c1, c2, c3⟩ := (hR.ext hw).ent j hjx
      rw [upEnts_get n k j hjx, ← hq] at c0 c1 c2
      simp only [markE] at c0 c1 c2
      have hq2 := hd hq
      have hqb : q ≤ 10000000 := by omega
      have hE : (markS q).toList == (markS q).toList := by simp
      clear hq
      have hmt := fun W => laws_markText q (by omega) W
      generalize markS q = s at c0 hE hmt
      go_wp2
      refine wp_region_ext (by kernel_rfl) (by kernel_rfl) ?_
      repeat (first | go_big_quiet_step ((go_at_call 45; with_reducible exact Calls.ext_of (hmt _))) | quiet_step ((go_at_call 45; with_reducible exact Calls.ext_of (hmt _))))
      refine wpQuiet_nil ?_
      intro w1 hq1
      have hb1 := ext_of_class hq1
      clear hq1
      obtain ⟨hc1, hf1, hz1⟩ := bcell3 hb1
      try simp at hz1
      have d1 := hb1.cell c1
      have d2 := hb1.cell c2
      have d3 : b < w1.heap.size := Nat.lt_of_lt_of_le c3 hb1.size
      have hw1 := hw.trans hb1
      clear c0 c1 c2 c3 hc1 hf1 hx hmt
      go_wp2
      go_roundg (n - (j + 1))
      case rel => exact ⟨j + 1, q + 3, rfl, hjl, rfl, by rw [show ((q + 3 : Nat) : Int) = (q : Int) + 1 + 1 + 1 by omega], by rw [hq2.out]; omega, hw1⟩
      case measure => omega
    · obtain rfl : j = n := by omega
      subst hq
      go_wp2
      go_ret
      exact ⟨by simp, hw⟩
