/-
  The walk of the law FnExactFirstFrom.
-/
import Derived.Test.YtdlpifgkponnmaaDoorDB
import Derived.Test.YtdlpifgkponnmaaDoorL6
set_option linter.unusedVariables false
set_option linter.unusedSimpArgs false
set_option maxRecDepth 100000
namespace Go.Proofs.YtdlpifgkponnmaaDoor
open Go.RowKit
set_option maxHeartbeats 2000000 in
theorem laws_FnExactFirstFrom (ds : List Crd) (A : Option Addr) (cap : Nat) (f : Fld) (bud : Int) (hq0 : -9223372036854775808 ≤ bud) (hq1 : bud < 9223372036854775808) (w : World) (hn : ds.length ≤ 9223372036854775807) (hR : Rd encCrd w A ds) (hok : ∀ c ∈ ds, CrdIn c) (hf : FldIn f) :
    Calls Tryd.prog 4 #[.slice A ds.length cap, .agg #[.string f.nm, .int .i8 f.kd, .int .i16 f.st, .int .i16 f.sz], .int .i64 bud] w fun e w' => e = .returned (.bool true) ∧ Ext w w' := by
  have rr := eqL_refl crdB crdB_refl ds
  have htc := fun W => laws_toField f W
  go_enter Tryd.func4, Tryd.ntmps4
  go_wp2_with fail
  refine Calls.mono (laws_szCardS ds A cap 1048576 (by omega) (by omega) hn _ (hR.ext (by ((repeat (first | with_reducible exact Ext.refl _ | with_reducible exact hw | with_reducible exact hb9 | with_reducible exact hb8 | with_reducible exact hb7 | with_reducible exact hb6 | with_reducible exact hb5 | with_reducible exact hb4 | with_reducible exact hb3 | with_reducible exact hb2 | with_reducible exact hb1 | with_reducible refine Ext.alloc ?_ _ | with_reducible refine Ext.drew ?_ | ((with_reducible refine Ext.set ?_ ?_ _); focus (dsimp only; omega)) | with_reducible refine Ext.trans ?_ hb9 | with_reducible refine Ext.trans ?_ hb8 | with_reducible refine Ext.trans ?_ hb7 | with_reducible refine Ext.trans ?_ hb6 | with_reducible refine Ext.trans ?_ hb5 | with_reducible refine Ext.trans ?_ hb4 | with_reducible refine Ext.trans ?_ hb3 | with_reducible refine Ext.trans ?_ hb2 | with_reducible refine Ext.trans ?_ hb1 | with_reducible refine Ext.trans ?_ hw))))) hok) ?_
  rintro e w1 ⟨r, rfl, hr, hb1⟩
  have c0 : w1.cell? ⟨w.heap.size, 0, none⟩ = some (.string f.nm) := hb1.cell (by go_simp)
  have c1 : w1.cell? ⟨w.heap.size, 1, none⟩ = some (.int .i8 f.kd) := hb1.cell (by go_simp)
  have c2 : w1.cell? ⟨w.heap.size, 2, none⟩ = some (.int .i16 f.st) := hb1.cell (by go_simp)
  have c3 : w1.cell? ⟨w.heap.size, 3, none⟩ = some (.int .i16 f.sz) := hb1.cell (by go_simp)
  have hw1 : Ext w w1 := by ((repeat (first | with_reducible exact Ext.refl _ | with_reducible exact hw | with_reducible exact hb9 | with_reducible exact hb8 | with_reducible exact hb7 | with_reducible exact hb6 | with_reducible exact hb5 | with_reducible exact hb4 | with_reducible exact hb3 | with_reducible exact hb2 | with_reducible exact hb1 | with_reducible refine Ext.alloc ?_ _ | with_reducible refine Ext.drew ?_ | ((with_reducible refine Ext.set ?_ ?_ _); focus (dsimp only; omega)) | with_reducible refine Ext.trans ?_ hb9 | with_reducible refine Ext.trans ?_ hb8 | with_reducible refine Ext.trans ?_ hb7 | with_reducible refine Ext.trans ?_ hb6 | with_reducible refine Ext.trans ?_ hb5 | with_reducible refine Ext.trans ?_ hb4 | with_reducible refine Ext.trans ?_ hb3 | with_reducible refine Ext.trans ?_ hb2 | with_reducible refine Ext.trans ?_ hb1 | with_reducible refine Ext.trans ?_ hw)))
  clear hb1
  by_cases hr0 : r < 0
  · go_wp2
    go_ret
    exact ⟨rfl, hw1⟩
  obtain ⟨g0, g1, g2⟩ := hr.resolve_left hr0
  have hn1 : ds.length ≤ 1048576 := by omega
  clear hr
  have hsp := fun (a : Option Addr) (n : Nat) (W : World) (h : Rd encCrd W a ds) => spec_FirstFrom ds a n f bud hq0 hq1 W h hn1 hok hf
  have him := fun (a : Option Addr) (n : Nat) (W : World) (h : Rd encCrd W a ds) (hc : ds.length ≤ n) => impl_FirstFrom ds a n f bud hq0 hq1 W h hc hn1 hok hf
  generalize ffF ds f bud = q at hsp him
  obtain ⟨p0, p1⟩ := q
  dsimp only at hsp him
  have lc := World.block_lt_of_cell? _ _ c0
  dsimp only at lc
  go_wp2_with fail
  refine Calls.mono (laws_szField f r (by omega) (by omega) hf.2 _) ?_
  rintro e w2 ⟨rfl, hb2⟩
  have hw2 := hw1.trans hb2
  have c0 := hb2.cell c0
  have c1 := hb2.cell c1
  have c2 := hb2.cell c2
  have c3 := hb2.cell c3
  clear hb2 hw1 lc
  by_cases hr1 : szF f.nm.size r < 0
  · generalize szF f.nm.size r = q1 at hr1
    go_wp2
    go_ret
    exact ⟨rfl, hw2⟩
  generalize szF f.nm.size r = q1 at hr1
  go_wp2
  refine wp_region_any (by kernel_rfl) ?_
  change wpAny _ _ _ _ _ _ _ (World.drew _)
  refine intro_world (fun WD hWD => ?_)
  have eD : Ext w2 WD := by rw [hWD]; exact (Ext.refl _).drew
  have fD := (Ext.refl w2).trans eD
  clear hWD
  refine wpAny_take (i := 0) (v := ?_) rfl (by kernel_rfl) (by kernel_rfl) (by kernel_rfl) (fun _ _ _ h => h) (Or.inl ⟨by rfl, ?_⟩) ?_
  rotate_left
  · (intro W9; go_simp; try with_reducible rfl)
  refine wpAny_take (i := 4) (v := ?_) rfl (by kernel_rfl) (by kernel_rfl) (by kernel_rfl) (fun _ _ _ h => h) (Or.inl ⟨by rfl, ?_⟩) ?_
  rotate_left
  · (intro W9; go_simp; try with_reducible rfl)
  apply Conv.conv3 (C := fun A cap W => Ext w2 W ∧ ds.length ≤ cap ∧ Ow encCrd 60 W w2.heap.size (.slice A ds.length cap) ds)
  case h =>
    intro hk
    have y0 := fD.cell c0
    have y1 := fD.cell c1
    have y2 := fD.cell c2
    have y3 := fD.cell c3
    refine wpAny_ready (rs := [1, 2]) (by kernel_rfl) (by simp) ?_
    refine AllReady.cons rfl (fun K hK => ?_) (AllReady.cons rfl (fun K hK => ?_) AllReady.nil)
    · go_simp
      go_wp2_with fail
      refine Calls.mono (laws_toCardS ds A cap _ (hR.ext (hw2.trans eD)) hn1) ?_
      rintro e WA ⟨vA, rfl, hOA, hA⟩
      obtain ⟨AA, cA, rfl, hleA, _⟩ := hOA.slice
      go_wp2_with fail
      have fA := fD.trans hA
      have y0 := fA.cell c0
      have y1 := fA.cell c1
      have y2 := fA.cell c2
      have y3 := fA.cell c3
      refine wpAny_ready (rs := [2]) (by kernel_rfl) (by simp) ?_
      refine AllReady.cons rfl (fun K hK => ?_) ?_
      rotate_left
      · exact AllReady.nil
      go_simp
      refine hK _ _ ?_
      clear hK K
      refine wpAny_ready (rs := [3]) (by kernel_rfl) (by simp) ?_
      refine AllReady.cons rfl (fun K hK => ?_) ?_
      rotate_left
      · exact AllReady.nil
      go_simp
      go_wp2_with fail
      refine Calls.mono (htc _) ?_
      rintro e WB ⟨rfl, hB⟩
      go_wp2_with fail
      exact hk _ _ _ ⟨(eD.trans hA).trans hB, hleA, (hOA.lower eD.size).ext hB⟩
    · go_simp
      refine hK _ _ ?_
      clear hK K
      refine wpAny_ready (rs := [1]) (by kernel_rfl) (by simp) ?_
      refine AllReady.cons rfl (fun K hK => ?_) ?_
      rotate_left
      · exact AllReady.nil
      go_simp
      go_wp2_with fail
      refine Calls.mono (laws_toCardS ds A cap _ (hR.ext (hw2.trans eD)) hn1) ?_
      rintro e WA ⟨vA, rfl, hOA, hA⟩
      obtain ⟨AA, cA, rfl, hleA, _⟩ := hOA.slice
      go_wp2_with fail
      have fA := fD.trans hA
      have y0 := fA.cell c0
      have y1 := fA.cell c1
      have y2 := fA.cell c2
      have y3 := fA.cell c3
      refine wpAny_ready (rs := [3]) (by kernel_rfl) (by simp) ?_
      refine AllReady.cons rfl (fun K hK => ?_) ?_
      rotate_left
      · exact AllReady.nil
      go_simp
      go_wp2_with fail
      refine Calls.mono (htc _) ?_
      rintro e WB ⟨rfl, hB⟩
      go_wp2_with fail
      exact hk _ _ _ ⟨(eD.trans hA).trans hB, hleA, (hOA.lower eD.size).ext hB⟩
  intro A3 cap3 W3 ⟨hT3, hle3, hO3⟩
  clear fD eD
  refine wpAny_ready (rs := [5]) (by kernel_rfl) (by simp) ?_
  refine AllReady.cons rfl (fun K hK => ?_) ?_
  rotate_left
  · exact AllReady.nil
  go_simp
  go_wp2_with fail
  refine Calls.mono (hsp A3 cap3 _ hO3.rdA) ?_
  rintro e w4 ⟨rfl, hb4⟩
  go_wp2_with fail
  refine wpAny_take (i := 6) (v := ?_) rfl (by kernel_rfl) (by kernel_rfl) (by kernel_rfl) (fun _ _ _ h => h) (Or.inl ⟨by rfl, ?_⟩) ?_
  rotate_left
  · (intro W9; go_simp; try with_reducible rfl)
  refine wpAny_take (i := 7) (v := ?_) rfl (by kernel_rfl) (by kernel_rfl) (by kernel_rfl) (fun _ _ _ h => h) (Or.inl ⟨by rfl, ?_⟩) ?_
  rotate_left
  · (intro W9; go_simp; try with_reducible rfl)
  refine wpAny_take (i := 8) (v := ?_) rfl (by kernel_rfl) (by kernel_rfl) (by kernel_rfl) (fun _ _ _ h => h) (Or.inl ⟨by rfl, ?_⟩) ?_
  rotate_left
  · (intro W9; go_simp; try with_reducible rfl)
  refine wpAny_ready (rs := [9]) (by kernel_rfl) (by simp) ?_
  refine AllReady.cons rfl (fun K hK => ?_) ?_
  rotate_left
  · exact AllReady.nil
  go_simp
  refine hK _ _ ?_
  clear hK K
  refine wpAny_ready (rs := [10]) (by kernel_rfl) (by simp) ?_
  refine AllReady.cons rfl (fun K hK => ?_) ?_
  rotate_left
  · exact AllReady.nil
  go_simp
  refine hK _ _ ?_
  clear hK K
  refine wpAny_done (by kernel_rfl) ?_ _
  have h4 : Ext w2 w4 := hT3.trans hb4
  clear hO3 hb4 hT3
  go_wp2_with fail
  refine Calls.mono (laws_toCardS ds A cap _ (hR.ext (hw2.trans h4)) hn1) ?_
  rintro e w5 ⟨v5, rfl, hO5, hb5⟩
  obtain ⟨A5, cap5, rfl, hle5, hR5⟩ := hO5.slice
  have h5 := h4.trans hb5
  have y0 := h5.cell c0
  have y1 := h5.cell c1
  have y2 := h5.cell c2
  have y3 := h5.cell c3
  have ly := World.block_lt_of_cell? _ _ y0
  dsimp only at ly
  go_wp2_with fail
  refine Calls.mono (htc _) ?_
  rintro e w6 ⟨rfl, hb6⟩
  have h6 := h5.trans hb6
  clear y0 y1 y2 y3 ly hR5
  go_wp2_with fail
  refine Calls.mono (him A5 cap5 _ (hO5.ext hb6).rdA hle5) ?_
  rintro e w7 ⟨rfl, hb7⟩
  have h7 := h6.trans hb7
  have hO5 := hO5.ext (hb6.trans hb7)
  clear hb5 hb6 hb7
  go_wp2_with fail
  refine Calls.mono (laws_toCardS ds A cap _ (hR.ext (hw2.trans h7)) hn1) ?_
  rintro e w9 ⟨v9, rfl, hO9, hb9⟩
  obtain ⟨A9, cap9, rfl, hle9, hR9⟩ := hO9.slice
  have h9 := h7.trans hb9
  have hO5 := hO5.ext hb9
  clear hO9 hb9
  go_wp2_with fail
  refine Calls.mono (laws_eqCardS ds ds _ _ _ _ _ hO5.rdA hR9 hn1 hn1) ?_
  rintro e w10 ⟨rfl, hb10⟩
  rw [rr]
  go_wp2
  go_ret
  exact ⟨rfl, hw2.trans (h9.trans hb10)⟩
end Go.Proofs.YtdlpifgkponnmaaDoor
