/-
  The walk of the law FnExactSortDeck.
-/
import Derived.Test.YtdlpifgkponnmaaDoorDA
import Derived.Test.YtdlpifgkponnmaaDoorL6
set_option linter.unusedVariables false
set_option linter.unusedSimpArgs false
set_option maxRecDepth 100000
namespace Go.Proofs.YtdlpifgkponnmaaDoor
open Go.RowKit
set_option maxHeartbeats 2000000 in
theorem laws_FnExactSortDeck (ds : List Crd) (A : Option Addr) (cap : Nat) (f : Fld) (w : World) (hn : ds.length ≤ 9223372036854775807) (hR : Rd encCrd w A ds) (hok : ∀ c ∈ ds, CrdIn c) (hf : FldIn f) :
    Calls Tryd.prog 3 #[.slice A ds.length cap, .agg #[.string f.nm, .int .i8 f.kd, .int .i16 f.st, .int .i16 f.sz]] w fun e w' => e = .returned (.bool true) ∧ Ext w w' := by
  have rr := eqL_refl crdB crdB_refl ds
  have htc := fun W => laws_toField f W
  go_enter Tryd.func3, Tryd.ntmps3
  go_wp2_with fail
  refine Calls.mono (laws_szCardS ds A cap 1048576 (by omega) (by omega) hn _ (hR.ext (by ((repeat (first | with_reducible exact Ext.refl _ | with_reducible exact hw | with_reducible exact hb9 | with_reducible exact hb8 | with_reducible exact hb7 | with_reducible exact hb6 | with_reducible exact hb5 | with_reducible exact hb4 | with_reducible exact hb3 | with_reducible exact hb2 | with_reducible exact hb1 | with_reducible refine Ext.alloc ?_ _ | with_reducible refine Ext.drew ?_ | ((with_reducible refine Ext.set ?_ ?_ _); focus (dsimp only; omega)) | with_reducible refine Ext.trans ?_ hb9 | with_reducible refine Ext.trans ?_ hb8 | with_reducible refine Ext.trans ?_ hb7 | with_reducible refine Ext.trans ?_ hb6 | with_reducible refine Ext.trans ?_ hb5 | with_reducible refine Ext.trans ?_ hb4 | with_reducible refine Ext.trans ?_ hb3 | with_reducible refine Ext.trans ?_ hb2 | with_reducible refine Ext.trans ?_ hb1 | with_reducible refine Ext.trans ?_ hw))))) hok) ?_
  rintro e w1 ⟨r, rfl, hr, hb1⟩
  have c0 : w1.cell? ⟨w.heap.size, 0, none⟩ = some (.string f.nm) := hb1.cell (by go_simp)
  have c1 : w1.cell? ⟨w.heap.size, 1, none⟩ = some (.int .i8 f.kd) := hb1.cell (by go_simp)
  have c2 : w1.cell? ⟨w.heap.size, 2, none⟩ = some (.int .i16 f.st) := hb1.cell (by go_simp)
  have c3 : w1.cell? ⟨w.heap.size, 3, none⟩ = some (.int .i16 f.sz) := hb1.cell (by go_simp)
  have hw1 : Ext w w1 := by ((repeat (first | with_reducible exact Ext.refl _ | with_reducible exact hw | with_reducible exact hb9 | with_reducible exact hb8 | with_reducible exact hb7 | with_reducible exact hb6 | with_reducible exact hb5 | with_reducible exact hb4 | with_reducible exact hb3 | with_reducible exact hb2 | with_reducible exact hb1 | with_reducible refine Ext.alloc ?_ _ | with_reducible refine Ext.drew ?_ | ((with_reducible refine Ext.set ?_ ?_ _); focus (dsimp only; omega)) | with_reducible refine Ext.trans ?_ hb9 | with_reducible refine Ext.trans ?_ hb8 | with_reducible refine Ext.trans ?_ hb7 | with_reducible refine Ext.trans ?_ hb6 | with_reducible refine Ext.trans ?_ hb5 | with_reducible refine Ext.trans ?_ hb4 | with_reducible refine Ext.trans ?_ hb3 | with_reducible refine Ext.trans ?_ hb2 | with_reducible refine Ext.trans ?_ hb1 | with_reducible refine Ext.trans ?_ hw)))
  clear hb1
  by_cases hr0 : r < 0
  · go_wp2
    go_ret
    exact ⟨rfl, hw1⟩
  obtain ⟨g0, g1, g2⟩ := hr.resolve_left hr0
  have hn1 : ds.length ≤ 1048576 := by omega
  clear hr
  have hlen := sd_len ds f hn1
  have hsp := fun (a : Option Addr) (n : Nat) (W : World) (h : Rd encCrd W a ds) => spec_SortDeck ds a n f W h hn1 hok hf
  have him := fun (a : Option Addr) (n : Nat) (W : World) (h : Rd encCrd W a ds) (hc : ds.length ≤ n) => impl_SortDeck ds a n f W h hc hn1 hok hf
  generalize sdF ds f = q at hlen hsp him
  obtain ⟨ns, cd⟩ := q
  dsimp only at hlen hsp him
  have rres := eqL_refl crdB crdB_refl ns
  have lc := World.block_lt_of_cell? _ _ c0
  dsimp only at lc
  go_wp2_with fail
  refine Calls.mono (laws_szField f r (by omega) (by omega) hf.2 _) ?_
  rintro e w2 ⟨rfl, hb2⟩
  have hw2 := hw1.trans hb2
  have c0 := hb2.cell c0
  have c1 := hb2.cell c1
  have c2 := hb2.cell c2
  have c3 := hb2.cell c3
  clear hb2 hw1 lc
  by_cases hr1 : szF f.nm.size r < 0
  · generalize szF f.nm.size r = q1 at hr1
    go_wp2
    go_ret
    exact ⟨rfl, hw2⟩
  generalize szF f.nm.size r = q1 at hr1
  go_wp2
  refine wp_region_any (by kernel_rfl) ?_
  change wpAny _ _ _ _ _ _ _ (World.drew _)
  refine intro_world (fun WD hWD => ?_)
  have eD : Ext w2 WD := by rw [hWD]; exact (Ext.refl _).drew
  have fD := (Ext.refl w2).trans eD
  clear hWD
  refine wpAny_take (i := 0) (v := ?_) rfl (by kernel_rfl) (by kernel_rfl) (by kernel_rfl) (fun _ _ _ h => h) (Or.inl ⟨by rfl, ?_⟩) ?_
  rotate_left
  · (intro W9; go_simp; try with_reducible rfl)
  apply Conv.conv3 (C := fun A cap W => Ext w2 W ∧ ds.length ≤ cap ∧ Ow encCrd 60 W w2.heap.size (.slice A ds.length cap) ds)
  case h =>
    intro hk
    have y0 := fD.cell c0
    have y1 := fD.cell c1
    have y2 := fD.cell c2
    have y3 := fD.cell c3
    refine wpAny_ready (rs := [1, 2]) (by kernel_rfl) (by simp) ?_
    refine AllReady.cons rfl (fun K hK => ?_) (AllReady.cons rfl (fun K hK => ?_) AllReady.nil)
    · go_simp
      go_wp2_with fail
      refine Calls.mono (laws_toCardS ds A cap _ (hR.ext (hw2.trans eD)) hn1) ?_
      rintro e WA ⟨vA, rfl, hOA, hA⟩
      obtain ⟨AA, cA, rfl, hleA, _⟩ := hOA.slice
      go_wp2_with fail
      have fA := fD.trans hA
      have y0 := fA.cell c0
      have y1 := fA.cell c1
      have y2 := fA.cell c2
      have y3 := fA.cell c3
      refine wpAny_ready (rs := [2]) (by kernel_rfl) (by simp) ?_
      refine AllReady.cons rfl (fun K hK => ?_) ?_
      rotate_left
      · exact AllReady.nil
      go_simp
      refine hK _ _ ?_
      clear hK K
      refine wpAny_ready (rs := [3]) (by kernel_rfl) (by simp) ?_
      refine AllReady.cons rfl (fun K hK => ?_) ?_
      rotate_left
      · exact AllReady.nil
      go_simp
      go_wp2_with fail
      refine Calls.mono (htc _) ?_
      rintro e WB ⟨rfl, hB⟩
      go_wp2_with fail
      exact hk _ _ _ ⟨(eD.trans hA).trans hB, hleA, (hOA.lower eD.size).ext hB⟩
    · go_simp
      refine hK _ _ ?_
      clear hK K
      refine wpAny_ready (rs := [1]) (by kernel_rfl) (by simp) ?_
      refine AllReady.cons rfl (fun K hK => ?_) ?_
      rotate_left
      · exact AllReady.nil
      go_simp
      go_wp2_with fail
      refine Calls.mono (laws_toCardS ds A cap _ (hR.ext (hw2.trans eD)) hn1) ?_
      rintro e WA ⟨vA, rfl, hOA, hA⟩
      obtain ⟨AA, cA, rfl, hleA, _⟩ := hOA.slice
      go_wp2_with fail
      have fA := fD.trans hA
      have y0 := fA.cell c0
      have y1 := fA.cell c1
      have y2 := fA.cell c2
      have y3 := fA.cell c3
      refine wpAny_ready (rs := [3]) (by kernel_rfl) (by simp) ?_
      refine AllReady.cons rfl (fun K hK => ?_) ?_
      rotate_left
      · exact AllReady.nil
      go_simp
      go_wp2_with fail
      refine Calls.mono (htc _) ?_
      rintro e WB ⟨rfl, hB⟩
      go_wp2_with fail
      exact hk _ _ _ ⟨(eD.trans hA).trans hB, hleA, (hOA.lower eD.size).ext hB⟩
  intro A3 cap3 W3 ⟨hT3, hle3, hO3⟩
  clear fD eD
  refine wpAny_ready (rs := [4]) (by kernel_rfl) (by simp) ?_
  refine AllReady.cons rfl (fun K hK => ?_) ?_
  rotate_left
  · exact AllReady.nil
  go_simp
  go_wp2_with fail
  refine Calls.mono (hsp A3 cap3 _ hO3.rdA) ?_
  rintro e w4 ⟨v4, rfl, hO4, hb4⟩
  obtain ⟨A4, cap4, rfl, hle4, hR4⟩ := hO4.slice
  go_wp2_with fail
  refine wpAny_take (i := 5) (v := ?_) rfl (by kernel_rfl) (by kernel_rfl) (by kernel_rfl) (fun _ _ _ h => h) (Or.inl ⟨by rfl, ?_⟩) ?_
  rotate_left
  · (intro W9; go_simp; try with_reducible rfl)
  refine wpAny_take (i := 6) (v := ?_) rfl (by kernel_rfl) (by kernel_rfl) (by kernel_rfl) (fun _ _ _ h => h) (Or.inl ⟨by rfl, ?_⟩) ?_
  rotate_left
  · (intro W9; go_simp; try with_reducible rfl)
  refine wpAny_take (i := 7) (v := ?_) rfl (by kernel_rfl) (by kernel_rfl) (by kernel_rfl) (fun _ _ _ h => h) (Or.inl ⟨by rfl, ?_⟩) ?_
  rotate_left
  · (intro W9; go_simp; try with_reducible rfl)
  refine wpAny_ready (rs := [8]) (by kernel_rfl) (by simp) ?_
  refine AllReady.cons rfl (fun K hK => ?_) ?_
  rotate_left
  · exact AllReady.nil
  go_simp
  refine hK _ _ ?_
  clear hK K
  refine wpAny_ready (rs := [9]) (by kernel_rfl) (by simp) ?_
  refine AllReady.cons rfl (fun K hK => ?_) ?_
  rotate_left
  · exact AllReady.nil
  go_simp
  refine hK _ _ ?_
  clear hK K
  refine wpAny_done (by kernel_rfl) ?_ _
  have h4 : Ext w2 w4 := hT3.trans hb4
  clear hR4 hO3 hb4 hT3
  go_wp2_with fail
  refine Calls.mono (laws_toCardS ds A cap _ (hR.ext (hw2.trans h4)) hn1) ?_
  rintro e w5 ⟨v5, rfl, hO5, hb5⟩
  obtain ⟨A5, cap5, rfl, hle5, hR5⟩ := hO5.slice
  have h5 := h4.trans hb5
  have y0 := h5.cell c0
  have y1 := h5.cell c1
  have y2 := h5.cell c2
  have y3 := h5.cell c3
  have ly := World.block_lt_of_cell? _ _ y0
  dsimp only at ly
  go_wp2_with fail
  refine Calls.mono (htc _) ?_
  rintro e w6 ⟨rfl, hb6⟩
  have h6 := h5.trans hb6
  clear y0 y1 y2 y3 ly hR5
  go_wp2_with fail
  refine Calls.mono (him A5 cap5 _ (hO5.ext hb6).rdA hle5) ?_
  rintro e w7 ⟨v7, rfl, hO7, hb7⟩
  obtain ⟨A7, cap7, rfl, hle7, hR7⟩ := hO7.slice
  have h7 := h6.trans hb7
  have hO4at7 := hO4.ext ((hb5.trans hb6).trans hb7)
  have hO5at7 := hO5.ext (hb6.trans hb7)
  have ap45 := Apart.of hO4 hO5 (Nat.le_refl _)
  have ap47 := Apart.of hO4 hO7 (hb5.trans hb6).size
  have ap75 := Apart.of' hO5 hO7 hb6.size
  have base5 : w2.heap.size ≤ w4.heap.size := h4.size
  have base7 : w2.heap.size ≤ w6.heap.size := h6.size
  clear hO4 hO5 hR7 hb5 hb6 hb7
  go_wp2_with fail
  refine Calls.mono (laws_eqCardS ns ns _ _ _ _ _ hO7.rdA hO4at7.rdA hlen hlen) ?_
  rintro e w8 ⟨rfl, hb8⟩
  rw [rres]
  have h8 := h7.trans hb8
  have hO4 := hO4at7.ext hb8
  have hO5 := hO5at7.ext hb8
  have hO7 := hO7.ext hb8
  clear hO4at7 hO5at7 hb8
  go_wp2_with fail
  refine Calls.mono (laws_toCardS ds A cap _ (hR.ext (hw2.trans h8)) hn1) ?_
  rintro e w9 ⟨v9, rfl, hO9, hb9⟩
  obtain ⟨A9, cap9, rfl, hle9, hR9⟩ := hO9.slice
  have h9 := h8.trans hb9
  have hO4 := hO4.ext hb9
  have hO5 := hO5.ext hb9
  have hO7 := hO7.ext hb9
  clear hO9 hb9
  go_wp2_with fail
  refine Calls.mono (laws_eqCardS ds ds _ _ _ _ _ hO5.rdA hR9 hn1 hn1) ?_
  rintro e w10 ⟨rfl, hb10⟩
  rw [rr]
  have h10 := h9.trans hb10
  have hO4 := hO4.ext hb10
  have hO5 := hO5.ext hb10
  have hO7 := hO7.ext hb10
  clear hb10 hR9
  go_wp2_with fail
  refine Calls.mono (laws_markCardS ds _ 1 _ _ hO5 hn1 (by omega)) ?_
  rintro e w11 ⟨rfl, gr11⟩
  have h11 := h10.mark hO5 base5 gr11
  have hO4 := hO4.apart gr11 ap45
  have hO7 := hO7.apart gr11 ap75
  clear hO5 gr11 ap45 ap75
  have hk3 : ¬ ((1 : Int) + 3 * ns.length < 0) := by omega
  have hkk : ¬ ((1 : Int) + 3 * ds.length < 0) := by omega
  go_wp2_with fail
  refine Calls.mono (laws_eqCardS ns ns _ _ _ _ _ hO7.rdA hO4.rdA hlen hlen) ?_
  rintro e w12 ⟨rfl, hb12⟩
  rw [rres]
  have h12 := h11.trans hb12
  have hO4 := hO4.ext hb12
  have hO7 := hO7.ext hb12
  clear hb12
  go_wp2_with fail
  refine Calls.mono (laws_markCardM ns _ 1 _ _ hO7 hlen (by omega)) ?_
  rintro e w13 ⟨rfl, hM7, gr13⟩
  have h13 := h12.mark hO7 base7 gr13
  have hO4 := hO4.apart gr13 ap47
  clear hO7 gr13 ap47
  go_wp2_with fail
  refine Calls.mono (laws_heldCardS ns.length _ _ 1 _ hM7.rdA hlen (by omega)) ?_
  rintro e w14 ⟨rfl, hb14⟩
  have h14 := h13.trans hb14
  have hM7 := hM7.ext hb14
  have hO4 := hO4.ext hb14
  clear hb14
  go_wp2
  refine wp_region_any (by kernel_rfl) ?_
  change wpAny _ _ _ _ _ _ _ (World.drew _)
  refine intro_world (fun WD hWD => ?_)
  have eD : Ext w14 WD := by rw [hWD]; exact (Ext.refl _).drew
  have fD := h14.trans eD
  clear hWD
  refine wpAny_take (i := 0) (v := ?_) rfl (by kernel_rfl) (by kernel_rfl) (by kernel_rfl) (fun _ _ _ h => h) (Or.inl ⟨by rfl, ?_⟩) ?_
  rotate_left
  · (intro W9; go_simp; try with_reducible rfl)
  apply Conv.conv3 (C := fun A cap W => Ext w14 W ∧ ds.length ≤ cap ∧ Ow encCrd 60 W w14.heap.size (.slice A ds.length cap) ds)
  case h =>
    intro hk
    have y0 := fD.cell c0
    have y1 := fD.cell c1
    have y2 := fD.cell c2
    have y3 := fD.cell c3
    refine wpAny_ready (rs := [1, 2]) (by kernel_rfl) (by simp) ?_
    refine AllReady.cons rfl (fun K hK => ?_) (AllReady.cons rfl (fun K hK => ?_) AllReady.nil)
    · go_simp
      go_wp2_with fail
      refine Calls.mono (laws_toCardS ds A cap _ (hR.ext (hw2.trans (h14.trans eD))) hn1) ?_
      rintro e WA ⟨vA, rfl, hOA, hA⟩
      obtain ⟨AA, cA, rfl, hleA, _⟩ := hOA.slice
      go_wp2_with fail
      have fA := fD.trans hA
      have y0 := fA.cell c0
      have y1 := fA.cell c1
      have y2 := fA.cell c2
      have y3 := fA.cell c3
      refine wpAny_ready (rs := [2]) (by kernel_rfl) (by simp) ?_
      refine AllReady.cons rfl (fun K hK => ?_) ?_
      rotate_left
      · exact AllReady.nil
      go_simp
      refine hK _ _ ?_
      clear hK K
      refine wpAny_ready (rs := [3]) (by kernel_rfl) (by simp) ?_
      refine AllReady.cons rfl (fun K hK => ?_) ?_
      rotate_left
      · exact AllReady.nil
      go_simp
      go_wp2_with fail
      refine Calls.mono (htc _) ?_
      rintro e WB ⟨rfl, hB⟩
      go_wp2_with fail
      exact hk _ _ _ ⟨(eD.trans hA).trans hB, hleA, (hOA.lower eD.size).ext hB⟩
    · go_simp
      refine hK _ _ ?_
      clear hK K
      refine wpAny_ready (rs := [1]) (by kernel_rfl) (by simp) ?_
      refine AllReady.cons rfl (fun K hK => ?_) ?_
      rotate_left
      · exact AllReady.nil
      go_simp
      go_wp2_with fail
      refine Calls.mono (laws_toCardS ds A cap _ (hR.ext (hw2.trans (h14.trans eD))) hn1) ?_
      rintro e WA ⟨vA, rfl, hOA, hA⟩
      obtain ⟨AA, cA, rfl, hleA, _⟩ := hOA.slice
      go_wp2_with fail
      have fA := fD.trans hA
      have y0 := fA.cell c0
      have y1 := fA.cell c1
      have y2 := fA.cell c2
      have y3 := fA.cell c3
      refine wpAny_ready (rs := [3]) (by kernel_rfl) (by simp) ?_
      refine AllReady.cons rfl (fun K hK => ?_) ?_
      rotate_left
      · exact AllReady.nil
      go_simp
      go_wp2_with fail
      refine Calls.mono (htc _) ?_
      rintro e WB ⟨rfl, hB⟩
      go_wp2_with fail
      exact hk _ _ _ ⟨(eD.trans hA).trans hB, hleA, (hOA.lower eD.size).ext hB⟩
  intro A15 cap15 W15 ⟨hT15, hle15, hO15⟩
  clear fD eD
  refine wpAny_ready (rs := [4]) (by kernel_rfl) (by simp) ?_
  refine AllReady.cons rfl (fun K hK => ?_) ?_
  rotate_left
  · exact AllReady.nil
  go_simp
  go_wp2_with fail
  refine Calls.mono (him A15 cap15 _ hO15.rdA hle15) ?_
  rintro e w16 ⟨v16, rfl, hO16, hb16⟩
  obtain ⟨A16, cap16, rfl, hle16, hR16⟩ := hO16.slice
  go_wp2_with fail
  refine wpAny_take (i := 5) (v := ?_) rfl (by kernel_rfl) (by kernel_rfl) (by kernel_rfl) (fun _ _ _ h => h) (Or.inl ⟨by rfl, ?_⟩) ?_
  rotate_left
  · (intro W9; go_simp; try with_reducible rfl)
  refine wpAny_take (i := 6) (v := ?_) rfl (by kernel_rfl) (by kernel_rfl) (by kernel_rfl) (fun _ _ _ h => h) (Or.inl ⟨by rfl, ?_⟩) ?_
  rotate_left
  · (intro W9; go_simp; try with_reducible rfl)
  refine wpAny_take (i := 7) (v := ?_) rfl (by kernel_rfl) (by kernel_rfl) (by kernel_rfl) (fun _ _ _ h => h) (Or.inl ⟨by rfl, ?_⟩) ?_
  rotate_left
  · (intro W9; go_simp; try with_reducible rfl)
  refine wpAny_ready (rs := [8]) (by kernel_rfl) (by simp) ?_
  refine AllReady.cons rfl (fun K hK => ?_) ?_
  rotate_left
  · exact AllReady.nil
  go_simp
  refine hK _ _ ?_
  clear hK K
  refine wpAny_ready (rs := [9]) (by kernel_rfl) (by simp) ?_
  refine AllReady.cons rfl (fun K hK => ?_) ?_
  rotate_left
  · exact AllReady.nil
  go_simp
  refine hK _ _ ?_
  clear hK K
  refine wpAny_done (by kernel_rfl) ?_ _
  have h16 := (h14.trans hT15).trans hb16
  have hM7 := hM7.ext (hT15.trans hb16)
  have hO4 := hO4.ext (hT15.trans hb16)
  clear hT15 hb16 hO15 hR16
  go_wp2_with fail
  refine Calls.mono (laws_eqCardS ns ns _ _ _ _ _ hO16.rdA hO4.rdA hlen hlen) ?_
  rintro e w17 ⟨rfl, hb17⟩
  rw [rres]
  have hM7 := hM7.ext hb17
  go_wp2_with fail
  refine Calls.mono (laws_heldCardS ns.length _ _ 1 _ hM7.rdA hlen (by omega)) ?_
  rintro e w18 ⟨rfl, hb18⟩
  go_wp2
  go_ret
  exact ⟨rfl, hw2.trans ((h16.trans hb17).trans hb18)⟩
end Go.Proofs.YtdlpifgkponnmaaDoor
