/-
  The walk of the law FnExactValuesNear.
-/
import Derived.Test.YtknbebglabpegaaDoorF15
import Derived.Test.YtknbebglabpegaaDoorMA
import Derived.Test.YtknbebglabpegaaDoorL6
set_option linter.unusedVariables false
set_option linter.unusedSimpArgs false
set_option maxRecDepth 100000
namespace Go.Proofs.YtknbebglabpegaaDoor
open Go.RowKit
theorem nearF_len {f : Fld} {m : Mask} {far : Int} : (nearF f m far).1.length ≤ 10000 := by
  unfold nearF
  split
  · rename_i h
    rw [Bool.and_eq_true] at h
    split
    · show (nearL f m far).length ≤ 10000
      unfold nearL
      have := nearTo_len f (mmeet m (partF f)) far (mostF f + 1).toNat
      have := (mostF_le f h.1).2
      omega
    · simp
  · simp
set_option maxHeartbeats 2000000 in
theorem laws_FnExactValuesNear (nm : ByteArray) (kd st sz : Int) (hok : Fld.ok ⟨nm, kd, st, sz⟩) (hnmx : nm.size ≤ 9223372036854775807) (m : Mask) (far : Int) (w : World) :
    Calls Tryd.prog 5 #[.agg #[.string nm, .int .i8 kd, .int .i16 st, .int .i16 sz], .agg #[.int .u64 (lo m), .int .u64 (hi m)], .int .i64 far] w fun e w' => e = .returned (.bool true) ∧ Ext w w' := by
  have hlen := nearF_len (f := ⟨nm, kd, st, sz⟩) (m := m) (far := far)
  have hsp := fun W => spec_ValuesNear nm kd st sz hok hnmx m far W
  have him := fun W => impl_ValuesNear nm kd st sz hok hnmx m far W
  generalize nearF ⟨nm, kd, st, sz⟩ m far = q at hlen hsp him
  obtain ⟨ns, cd⟩ := q
  dsimp only at hlen hsp him
  have htf := fun W => laws_toField ⟨nm, kd, st, sz⟩ W
  have htm := fun W => laws_toMask m W
  dsimp only at htf
  go_enter Tryd.func5, Tryd.ntmps5
  go_wp2_with fail
  refine Calls.mono (laws_szField ⟨nm, kd, st, sz⟩ 1048576 (by omega) (by omega) hnmx _) ?_
  rintro e w1 ⟨rfl, hb1⟩
  dsimp only
  have c0 : w1.cell? ⟨w.heap.size, 0, none⟩ = some (.string nm) := hb1.cell (by go_simp)
  have c1 : w1.cell? ⟨w.heap.size, 1, none⟩ = some (.int .i8 kd) := hb1.cell (by go_simp)
  have c2 : w1.cell? ⟨w.heap.size, 2, none⟩ = some (.int .i16 st) := hb1.cell (by go_simp)
  have c3 : w1.cell? ⟨w.heap.size, 3, none⟩ = some (.int .i16 sz) := hb1.cell (by go_simp)
  have c4 : w1.cell? ⟨w.heap.size + 1, 0, none⟩ = some (.int .u64 (lo m)) := hb1.cell (by go_simp)
  have c5 : w1.cell? ⟨w.heap.size + 1, 1, none⟩ = some (.int .u64 (hi m)) := hb1.cell (by go_simp)
  have hw1 : Ext w w1 := by ((repeat (first | with_reducible exact Ext.refl _ | with_reducible exact hw | with_reducible exact hb9 | with_reducible exact hb8 | with_reducible exact hb7 | with_reducible exact hb6 | with_reducible exact hb5 | with_reducible exact hb4 | with_reducible exact hb3 | with_reducible exact hb2 | with_reducible exact hb1 | with_reducible refine Ext.alloc ?_ _ | with_reducible refine Ext.drew ?_ | ((with_reducible refine Ext.set ?_ ?_ _); focus (dsimp only; omega)) | with_reducible refine Ext.trans ?_ hb9 | with_reducible refine Ext.trans ?_ hb8 | with_reducible refine Ext.trans ?_ hb7 | with_reducible refine Ext.trans ?_ hb6 | with_reducible refine Ext.trans ?_ hb5 | with_reducible refine Ext.trans ?_ hb4 | with_reducible refine Ext.trans ?_ hb3 | with_reducible refine Ext.trans ?_ hb2 | with_reducible refine Ext.trans ?_ hb1 | with_reducible refine Ext.trans ?_ hw)))
  clear hb1
  by_cases hr : szF nm.size 1048576 < 0
  · generalize szF nm.size 1048576 = r at hr
    go_wp2
    go_ret
    exact ⟨rfl, hw1⟩
  · generalize szF nm.size 1048576 = r at hr
    go_wp2
    refine wp_region_any (by kernel_rfl) ?_
    change wpAny _ _ _ _ _ _ _ (World.drew _)
    refine intro_world (fun WD hWD => ?_)
    have eD : Ext w1 WD := by rw [hWD]; exact (Ext.refl _).drew
    have fD := (Ext.refl w1).trans eD
    clear hWD
    refine wpAny_take (i := 4) (v := ?_) rfl (by kernel_rfl) (by kernel_rfl) (by kernel_rfl) (fun _ _ _ h => h) (Or.inl ⟨by rfl, ?_⟩) ?_
    rotate_left
    · (intro W9; go_simp; try with_reducible rfl)
    apply Conv.conv (C := fun W => Ext w1 W)
    case h =>
      intro hk
      have y0 := fD.cell c0
      have y1 := fD.cell c1
      have y2 := fD.cell c2
      have y3 := fD.cell c3
      have y4 := fD.cell c4
      have y5 := fD.cell c5
      refine wpAny_ready (rs := [0, 2]) (by kernel_rfl) (by simp) ?_
      refine AllReady.cons rfl (fun K hK => ?_) (AllReady.cons rfl (fun K hK => ?_) AllReady.nil)
      · go_simp
        refine hK _ _ ?_
        clear hK K
        refine wpAny_ready (rs := [1, 2]) (by kernel_rfl) (by simp) ?_
        refine AllReady.cons rfl (fun K hK => ?_) (AllReady.cons rfl (fun K hK => ?_) AllReady.nil)
        · go_simp
          go_wp2_with fail
          refine Calls.mono (htf _) ?_
          rintro e WA ⟨rfl, hA⟩
          go_wp2_with fail
          have fA := fD.trans hA
          have y0 := fA.cell c0
          have y1 := fA.cell c1
          have y2 := fA.cell c2
          have y3 := fA.cell c3
          have y4 := fA.cell c4
          have y5 := fA.cell c5
          refine wpAny_ready (rs := [2]) (by kernel_rfl) (by simp) ?_
          refine AllReady.cons rfl (fun K hK => ?_) ?_
          rotate_left
          · exact AllReady.nil
          go_simp
          refine hK _ _ ?_
          clear hK K
          refine wpAny_ready (rs := [3]) (by kernel_rfl) (by simp) ?_
          refine AllReady.cons rfl (fun K hK => ?_) ?_
          rotate_left
          · exact AllReady.nil
          go_simp
          go_wp2_with fail
          refine Calls.mono (htm _) ?_
          rintro e WB ⟨rfl, hB⟩
          go_wp2_with fail
          exact hk _ ((eD.trans hA).trans hB)
        · go_simp
          refine hK _ _ ?_
          clear hK K
          refine wpAny_ready (rs := [1]) (by kernel_rfl) (by simp) ?_
          refine AllReady.cons rfl (fun K hK => ?_) ?_
          rotate_left
          · exact AllReady.nil
          go_simp
          go_wp2_with fail
          refine Calls.mono (htf _) ?_
          rintro e WA ⟨rfl, hA⟩
          go_wp2_with fail
          have fA := fD.trans hA
          have y0 := fA.cell c0
          have y1 := fA.cell c1
          have y2 := fA.cell c2
          have y3 := fA.cell c3
          have y4 := fA.cell c4
          have y5 := fA.cell c5
          refine wpAny_ready (rs := [3]) (by kernel_rfl) (by simp) ?_
          refine AllReady.cons rfl (fun K hK => ?_) ?_
          rotate_left
          · exact AllReady.nil
          go_simp
          go_wp2_with fail
          refine Calls.mono (htm _) ?_
          rintro e WB ⟨rfl, hB⟩
          go_wp2_with fail
          exact hk _ ((eD.trans hA).trans hB)
      · go_simp
        refine hK _ _ ?_
        clear hK K
        refine wpAny_ready (rs := [0]) (by kernel_rfl) (by simp) ?_
        refine AllReady.cons rfl (fun K hK => ?_) ?_
        rotate_left
        · exact AllReady.nil
        go_simp
        refine hK _ _ ?_
        clear hK K
        refine wpAny_ready (rs := [1]) (by kernel_rfl) (by simp) ?_
        refine AllReady.cons rfl (fun K hK => ?_) ?_
        rotate_left
        · exact AllReady.nil
        go_simp
        go_wp2_with fail
        refine Calls.mono (htf _) ?_
        rintro e WA ⟨rfl, hA⟩
        go_wp2_with fail
        have fA := fD.trans hA
        have y0 := fA.cell c0
        have y1 := fA.cell c1
        have y2 := fA.cell c2
        have y3 := fA.cell c3
        have y4 := fA.cell c4
        have y5 := fA.cell c5
        refine wpAny_ready (rs := [3]) (by kernel_rfl) (by simp) ?_
        refine AllReady.cons rfl (fun K hK => ?_) ?_
        rotate_left
        · exact AllReady.nil
        go_simp
        go_wp2_with fail
        refine Calls.mono (htm _) ?_
        rintro e WB ⟨rfl, hB⟩
        go_wp2_with fail
        exact hk _ ((eD.trans hA).trans hB)
    intro W2 hT
    have fT := (Ext.refl w1).trans hT
    have z0 := fT.cell c0
    have z1 := fT.cell c1
    have z2 := fT.cell c2
    have z3 := fT.cell c3
    have z4 := fT.cell c4
    have z5 := fT.cell c5
    have h2 : Ext w1 W2 := hT
    clear fT hT eD fD
    refine wpAny_ready (rs := [5]) (by kernel_rfl) (by simp) ?_
    refine AllReady.cons rfl (fun K hK => ?_) ?_
    rotate_left
    · exact AllReady.nil
    go_simp
    go_wp2_with fail
    refine Calls.mono (hsp _) ?_
    rintro e w3 ⟨v3, rfl, hO3, hb3⟩
    obtain ⟨A3, cap3, rfl, hle3, hR3⟩ := hO3.slice
    go_wp2_with fail
    refine wpAny_take (i := 6) (v := ?_) rfl (by kernel_rfl) (by kernel_rfl) (by kernel_rfl) (fun _ _ _ h => h) (Or.inl ⟨by rfl, ?_⟩) ?_
    rotate_left
    · (intro W9; go_simp; try with_reducible rfl)
    refine wpAny_take (i := 7) (v := ?_) rfl (by kernel_rfl) (by kernel_rfl) (by kernel_rfl) (fun _ _ _ h => h) (Or.inl ⟨by rfl, ?_⟩) ?_
    rotate_left
    · (intro W9; go_simp; try with_reducible rfl)
    refine wpAny_take (i := 8) (v := ?_) rfl (by kernel_rfl) (by kernel_rfl) (by kernel_rfl) (fun _ _ _ h => h) (Or.inl ⟨by rfl, ?_⟩) ?_
    rotate_left
    · (intro W9; go_simp; try with_reducible rfl)
    refine wpAny_ready (rs := [9]) (by kernel_rfl) (by simp) ?_
    refine AllReady.cons rfl (fun K hK => ?_) ?_
    rotate_left
    · exact AllReady.nil
    go_simp
    refine hK _ _ ?_
    clear hK K
    refine wpAny_ready (rs := [10]) (by kernel_rfl) (by simp) ?_
    refine AllReady.cons rfl (fun K hK => ?_) ?_
    rotate_left
    · exact AllReady.nil
    go_simp
    refine hK _ _ ?_
    clear hK K
    refine wpAny_done (by kernel_rfl) ?_ _
    have h3 : Ext w1 w3 := h2.trans hb3
    clear z0 z1 z2 z3 z4 z5
    go_wp2
    refine wp_region_any (by kernel_rfl) ?_
    change wpAny _ _ _ _ _ _ _ (World.drew _)
    refine intro_world (fun WD hWD => ?_)
    have eD : Ext w3 WD := by rw [hWD]; exact (Ext.refl _).drew
    have fD := h3.trans eD
    clear hWD
    refine wpAny_take (i := 4) (v := ?_) rfl (by kernel_rfl) (by kernel_rfl) (by kernel_rfl) (fun _ _ _ h => h) (Or.inl ⟨by rfl, ?_⟩) ?_
    rotate_left
    · (intro W9; go_simp; try with_reducible rfl)
    apply Conv.conv (C := fun W => Ext w3 W)
    case h =>
      intro hk
      have y0 := fD.cell c0
      have y1 := fD.cell c1
      have y2 := fD.cell c2
      have y3 := fD.cell c3
      have y4 := fD.cell c4
      have y5 := fD.cell c5
      refine wpAny_ready (rs := [0, 2]) (by kernel_rfl) (by simp) ?_
      refine AllReady.cons rfl (fun K hK => ?_) (AllReady.cons rfl (fun K hK => ?_) AllReady.nil)
      · go_simp
        refine hK _ _ ?_
        clear hK K
        refine wpAny_ready (rs := [1, 2]) (by kernel_rfl) (by simp) ?_
        refine AllReady.cons rfl (fun K hK => ?_) (AllReady.cons rfl (fun K hK => ?_) AllReady.nil)
        · go_simp
          go_wp2_with fail
          refine Calls.mono (htf _) ?_
          rintro e WA ⟨rfl, hA⟩
          go_wp2_with fail
          have fA := fD.trans hA
          have y0 := fA.cell c0
          have y1 := fA.cell c1
          have y2 := fA.cell c2
          have y3 := fA.cell c3
          have y4 := fA.cell c4
          have y5 := fA.cell c5
          refine wpAny_ready (rs := [2]) (by kernel_rfl) (by simp) ?_
          refine AllReady.cons rfl (fun K hK => ?_) ?_
          rotate_left
          · exact AllReady.nil
          go_simp
          refine hK _ _ ?_
          clear hK K
          refine wpAny_ready (rs := [3]) (by kernel_rfl) (by simp) ?_
          refine AllReady.cons rfl (fun K hK => ?_) ?_
          rotate_left
          · exact AllReady.nil
          go_simp
          go_wp2_with fail
          refine Calls.mono (htm _) ?_
          rintro e WB ⟨rfl, hB⟩
          go_wp2_with fail
          exact hk _ ((eD.trans hA).trans hB)
        · go_simp
          refine hK _ _ ?_
          clear hK K
          refine wpAny_ready (rs := [1]) (by kernel_rfl) (by simp) ?_
          refine AllReady.cons rfl (fun K hK => ?_) ?_
          rotate_left
          · exact AllReady.nil
          go_simp
          go_wp2_with fail
          refine Calls.mono (htf _) ?_
          rintro e WA ⟨rfl, hA⟩
          go_wp2_with fail
          have fA := fD.trans hA
          have y0 := fA.cell c0
          have y1 := fA.cell c1
          have y2 := fA.cell c2
          have y3 := fA.cell c3
          have y4 := fA.cell c4
          have y5 := fA.cell c5
          refine wpAny_ready (rs := [3]) (by kernel_rfl) (by simp) ?_
          refine AllReady.cons rfl (fun K hK => ?_) ?_
          rotate_left
          · exact AllReady.nil
          go_simp
          go_wp2_with fail
          refine Calls.mono (htm _) ?_
          rintro e WB ⟨rfl, hB⟩
          go_wp2_with fail
          exact hk _ ((eD.trans hA).trans hB)
      · go_simp
        refine hK _ _ ?_
        clear hK K
        refine wpAny_ready (rs := [0]) (by kernel_rfl) (by simp) ?_
        refine AllReady.cons rfl (fun K hK => ?_) ?_
        rotate_left
        · exact AllReady.nil
        go_simp
        refine hK _ _ ?_
        clear hK K
        refine wpAny_ready (rs := [1]) (by kernel_rfl) (by simp) ?_
        refine AllReady.cons rfl (fun K hK => ?_) ?_
        rotate_left
        · exact AllReady.nil
        go_simp
        go_wp2_with fail
        refine Calls.mono (htf _) ?_
        rintro e WA ⟨rfl, hA⟩
        go_wp2_with fail
        have fA := fD.trans hA
        have y0 := fA.cell c0
        have y1 := fA.cell c1
        have y2 := fA.cell c2
        have y3 := fA.cell c3
        have y4 := fA.cell c4
        have y5 := fA.cell c5
        refine wpAny_ready (rs := [3]) (by kernel_rfl) (by simp) ?_
        refine AllReady.cons rfl (fun K hK => ?_) ?_
        rotate_left
        · exact AllReady.nil
        go_simp
        go_wp2_with fail
        refine Calls.mono (htm _) ?_
        rintro e WB ⟨rfl, hB⟩
        go_wp2_with fail
        exact hk _ ((eD.trans hA).trans hB)
    intro W4 hT
    have fT := h3.trans hT
    have z0 := fT.cell c0
    have z1 := fT.cell c1
    have z2 := fT.cell c2
    have z3 := fT.cell c3
    have z4 := fT.cell c4
    have z5 := fT.cell c5
    have h4 : Ext w3 W4 := hT
    have hE4 : Ext w1 W4 := h3.trans h4
    clear fT hT eD fD
    refine wpAny_ready (rs := [5]) (by kernel_rfl) (by simp) ?_
    refine AllReady.cons rfl (fun K hK => ?_) ?_
    rotate_left
    · exact AllReady.nil
    go_simp
    go_wp2_with fail
    refine Calls.mono (him _) ?_
    rintro e w5 ⟨v5, rfl, hO5, hb5⟩
    obtain ⟨A5, cap5, rfl, hle5, hR5⟩ := hO5.slice
    go_wp2_with fail
    refine wpAny_take (i := 6) (v := ?_) rfl (by kernel_rfl) (by kernel_rfl) (by kernel_rfl) (fun _ _ _ h => h) (Or.inl ⟨by rfl, ?_⟩) ?_
    rotate_left
    · (intro W9; go_simp; try with_reducible rfl)
    refine wpAny_take (i := 7) (v := ?_) rfl (by kernel_rfl) (by kernel_rfl) (by kernel_rfl) (fun _ _ _ h => h) (Or.inl ⟨by rfl, ?_⟩) ?_
    rotate_left
    · (intro W9; go_simp; try with_reducible rfl)
    refine wpAny_take (i := 8) (v := ?_) rfl (by kernel_rfl) (by kernel_rfl) (by kernel_rfl) (fun _ _ _ h => h) (Or.inl ⟨by rfl, ?_⟩) ?_
    rotate_left
    · (intro W9; go_simp; try with_reducible rfl)
    refine wpAny_ready (rs := [9]) (by kernel_rfl) (by simp) ?_
    refine AllReady.cons rfl (fun K hK => ?_) ?_
    rotate_left
    · exact AllReady.nil
    go_simp
    refine hK _ _ ?_
    clear hK K
    refine wpAny_ready (rs := [10]) (by kernel_rfl) (by simp) ?_
    refine AllReady.cons rfl (fun K hK => ?_) ?_
    rotate_left
    · exact AllReady.nil
    go_simp
    refine hK _ _ ?_
    clear hK K
    refine wpAny_done (by kernel_rfl) ?_ _
    have h5 : Ext w1 w5 := hE4.trans hb5
    have hO3at5 := hO3.ext (h4.trans hb5)
    have ap35 := Apart.of hO3 hO5 h4.size
    have base5 : w1.heap.size ≤ W4.heap.size := hE4.size
    clear z0 z1 z2 z3 z4 z5 hR3 hR5 hO3
    go_wp2_with fail
    refine Calls.mono (laws_eqInt64S ns _ _ _ _ _ hO5.rdA hO3at5.rdA (by omega)) ?_
    rintro e w6 ⟨rfl, hb6⟩
    have h6 := h5.trans hb6
    have hO3at6 := hO3at5.ext hb6
    have hO5at6 := hO5.ext hb6
    clear hO3at5 hO5
    go_wp2_with fail
    refine Calls.mono (laws_markInt64S ns _ 1 _ _ hO5at6 (by omega) (by omega)) ?_
    rintro e w7 ⟨rfl, hM5, gr7⟩
    have h7 := h6.mark hO5at6 base5 gr7
    have hO3at7 := hO3at6.apart gr7 ap35
    clear hO3at6 hO5at6 gr7 ap35
    go_wp2_with fail
    refine Calls.mono (laws_heldInt64S ns.length _ _ 1 _ hM5.rdA (by omega) (by omega)) ?_
    rintro e w8 ⟨rfl, hb8⟩
    have h8 := h7.trans hb8
    have hM5at8 := hM5.ext hb8
    have hO3at8 := hO3at7.ext hb8
    clear hM5 hO3at7
    go_wp2
    refine wp_region_any (by kernel_rfl) ?_
    change wpAny _ _ _ _ _ _ _ (World.drew _)
    refine intro_world (fun WD hWD => ?_)
    have eD : Ext w8 WD := by rw [hWD]; exact (Ext.refl _).drew
    have fD := h8.trans eD
    clear hWD
    refine wpAny_take (i := 4) (v := ?_) rfl (by kernel_rfl) (by kernel_rfl) (by kernel_rfl) (fun _ _ _ h => h) (Or.inl ⟨by rfl, ?_⟩) ?_
    rotate_left
    · (intro W9; go_simp; try with_reducible rfl)
    apply Conv.conv (C := fun W => Ext w8 W)
    case h =>
      intro hk
      have y0 := fD.cell c0
      have y1 := fD.cell c1
      have y2 := fD.cell c2
      have y3 := fD.cell c3
      have y4 := fD.cell c4
      have y5 := fD.cell c5
      refine wpAny_ready (rs := [0, 2]) (by kernel_rfl) (by simp) ?_
      refine AllReady.cons rfl (fun K hK => ?_) (AllReady.cons rfl (fun K hK => ?_) AllReady.nil)
      · go_simp
        refine hK _ _ ?_
        clear hK K
        refine wpAny_ready (rs := [1, 2]) (by kernel_rfl) (by simp) ?_
        refine AllReady.cons rfl (fun K hK => ?_) (AllReady.cons rfl (fun K hK => ?_) AllReady.nil)
        · go_simp
          go_wp2_with fail
          refine Calls.mono (htf _) ?_
          rintro e WA ⟨rfl, hA⟩
          go_wp2_with fail
          have fA := fD.trans hA
          have y0 := fA.cell c0
          have y1 := fA.cell c1
          have y2 := fA.cell c2
          have y3 := fA.cell c3
          have y4 := fA.cell c4
          have y5 := fA.cell c5
          refine wpAny_ready (rs := [2]) (by kernel_rfl) (by simp) ?_
          refine AllReady.cons rfl (fun K hK => ?_) ?_
          rotate_left
          · exact AllReady.nil
          go_simp
          refine hK _ _ ?_
          clear hK K
          refine wpAny_ready (rs := [3]) (by kernel_rfl) (by simp) ?_
          refine AllReady.cons rfl (fun K hK => ?_) ?_
          rotate_left
          · exact AllReady.nil
          go_simp
          go_wp2_with fail
          refine Calls.mono (htm _) ?_
          rintro e WB ⟨rfl, hB⟩
          go_wp2_with fail
          exact hk _ ((eD.trans hA).trans hB)
        · go_simp
          refine hK _ _ ?_
          clear hK K
          refine wpAny_ready (rs := [1]) (by kernel_rfl) (by simp) ?_
          refine AllReady.cons rfl (fun K hK => ?_) ?_
          rotate_left
          · exact AllReady.nil
          go_simp
          go_wp2_with fail
          refine Calls.mono (htf _) ?_
          rintro e WA ⟨rfl, hA⟩
          go_wp2_with fail
          have fA := fD.trans hA
          have y0 := fA.cell c0
          have y1 := fA.cell c1
          have y2 := fA.cell c2
          have y3 := fA.cell c3
          have y4 := fA.cell c4
          have y5 := fA.cell c5
          refine wpAny_ready (rs := [3]) (by kernel_rfl) (by simp) ?_
          refine AllReady.cons rfl (fun K hK => ?_) ?_
          rotate_left
          · exact AllReady.nil
          go_simp
          go_wp2_with fail
          refine Calls.mono (htm _) ?_
          rintro e WB ⟨rfl, hB⟩
          go_wp2_with fail
          exact hk _ ((eD.trans hA).trans hB)
      · go_simp
        refine hK _ _ ?_
        clear hK K
        refine wpAny_ready (rs := [0]) (by kernel_rfl) (by simp) ?_
        refine AllReady.cons rfl (fun K hK => ?_) ?_
        rotate_left
        · exact AllReady.nil
        go_simp
        refine hK _ _ ?_
        clear hK K
        refine wpAny_ready (rs := [1]) (by kernel_rfl) (by simp) ?_
        refine AllReady.cons rfl (fun K hK => ?_) ?_
        rotate_left
        · exact AllReady.nil
        go_simp
        go_wp2_with fail
        refine Calls.mono (htf _) ?_
        rintro e WA ⟨rfl, hA⟩
        go_wp2_with fail
        have fA := fD.trans hA
        have y0 := fA.cell c0
        have y1 := fA.cell c1
        have y2 := fA.cell c2
        have y3 := fA.cell c3
        have y4 := fA.cell c4
        have y5 := fA.cell c5
        refine wpAny_ready (rs := [3]) (by kernel_rfl) (by simp) ?_
        refine AllReady.cons rfl (fun K hK => ?_) ?_
        rotate_left
        · exact AllReady.nil
        go_simp
        go_wp2_with fail
        refine Calls.mono (htm _) ?_
        rintro e WB ⟨rfl, hB⟩
        go_wp2_with fail
        exact hk _ ((eD.trans hA).trans hB)
    intro W9 hT
    have fT := h8.trans hT
    have z0 := fT.cell c0
    have z1 := fT.cell c1
    have z2 := fT.cell c2
    have z3 := fT.cell c3
    have z4 := fT.cell c4
    have z5 := fT.cell c5
    have h9 : Ext w8 W9 := hT
    have hE9 : Ext w1 W9 := h8.trans h9
    clear fT hT eD fD
    refine wpAny_ready (rs := [5]) (by kernel_rfl) (by simp) ?_
    refine AllReady.cons rfl (fun K hK => ?_) ?_
    rotate_left
    · exact AllReady.nil
    go_simp
    go_wp2_with fail
    refine Calls.mono (him _) ?_
    rintro e w10 ⟨v10, rfl, hO10, hb10⟩
    obtain ⟨A10, cap10, rfl, hle10, hR10⟩ := hO10.slice
    go_wp2_with fail
    refine wpAny_take (i := 6) (v := ?_) rfl (by kernel_rfl) (by kernel_rfl) (by kernel_rfl) (fun _ _ _ h => h) (Or.inl ⟨by rfl, ?_⟩) ?_
    rotate_left
    · (intro W9; go_simp; try with_reducible rfl)
    refine wpAny_take (i := 7) (v := ?_) rfl (by kernel_rfl) (by kernel_rfl) (by kernel_rfl) (fun _ _ _ h => h) (Or.inl ⟨by rfl, ?_⟩) ?_
    rotate_left
    · (intro W9; go_simp; try with_reducible rfl)
    refine wpAny_take (i := 8) (v := ?_) rfl (by kernel_rfl) (by kernel_rfl) (by kernel_rfl) (fun _ _ _ h => h) (Or.inl ⟨by rfl, ?_⟩) ?_
    rotate_left
    · (intro W9; go_simp; try with_reducible rfl)
    refine wpAny_ready (rs := [9]) (by kernel_rfl) (by simp) ?_
    refine AllReady.cons rfl (fun K hK => ?_) ?_
    rotate_left
    · exact AllReady.nil
    go_simp
    refine hK _ _ ?_
    clear hK K
    refine wpAny_ready (rs := [10]) (by kernel_rfl) (by simp) ?_
    refine AllReady.cons rfl (fun K hK => ?_) ?_
    rotate_left
    · exact AllReady.nil
    go_simp
    refine hK _ _ ?_
    clear hK K
    refine wpAny_done (by kernel_rfl) ?_ _
    have h10 := hE9.trans hb10
    have hM5at10 := hM5at8.ext (h9.trans hb10)
    have hO3at10 := hO3at8.ext (h9.trans hb10)
    clear z0 z1 z2 z3 z4 z5 hM5at8 hO3at8 hR10
    go_wp2_with fail
    refine Calls.mono (laws_eqInt64S ns _ _ _ _ _ hO10.rdA hO3at10.rdA (by omega)) ?_
    rintro e w11 ⟨rfl, hb11⟩
    have hM5at11 := hM5at10.ext hb11
    go_wp2_with fail
    refine Calls.mono (laws_heldInt64S ns.length _ _ 1 _ hM5at11.rdA (by omega) (by omega)) ?_
    rintro e w12 ⟨rfl, hb12⟩
    go_wp2
    go_ret
    exact ⟨rfl, hw1.trans ((h10.trans hb11).trans hb12)⟩
end Go.Proofs.YtknbebglabpegaaDoor
