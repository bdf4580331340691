/-
  The walk of the law FnExactRepairField (written by mk32.py).
-/
import Derived.Test.YtknbebglabpegaaDoorF31
import Derived.Test.YtknbebglabpegaaDoorLS
import Derived.Test.YtknbebglabpegaaDoorL6
set_option linter.unusedVariables false
set_option linter.unusedSimpArgs false
set_option maxRecDepth 100000
namespace Go.Proofs.YtknbebglabpegaaDoor
open Go.RowKit
theorem szF_ok {n : Nat} {l : Int} (h : ¬ szF n l < 0) (hl : 0 ≤ l) : (n : Int) ≤ l ∧ 0 ≤ szF n l ∧ szF n l ≤ l := by
  unfold szF at *
  split at h
  · rename_i h1; rw [if_pos h1]; omega
  · omega
set_option maxHeartbeats 4000000 in
theorem laws_FnExactRepairField (nm : ByteArray) (kd st sz : Int) (hok : Fld.ok ⟨nm, kd, st, sz⟩) (hnmx : nm.size ≤ 9223372036854775807) (m : Mask) (xs : List Mask) (A : Option Addr) (cap : Nat) (w : World) (hn : xs.length ≤ 9223372036854775807) (hR : Rd encMask w A xs) :
    Calls Tryd.prog 6 #[.agg #[.string nm, .int .i8 kd, .int .i16 st, .int .i16 sz], .agg #[.int .u64 (lo m), .int .u64 (hi m)], .slice A xs.length cap] w fun e w' => e = .returned (.bool true) ∧ Ext w w' := by
  have hx := @ExtOf.cell
  have rr := eqL_refl meqB meqB_refl xs
  have htf := fun W => laws_toField ⟨nm, kd, st, sz⟩ W
  have htm := fun W => laws_toMask m W
  dsimp only at htf
  go_enter Tryd.func6, Tryd.ntmps6
  go_wp2_with fail
  refine Calls.mono (laws_szField ⟨nm, kd, st, sz⟩ 1048576 (by omega) (by omega) hnmx _) ?_
  rintro e w1 ⟨rfl, hb1⟩
  dsimp only
  have c0 : w1.cell? ⟨w.heap.size, 0, none⟩ = some (.string nm) := hb1.cell (by go_simp)
  have c1 : w1.cell? ⟨w.heap.size, 1, none⟩ = some (.int .i8 kd) := hb1.cell (by go_simp)
  have c2 : w1.cell? ⟨w.heap.size, 2, none⟩ = some (.int .i16 st) := hb1.cell (by go_simp)
  have c3 : w1.cell? ⟨w.heap.size, 3, none⟩ = some (.int .i16 sz) := hb1.cell (by go_simp)
  have c4 : w1.cell? ⟨w.heap.size + 1, 0, none⟩ = some (.int .u64 (lo m)) := hb1.cell (by go_simp)
  have c5 : w1.cell? ⟨w.heap.size + 1, 1, none⟩ = some (.int .u64 (hi m)) := hb1.cell (by go_simp)
  have hw1 : Ext w w1 := by ((repeat (first | with_reducible exact Ext.refl _ | with_reducible exact hw | with_reducible exact hb9 | with_reducible exact hb8 | with_reducible exact hb7 | with_reducible exact hb6 | with_reducible exact hb5 | with_reducible exact hb4 | with_reducible exact hb3 | with_reducible exact hb2 | with_reducible exact hb1 | with_reducible refine Ext.alloc ?_ _ | with_reducible refine Ext.drew ?_ | ((with_reducible refine Ext.set ?_ ?_ _); focus (dsimp only; omega)) | with_reducible refine Ext.trans ?_ hb9 | with_reducible refine Ext.trans ?_ hb8 | with_reducible refine Ext.trans ?_ hb7 | with_reducible refine Ext.trans ?_ hb6 | with_reducible refine Ext.trans ?_ hb5 | with_reducible refine Ext.trans ?_ hb4 | with_reducible refine Ext.trans ?_ hb3 | with_reducible refine Ext.trans ?_ hb2 | with_reducible refine Ext.trans ?_ hb1 | with_reducible refine Ext.trans ?_ hw)))
  clear hb1
  have hs1 := fun h => szF_ok (n := nm.size) (l := 1048576) h (by omega)
  by_cases hr : szF nm.size 1048576 < 0
  · clear hs1
    generalize szF nm.size 1048576 = r at hr
    go_wp2
    go_ret
    exact ⟨rfl, hw1⟩
  obtain ⟨_, g1, g2⟩ := hs1 hr
  clear hs1
  generalize szF nm.size 1048576 = r at hr g1 g2
  go_wp2_with fail
  refine Calls.mono (laws_szMaskS xs.length A cap r g1 g2 hn _) ?_
  rintro e w2 ⟨rfl, hb2⟩
  have c0 := hb2.cell c0
  have c1 := hb2.cell c1
  have c2 := hb2.cell c2
  have c3 := hb2.cell c3
  have c4 := hb2.cell c4
  have c5 := hb2.cell c5
  have hw2 := hw1.trans hb2
  have hs2 := fun h => szF_ok (n := xs.length) (l := r) h g1
  clear hb2 hw1
  by_cases hr2 : szF xs.length r < 0
  · clear hs2
    generalize szF xs.length r = r2 at hr2
    go_wp2
    go_ret
    exact ⟨rfl, hw2⟩
  obtain ⟨g3, _, _⟩ := hs2 hr2
  clear hs2
  generalize szF xs.length r = r2 at hr2
  have hn1 : xs.length ≤ 1048576 := by omega
  have hsp := fun (a : Option Addr) (n : Nat) (W : World) (h : Rd encMask W a xs) => spec_RepairField nm kd st sz hok hnmx m xs a n W h hn1
  have him := fun (a : Option Addr) (n : Nat) (W : World) (h : Rd encMask W a xs) => impl_RepairField nm kd st sz hok hnmx m xs a n W h hn1
  generalize repairF ⟨nm, kd, st, sz⟩ m xs = q at hsp him
  obtain ⟨qm, q1, q2⟩ := q
  dsimp only at hsp him
  have rm := meqB_refl qm
  go_wp2
  refine wp_region_any (by kernel_rfl) ?_
  change wpAny _ _ _ _ _ _ _ (World.drew _)
  refine intro_world (fun WD hWD => ?_)
  have eD : Ext w2 WD := by rw [hWD]; exact (Ext.refl _).drew
  clear hWD
  refine wpAny_take (i := 4) (v := ?_) rfl (by kernel_rfl) (by kernel_rfl) (by kernel_rfl) (fun _ _ _ h => h) (Or.inl ⟨by rfl, ?_⟩) ?_
  rotate_left
  · (intro W9; go_simp; try with_reducible rfl)
  apply Conv.convF (C := fun b _ _ W => Ext w2 W ∧ BoxAt W b #[.int .u64 0, .int .u64 0] 33 ∧ w2.heap.size ≤ b)
  case h =>
    intro hkF
    apply Conv.conv1 (C := fun b W => Ext w2 W ∧ BoxAt W b #[.int .u64 0, .int .u64 0] 33 ∧ w2.heap.size ≤ b)
    case h =>
      intro hk1
      apply Conv.conv (C := fun W => Ext w2 W)
      case h =>
        intro hk0
        have y0 := eD.cell c0
        have y1 := eD.cell c1
        have y2 := eD.cell c2
        have y3 := eD.cell c3
        have y4 := eD.cell c4
        have y5 := eD.cell c5
        refine wpAny_ready (rs := [0, 2, 11]) (by kernel_rfl) (by simp) ?_
        refine AllReady.cons rfl (fun K hK => ?_) (AllReady.cons rfl (fun K hK => ?_) (AllReady.cons rfl (fun K hK => ?_) (AllReady.nil)))
        · go_simp
          refine hK _ _ ?_
          clear hK K
          refine wpAny_ready (rs := [1, 2, 11]) (by kernel_rfl) (by simp) ?_
          refine AllReady.cons rfl (fun K hK => ?_) (AllReady.cons rfl (fun K hK => ?_) (AllReady.cons rfl (fun K hK => ?_) (AllReady.nil)))
          · go_simp
            go_wp2_with fail
            refine Calls.mono (htf _) ?_
            rintro e WA1 ⟨rfl, hA1⟩
            go_wp2_with fail
            have E1 := eD.trans hA1
            have y0 := E1.cell c0
            have y1 := E1.cell c1
            have y2 := E1.cell c2
            have y3 := E1.cell c3
            have y4 := E1.cell c4
            have y5 := E1.cell c5
            refine wpAny_ready (rs := [2, 11]) (by kernel_rfl) (by simp) ?_
            refine AllReady.cons rfl (fun K hK => ?_) (AllReady.cons rfl (fun K hK => ?_) (AllReady.nil))
            · go_simp
              refine hK _ _ ?_
              clear hK K
              refine wpAny_ready (rs := [3, 11]) (by kernel_rfl) (by simp) ?_
              refine AllReady.cons rfl (fun K hK => ?_) (AllReady.cons rfl (fun K hK => ?_) (AllReady.nil))
              · go_simp
                go_wp2_with fail
                refine Calls.mono (htm _) ?_
                rintro e WA2 ⟨rfl, hA2⟩
                go_wp2_with fail
                have E2 := E1.trans hA2
                have y0 := E2.cell c0
                have y1 := E2.cell c1
                have y2 := E2.cell c2
                have y3 := E2.cell c3
                have y4 := E2.cell c4
                have y5 := E2.cell c5
                exact hk0 _ E2
              · go_simp
                refine hK _ _ ?_
                clear hK K
                refine intro_world (fun WN3 hW => ?_)
                have eN3 : Ext WA1 WN3 := by rw [hW]; exact (Ext.refl _).alloc _
                have BX : BoxAt WN3 WA1.heap.size #[.int .u64 0, .int .u64 0] 33 := by rw [hW]; exact BoxAt.new' rfl
                have lbX : w2.heap.size ≤ WA1.heap.size := E1.size
                have E3 := E1.trans eN3
                clear hW
                generalize WA1.heap.size = bX at BX lbX ⊢
                have y0 := E3.cell c0
                have y1 := E3.cell c1
                have y2 := E3.cell c2
                have y3 := E3.cell c3
                have y4 := E3.cell c4
                have y5 := E3.cell c5
                refine wpAny_ready (rs := [3]) (by kernel_rfl) (by simp) ?_
                refine AllReady.cons rfl (fun K hK => ?_) (AllReady.nil)
                · go_simp
                  go_wp2_with fail
                  refine Calls.mono (htm _) ?_
                  rintro e WA4 ⟨rfl, hA4⟩
                  go_wp2_with fail
                  have E4 := E3.trans hA4
                  have BX := BX.ext hA4
                  have y0 := E4.cell c0
                  have y1 := E4.cell c1
                  have y2 := E4.cell c2
                  have y3 := E4.cell c3
                  have y4 := E4.cell c4
                  have y5 := E4.cell c5
                  exact hk1 _ _ ⟨E4, BX, lbX⟩
            · go_simp
              refine hK _ _ ?_
              clear hK K
              refine intro_world (fun WN5 hW => ?_)
              have eN5 : Ext WA1 WN5 := by rw [hW]; exact (Ext.refl _).alloc _
              have BX : BoxAt WN5 WA1.heap.size #[.int .u64 0, .int .u64 0] 33 := by rw [hW]; exact BoxAt.new' rfl
              have lbX : w2.heap.size ≤ WA1.heap.size := E1.size
              have E5 := E1.trans eN5
              clear hW
              generalize WA1.heap.size = bX at BX lbX ⊢
              have y0 := E5.cell c0
              have y1 := E5.cell c1
              have y2 := E5.cell c2
              have y3 := E5.cell c3
              have y4 := E5.cell c4
              have y5 := E5.cell c5
              refine wpAny_ready (rs := [2]) (by kernel_rfl) (by simp) ?_
              refine AllReady.cons rfl (fun K hK => ?_) (AllReady.nil)
              · go_simp
                refine hK _ _ ?_
                clear hK K
                refine wpAny_ready (rs := [3]) (by kernel_rfl) (by simp) ?_
                refine AllReady.cons rfl (fun K hK => ?_) (AllReady.nil)
                · go_simp
                  go_wp2_with fail
                  refine Calls.mono (htm _) ?_
                  rintro e WA6 ⟨rfl, hA6⟩
                  go_wp2_with fail
                  have E6 := E5.trans hA6
                  have BX := BX.ext hA6
                  have y0 := E6.cell c0
                  have y1 := E6.cell c1
                  have y2 := E6.cell c2
                  have y3 := E6.cell c3
                  have y4 := E6.cell c4
                  have y5 := E6.cell c5
                  exact hk1 _ _ ⟨E6, BX, lbX⟩
          · go_simp
            refine hK _ _ ?_
            clear hK K
            refine wpAny_ready (rs := [1, 11]) (by kernel_rfl) (by simp) ?_
            refine AllReady.cons rfl (fun K hK => ?_) (AllReady.cons rfl (fun K hK => ?_) (AllReady.nil))
            · go_simp
              go_wp2_with fail
              refine Calls.mono (htf _) ?_
              rintro e WA7 ⟨rfl, hA7⟩
              go_wp2_with fail
              have E7 := eD.trans hA7
              have y0 := E7.cell c0
              have y1 := E7.cell c1
              have y2 := E7.cell c2
              have y3 := E7.cell c3
              have y4 := E7.cell c4
              have y5 := E7.cell c5
              refine wpAny_ready (rs := [3, 11]) (by kernel_rfl) (by simp) ?_
              refine AllReady.cons rfl (fun K hK => ?_) (AllReady.cons rfl (fun K hK => ?_) (AllReady.nil))
              · go_simp
                go_wp2_with fail
                refine Calls.mono (htm _) ?_
                rintro e WA8 ⟨rfl, hA8⟩
                go_wp2_with fail
                have E8 := E7.trans hA8
                have y0 := E8.cell c0
                have y1 := E8.cell c1
                have y2 := E8.cell c2
                have y3 := E8.cell c3
                have y4 := E8.cell c4
                have y5 := E8.cell c5
                exact hk0 _ E8
              · go_simp
                refine hK _ _ ?_
                clear hK K
                refine intro_world (fun WN9 hW => ?_)
                have eN9 : Ext WA7 WN9 := by rw [hW]; exact (Ext.refl _).alloc _
                have BX : BoxAt WN9 WA7.heap.size #[.int .u64 0, .int .u64 0] 33 := by rw [hW]; exact BoxAt.new' rfl
                have lbX : w2.heap.size ≤ WA7.heap.size := E7.size
                have E9 := E7.trans eN9
                clear hW
                generalize WA7.heap.size = bX at BX lbX ⊢
                have y0 := E9.cell c0
                have y1 := E9.cell c1
                have y2 := E9.cell c2
                have y3 := E9.cell c3
                have y4 := E9.cell c4
                have y5 := E9.cell c5
                refine wpAny_ready (rs := [3]) (by kernel_rfl) (by simp) ?_
                refine AllReady.cons rfl (fun K hK => ?_) (AllReady.nil)
                · go_simp
                  go_wp2_with fail
                  refine Calls.mono (htm _) ?_
                  rintro e WA10 ⟨rfl, hA10⟩
                  go_wp2_with fail
                  have E10 := E9.trans hA10
                  have BX := BX.ext hA10
                  have y0 := E10.cell c0
                  have y1 := E10.cell c1
                  have y2 := E10.cell c2
                  have y3 := E10.cell c3
                  have y4 := E10.cell c4
                  have y5 := E10.cell c5
                  exact hk1 _ _ ⟨E10, BX, lbX⟩
            · go_simp
              refine hK _ _ ?_
              clear hK K
              refine intro_world (fun WN11 hW => ?_)
              have eN11 : Ext WD WN11 := by rw [hW]; exact (Ext.refl _).alloc _
              have BX : BoxAt WN11 WD.heap.size #[.int .u64 0, .int .u64 0] 33 := by rw [hW]; exact BoxAt.new' rfl
              have lbX : w2.heap.size ≤ WD.heap.size := eD.size
              have E11 := eD.trans eN11
              clear hW
              generalize WD.heap.size = bX at BX lbX ⊢
              have y0 := E11.cell c0
              have y1 := E11.cell c1
              have y2 := E11.cell c2
              have y3 := E11.cell c3
              have y4 := E11.cell c4
              have y5 := E11.cell c5
              refine wpAny_ready (rs := [1]) (by kernel_rfl) (by simp) ?_
              refine AllReady.cons rfl (fun K hK => ?_) (AllReady.nil)
              · go_simp
                go_wp2_with fail
                refine Calls.mono (htf _) ?_
                rintro e WA12 ⟨rfl, hA12⟩
                go_wp2_with fail
                have E12 := E11.trans hA12
                have BX := BX.ext hA12
                have y0 := E12.cell c0
                have y1 := E12.cell c1
                have y2 := E12.cell c2
                have y3 := E12.cell c3
                have y4 := E12.cell c4
                have y5 := E12.cell c5
                refine wpAny_ready (rs := [3]) (by kernel_rfl) (by simp) ?_
                refine AllReady.cons rfl (fun K hK => ?_) (AllReady.nil)
                · go_simp
                  go_wp2_with fail
                  refine Calls.mono (htm _) ?_
                  rintro e WA13 ⟨rfl, hA13⟩
                  go_wp2_with fail
                  have E13 := E12.trans hA13
                  have BX := BX.ext hA13
                  have y0 := E13.cell c0
                  have y1 := E13.cell c1
                  have y2 := E13.cell c2
                  have y3 := E13.cell c3
                  have y4 := E13.cell c4
                  have y5 := E13.cell c5
                  exact hk1 _ _ ⟨E13, BX, lbX⟩
          · go_simp
            refine hK _ _ ?_
            clear hK K
            refine intro_world (fun WN14 hW => ?_)
            have eN14 : Ext WD WN14 := by rw [hW]; exact (Ext.refl _).alloc _
            have BX : BoxAt WN14 WD.heap.size #[.int .u64 0, .int .u64 0] 33 := by rw [hW]; exact BoxAt.new' rfl
            have lbX : w2.heap.size ≤ WD.heap.size := eD.size
            have E14 := eD.trans eN14
            clear hW
            generalize WD.heap.size = bX at BX lbX ⊢
            have y0 := E14.cell c0
            have y1 := E14.cell c1
            have y2 := E14.cell c2
            have y3 := E14.cell c3
            have y4 := E14.cell c4
            have y5 := E14.cell c5
            refine wpAny_ready (rs := [1, 2]) (by kernel_rfl) (by simp) ?_
            refine AllReady.cons rfl (fun K hK => ?_) (AllReady.cons rfl (fun K hK => ?_) (AllReady.nil))
            · go_simp
              go_wp2_with fail
              refine Calls.mono (htf _) ?_
              rintro e WA15 ⟨rfl, hA15⟩
              go_wp2_with fail
              have E15 := E14.trans hA15
              have BX := BX.ext hA15
              have y0 := E15.cell c0
              have y1 := E15.cell c1
              have y2 := E15.cell c2
              have y3 := E15.cell c3
              have y4 := E15.cell c4
              have y5 := E15.cell c5
              refine wpAny_ready (rs := [2]) (by kernel_rfl) (by simp) ?_
              refine AllReady.cons rfl (fun K hK => ?_) (AllReady.nil)
              · go_simp
                refine hK _ _ ?_
                clear hK K
                refine wpAny_ready (rs := [3]) (by kernel_rfl) (by simp) ?_
                refine AllReady.cons rfl (fun K hK => ?_) (AllReady.nil)
                · go_simp
                  go_wp2_with fail
                  refine Calls.mono (htm _) ?_
                  rintro e WA16 ⟨rfl, hA16⟩
                  go_wp2_with fail
                  have E16 := E15.trans hA16
                  have BX := BX.ext hA16
                  have y0 := E16.cell c0
                  have y1 := E16.cell c1
                  have y2 := E16.cell c2
                  have y3 := E16.cell c3
                  have y4 := E16.cell c4
                  have y5 := E16.cell c5
                  exact hk1 _ _ ⟨E16, BX, lbX⟩
            · go_simp
              refine hK _ _ ?_
              clear hK K
              refine wpAny_ready (rs := [1]) (by kernel_rfl) (by simp) ?_
              refine AllReady.cons rfl (fun K hK => ?_) (AllReady.nil)
              · go_simp
                go_wp2_with fail
                refine Calls.mono (htf _) ?_
                rintro e WA17 ⟨rfl, hA17⟩
                go_wp2_with fail
                have E17 := E14.trans hA17
                have BX := BX.ext hA17
                have y0 := E17.cell c0
                have y1 := E17.cell c1
                have y2 := E17.cell c2
                have y3 := E17.cell c3
                have y4 := E17.cell c4
                have y5 := E17.cell c5
                refine wpAny_ready (rs := [3]) (by kernel_rfl) (by simp) ?_
                refine AllReady.cons rfl (fun K hK => ?_) (AllReady.nil)
                · go_simp
                  go_wp2_with fail
                  refine Calls.mono (htm _) ?_
                  rintro e WA18 ⟨rfl, hA18⟩
                  go_wp2_with fail
                  have E18 := E17.trans hA18
                  have BX := BX.ext hA18
                  have y0 := E18.cell c0
                  have y1 := E18.cell c1
                  have y2 := E18.cell c2
                  have y3 := E18.cell c3
                  have y4 := E18.cell c4
                  have y5 := E18.cell c5
                  exact hk1 _ _ ⟨E18, BX, lbX⟩
        · go_simp
          refine hK _ _ ?_
          clear hK K
          refine wpAny_ready (rs := [0, 11]) (by kernel_rfl) (by simp) ?_
          refine AllReady.cons rfl (fun K hK => ?_) (AllReady.cons rfl (fun K hK => ?_) (AllReady.nil))
          · go_simp
            refine hK _ _ ?_
            clear hK K
            refine wpAny_ready (rs := [1, 11]) (by kernel_rfl) (by simp) ?_
            refine AllReady.cons rfl (fun K hK => ?_) (AllReady.cons rfl (fun K hK => ?_) (AllReady.nil))
            · go_simp
              go_wp2_with fail
              refine Calls.mono (htf _) ?_
              rintro e WA19 ⟨rfl, hA19⟩
              go_wp2_with fail
              have E19 := eD.trans hA19
              have y0 := E19.cell c0
              have y1 := E19.cell c1
              have y2 := E19.cell c2
              have y3 := E19.cell c3
              have y4 := E19.cell c4
              have y5 := E19.cell c5
              refine wpAny_ready (rs := [3, 11]) (by kernel_rfl) (by simp) ?_
              refine AllReady.cons rfl (fun K hK => ?_) (AllReady.cons rfl (fun K hK => ?_) (AllReady.nil))
              · go_simp
                go_wp2_with fail
                refine Calls.mono (htm _) ?_
                rintro e WA20 ⟨rfl, hA20⟩
                go_wp2_with fail
                have E20 := E19.trans hA20
                have y0 := E20.cell c0
                have y1 := E20.cell c1
                have y2 := E20.cell c2
                have y3 := E20.cell c3
                have y4 := E20.cell c4
                have y5 := E20.cell c5
                exact hk0 _ E20
              · go_simp
                refine hK _ _ ?_
                clear hK K
                refine intro_world (fun WN21 hW => ?_)
                have eN21 : Ext WA19 WN21 := by rw [hW]; exact (Ext.refl _).alloc _
                have BX : BoxAt WN21 WA19.heap.size #[.int .u64 0, .int .u64 0] 33 := by rw [hW]; exact BoxAt.new' rfl
                have lbX : w2.heap.size ≤ WA19.heap.size := E19.size
                have E21 := E19.trans eN21
                clear hW
                generalize WA19.heap.size = bX at BX lbX ⊢
                have y0 := E21.cell c0
                have y1 := E21.cell c1
                have y2 := E21.cell c2
                have y3 := E21.cell c3
                have y4 := E21.cell c4
                have y5 := E21.cell c5
                refine wpAny_ready (rs := [3]) (by kernel_rfl) (by simp) ?_
                refine AllReady.cons rfl (fun K hK => ?_) (AllReady.nil)
                · go_simp
                  go_wp2_with fail
                  refine Calls.mono (htm _) ?_
                  rintro e WA22 ⟨rfl, hA22⟩
                  go_wp2_with fail
                  have E22 := E21.trans hA22
                  have BX := BX.ext hA22
                  have y0 := E22.cell c0
                  have y1 := E22.cell c1
                  have y2 := E22.cell c2
                  have y3 := E22.cell c3
                  have y4 := E22.cell c4
                  have y5 := E22.cell c5
                  exact hk1 _ _ ⟨E22, BX, lbX⟩
            · go_simp
              refine hK _ _ ?_
              clear hK K
              refine intro_world (fun WN23 hW => ?_)
              have eN23 : Ext WD WN23 := by rw [hW]; exact (Ext.refl _).alloc _
              have BX : BoxAt WN23 WD.heap.size #[.int .u64 0, .int .u64 0] 33 := by rw [hW]; exact BoxAt.new' rfl
              have lbX : w2.heap.size ≤ WD.heap.size := eD.size
              have E23 := eD.trans eN23
              clear hW
              generalize WD.heap.size = bX at BX lbX ⊢
              have y0 := E23.cell c0
              have y1 := E23.cell c1
              have y2 := E23.cell c2
              have y3 := E23.cell c3
              have y4 := E23.cell c4
              have y5 := E23.cell c5
              refine wpAny_ready (rs := [1]) (by kernel_rfl) (by simp) ?_
              refine AllReady.cons rfl (fun K hK => ?_) (AllReady.nil)
              · go_simp
                go_wp2_with fail
                refine Calls.mono (htf _) ?_
                rintro e WA24 ⟨rfl, hA24⟩
                go_wp2_with fail
                have E24 := E23.trans hA24
                have BX := BX.ext hA24
                have y0 := E24.cell c0
                have y1 := E24.cell c1
                have y2 := E24.cell c2
                have y3 := E24.cell c3
                have y4 := E24.cell c4
                have y5 := E24.cell c5
                refine wpAny_ready (rs := [3]) (by kernel_rfl) (by simp) ?_
                refine AllReady.cons rfl (fun K hK => ?_) (AllReady.nil)
                · go_simp
                  go_wp2_with fail
                  refine Calls.mono (htm _) ?_
                  rintro e WA25 ⟨rfl, hA25⟩
                  go_wp2_with fail
                  have E25 := E24.trans hA25
                  have BX := BX.ext hA25
                  have y0 := E25.cell c0
                  have y1 := E25.cell c1
                  have y2 := E25.cell c2
                  have y3 := E25.cell c3
                  have y4 := E25.cell c4
                  have y5 := E25.cell c5
                  exact hk1 _ _ ⟨E25, BX, lbX⟩
          · go_simp
            refine hK _ _ ?_
            clear hK K
            refine intro_world (fun WN26 hW => ?_)
            have eN26 : Ext WD WN26 := by rw [hW]; exact (Ext.refl _).alloc _
            have BX : BoxAt WN26 WD.heap.size #[.int .u64 0, .int .u64 0] 33 := by rw [hW]; exact BoxAt.new' rfl
            have lbX : w2.heap.size ≤ WD.heap.size := eD.size
            have E26 := eD.trans eN26
            clear hW
            generalize WD.heap.size = bX at BX lbX ⊢
            have y0 := E26.cell c0
            have y1 := E26.cell c1
            have y2 := E26.cell c2
            have y3 := E26.cell c3
            have y4 := E26.cell c4
            have y5 := E26.cell c5
            refine wpAny_ready (rs := [0]) (by kernel_rfl) (by simp) ?_
            refine AllReady.cons rfl (fun K hK => ?_) (AllReady.nil)
            · go_simp
              refine hK _ _ ?_
              clear hK K
              refine wpAny_ready (rs := [1]) (by kernel_rfl) (by simp) ?_
              refine AllReady.cons rfl (fun K hK => ?_) (AllReady.nil)
              · go_simp
                go_wp2_with fail
                refine Calls.mono (htf _) ?_
                rintro e WA27 ⟨rfl, hA27⟩
                go_wp2_with fail
                have E27 := E26.trans hA27
                have BX := BX.ext hA27
                have y0 := E27.cell c0
                have y1 := E27.cell c1
                have y2 := E27.cell c2
                have y3 := E27.cell c3
                have y4 := E27.cell c4
                have y5 := E27.cell c5
                refine wpAny_ready (rs := [3]) (by kernel_rfl) (by simp) ?_
                refine AllReady.cons rfl (fun K hK => ?_) (AllReady.nil)
                · go_simp
                  go_wp2_with fail
                  refine Calls.mono (htm _) ?_
                  rintro e WA28 ⟨rfl, hA28⟩
                  go_wp2_with fail
                  have E28 := E27.trans hA28
                  have BX := BX.ext hA28
                  have y0 := E28.cell c0
                  have y1 := E28.cell c1
                  have y2 := E28.cell c2
                  have y3 := E28.cell c3
                  have y4 := E28.cell c4
                  have y5 := E28.cell c5
                  exact hk1 _ _ ⟨E28, BX, lbX⟩
        · go_simp
          refine hK _ _ ?_
          clear hK K
          refine intro_world (fun WN29 hW => ?_)
          have eN29 : Ext WD WN29 := by rw [hW]; exact (Ext.refl _).alloc _
          have BX : BoxAt WN29 WD.heap.size #[.int .u64 0, .int .u64 0] 33 := by rw [hW]; exact BoxAt.new' rfl
          have lbX : w2.heap.size ≤ WD.heap.size := eD.size
          have E29 := eD.trans eN29
          clear hW
          generalize WD.heap.size = bX at BX lbX ⊢
          have y0 := E29.cell c0
          have y1 := E29.cell c1
          have y2 := E29.cell c2
          have y3 := E29.cell c3
          have y4 := E29.cell c4
          have y5 := E29.cell c5
          refine wpAny_ready (rs := [0, 2]) (by kernel_rfl) (by simp) ?_
          refine AllReady.cons rfl (fun K hK => ?_) (AllReady.cons rfl (fun K hK => ?_) (AllReady.nil))
          · go_simp
            refine hK _ _ ?_
            clear hK K
            refine wpAny_ready (rs := [1, 2]) (by kernel_rfl) (by simp) ?_
            refine AllReady.cons rfl (fun K hK => ?_) (AllReady.cons rfl (fun K hK => ?_) (AllReady.nil))
            · go_simp
              go_wp2_with fail
              refine Calls.mono (htf _) ?_
              rintro e WA30 ⟨rfl, hA30⟩
              go_wp2_with fail
              have E30 := E29.trans hA30
              have BX := BX.ext hA30
              have y0 := E30.cell c0
              have y1 := E30.cell c1
              have y2 := E30.cell c2
              have y3 := E30.cell c3
              have y4 := E30.cell c4
              have y5 := E30.cell c5
              refine wpAny_ready (rs := [2]) (by kernel_rfl) (by simp) ?_
              refine AllReady.cons rfl (fun K hK => ?_) (AllReady.nil)
              · go_simp
                refine hK _ _ ?_
                clear hK K
                refine wpAny_ready (rs := [3]) (by kernel_rfl) (by simp) ?_
                refine AllReady.cons rfl (fun K hK => ?_) (AllReady.nil)
                · go_simp
                  go_wp2_with fail
                  refine Calls.mono (htm _) ?_
                  rintro e WA31 ⟨rfl, hA31⟩
                  go_wp2_with fail
                  have E31 := E30.trans hA31
                  have BX := BX.ext hA31
                  have y0 := E31.cell c0
                  have y1 := E31.cell c1
                  have y2 := E31.cell c2
                  have y3 := E31.cell c3
                  have y4 := E31.cell c4
                  have y5 := E31.cell c5
                  exact hk1 _ _ ⟨E31, BX, lbX⟩
            · go_simp
              refine hK _ _ ?_
              clear hK K
              refine wpAny_ready (rs := [1]) (by kernel_rfl) (by simp) ?_
              refine AllReady.cons rfl (fun K hK => ?_) (AllReady.nil)
              · go_simp
                go_wp2_with fail
                refine Calls.mono (htf _) ?_
                rintro e WA32 ⟨rfl, hA32⟩
                go_wp2_with fail
                have E32 := E29.trans hA32
                have BX := BX.ext hA32
                have y0 := E32.cell c0
                have y1 := E32.cell c1
                have y2 := E32.cell c2
                have y3 := E32.cell c3
                have y4 := E32.cell c4
                have y5 := E32.cell c5
                refine wpAny_ready (rs := [3]) (by kernel_rfl) (by simp) ?_
                refine AllReady.cons rfl (fun K hK => ?_) (AllReady.nil)
                · go_simp
                  go_wp2_with fail
                  refine Calls.mono (htm _) ?_
                  rintro e WA33 ⟨rfl, hA33⟩
                  go_wp2_with fail
                  have E33 := E32.trans hA33
                  have BX := BX.ext hA33
                  have y0 := E33.cell c0
                  have y1 := E33.cell c1
                  have y2 := E33.cell c2
                  have y3 := E33.cell c3
                  have y4 := E33.cell c4
                  have y5 := E33.cell c5
                  exact hk1 _ _ ⟨E33, BX, lbX⟩
          · go_simp
            refine hK _ _ ?_
            clear hK K
            refine wpAny_ready (rs := [0]) (by kernel_rfl) (by simp) ?_
            refine AllReady.cons rfl (fun K hK => ?_) (AllReady.nil)
            · go_simp
              refine hK _ _ ?_
              clear hK K
              refine wpAny_ready (rs := [1]) (by kernel_rfl) (by simp) ?_
              refine AllReady.cons rfl (fun K hK => ?_) (AllReady.nil)
              · go_simp
                go_wp2_with fail
                refine Calls.mono (htf _) ?_
                rintro e WA34 ⟨rfl, hA34⟩
                go_wp2_with fail
                have E34 := E29.trans hA34
                have BX := BX.ext hA34
                have y0 := E34.cell c0
                have y1 := E34.cell c1
                have y2 := E34.cell c2
                have y3 := E34.cell c3
                have y4 := E34.cell c4
                have y5 := E34.cell c5
                refine wpAny_ready (rs := [3]) (by kernel_rfl) (by simp) ?_
                refine AllReady.cons rfl (fun K hK => ?_) (AllReady.nil)
                · go_simp
                  go_wp2_with fail
                  refine Calls.mono (htm _) ?_
                  rintro e WA35 ⟨rfl, hA35⟩
                  go_wp2_with fail
                  have E35 := E34.trans hA35
                  have BX := BX.ext hA35
                  have y0 := E35.cell c0
                  have y1 := E35.cell c1
                  have y2 := E35.cell c2
                  have y3 := E35.cell c3
                  have y4 := E35.cell c4
                  have y5 := E35.cell c5
                  exact hk1 _ _ ⟨E35, BX, lbX⟩
      intro W0 E0
      refine wpAny_ready (rs := [5, 11]) (by kernel_rfl) (by simp) ?_
      refine AllReady.cons rfl (fun K hK => ?_) (AllReady.cons rfl (fun K hK => ?_) (AllReady.nil))
      · go_simp
        go_wp2_with fail
        refine Calls.mono (laws_toMaskS xs A cap _ (hR.ext (hw2.trans E0)) hn1) ?_
        rintro e WA36 ⟨vS, rfl, hOS, hA36⟩
        obtain ⟨AS, cS, rfl, hleS, hRS⟩ := hOS.slice
        go_wp2_with fail
        have E36 := E0.trans hA36
        refine wpAny_ready (rs := [6, 11]) (by kernel_rfl) (by simp) ?_
        refine AllReady.cons rfl (fun K hK => ?_) (AllReady.cons rfl (fun K hK => ?_) (AllReady.nil))
        · go_simp
          go_wp2_with fail
          refine Calls.mono (hsp AS cS _ hRS) ?_
          rintro e WA37 ⟨rfl, hA37⟩
          go_wp2_with fail
          have E37 := E36.trans hA37
          have hRS := hRS.ext hA37
          refine wpAny_take (i := 7) (v := ?_) rfl (by kernel_rfl) (by kernel_rfl) (by kernel_rfl) (fun _ _ _ h => h) (Or.inl ⟨by rfl, ?_⟩) ?_
          rotate_left
          · (intro W9; go_simp; try with_reducible rfl)
          refine wpAny_take (i := 8) (v := ?_) rfl (by kernel_rfl) (by kernel_rfl) (by kernel_rfl) (fun _ _ _ h => h) (Or.inl ⟨by rfl, ?_⟩) ?_
          rotate_left
          · (intro W9; go_simp; try with_reducible rfl)
          refine wpAny_take (i := 9) (v := ?_) rfl (by kernel_rfl) (by kernel_rfl) (by kernel_rfl) (fun _ _ _ h => h) (Or.inl ⟨by rfl, ?_⟩) ?_
          rotate_left
          · (intro W9; go_simp; try with_reducible rfl)
          refine wpAny_take (i := 10) (v := ?_) rfl (by kernel_rfl) (by kernel_rfl) (by kernel_rfl) (fun _ _ _ h => h) (Or.inl ⟨by rfl, ?_⟩) ?_
          rotate_left
          · (intro W9; go_simp; try with_reducible rfl)
          refine wpAny_ready (rs := [11]) (by kernel_rfl) (by simp) ?_
          refine AllReady.cons rfl (fun K hK => ?_) (AllReady.nil)
          go_simp
          refine hK _ _ ?_
          clear hK K
          refine intro_world (fun WN38 hW => ?_)
          have eN38 : Ext WA37 WN38 := by rw [hW]; exact (Ext.refl _).alloc _
          have BX : BoxAt WN38 WA37.heap.size #[.int .u64 0, .int .u64 0] 33 := by rw [hW]; exact BoxAt.new' rfl
          have lbX : w2.heap.size ≤ WA37.heap.size := E37.size
          have E38 := E37.trans eN38
          clear hW
          generalize WA37.heap.size = bX at BX lbX ⊢
          have hRS := hRS.ext eN38
          exact hkF bX AS cS _ ⟨E38, BX, lbX⟩
        · go_simp
          refine hK _ _ ?_
          clear hK K
          refine intro_world (fun WN39 hW => ?_)
          have eN39 : Ext WA36 WN39 := by rw [hW]; exact (Ext.refl _).alloc _
          have BX : BoxAt WN39 WA36.heap.size #[.int .u64 0, .int .u64 0] 33 := by rw [hW]; exact BoxAt.new' rfl
          have lbX : w2.heap.size ≤ WA36.heap.size := E36.size
          have E39 := E36.trans eN39
          clear hW
          generalize WA36.heap.size = bX at BX lbX ⊢
          have hRS := hRS.ext eN39
          refine wpAny_ready (rs := [6]) (by kernel_rfl) (by simp) ?_
          refine AllReady.cons rfl (fun K hK => ?_) ?_
          rotate_left
          · exact AllReady.nil
          go_simp
          go_wp2_with fail
          refine Calls.mono (hsp AS cS _ hRS) ?_
          rintro e WA40 ⟨rfl, hA40⟩
          go_wp2_with fail
          have E40 := E39.trans hA40
          have BX := BX.ext hA40
          have hRS := hRS.ext hA40
          refine wpAny_take (i := 7) (v := ?_) rfl (by kernel_rfl) (by kernel_rfl) (by kernel_rfl) (fun _ _ _ h => h) (Or.inl ⟨by rfl, ?_⟩) ?_
          rotate_left
          · (intro W9; go_simp; try with_reducible rfl)
          refine wpAny_take (i := 8) (v := ?_) rfl (by kernel_rfl) (by kernel_rfl) (by kernel_rfl) (fun _ _ _ h => h) (Or.inl ⟨by rfl, ?_⟩) ?_
          rotate_left
          · (intro W9; go_simp; try with_reducible rfl)
          refine wpAny_take (i := 9) (v := ?_) rfl (by kernel_rfl) (by kernel_rfl) (by kernel_rfl) (fun _ _ _ h => h) (Or.inl ⟨by rfl, ?_⟩) ?_
          rotate_left
          · (intro W9; go_simp; try with_reducible rfl)
          refine wpAny_take (i := 10) (v := ?_) rfl (by kernel_rfl) (by kernel_rfl) (by kernel_rfl) (fun _ _ _ h => h) (Or.inl ⟨by rfl, ?_⟩) ?_
          rotate_left
          · (intro W9; go_simp; try with_reducible rfl)
          exact hkF bX AS cS _ ⟨E40, BX, lbX⟩
      · go_simp
        refine hK _ _ ?_
        clear hK K
        refine intro_world (fun WN41 hW => ?_)
        have eN41 : Ext W0 WN41 := by rw [hW]; exact (Ext.refl _).alloc _
        have BX : BoxAt WN41 W0.heap.size #[.int .u64 0, .int .u64 0] 33 := by rw [hW]; exact BoxAt.new' rfl
        have lbX : w2.heap.size ≤ W0.heap.size := E0.size
        have E41 := E0.trans eN41
        clear hW
        generalize W0.heap.size = bX at BX lbX ⊢
        refine wpAny_ready (rs := [5]) (by kernel_rfl) (by simp) ?_
        refine AllReady.cons rfl (fun K hK => ?_) ?_
        rotate_left
        · exact AllReady.nil
        go_simp
        go_wp2_with fail
        refine Calls.mono (laws_toMaskS xs A cap _ (hR.ext (hw2.trans E41)) hn1) ?_
        rintro e WA42 ⟨vS, rfl, hOS, hA42⟩
        obtain ⟨AS, cS, rfl, hleS, hRS⟩ := hOS.slice
        go_wp2_with fail
        have E42 := E41.trans hA42
        have BX := BX.ext hA42
        refine wpAny_ready (rs := [6]) (by kernel_rfl) (by simp) ?_
        refine AllReady.cons rfl (fun K hK => ?_) ?_
        rotate_left
        · exact AllReady.nil
        go_simp
        go_wp2_with fail
        refine Calls.mono (hsp AS cS _ hRS) ?_
        rintro e WA43 ⟨rfl, hA43⟩
        go_wp2_with fail
        have E43 := E42.trans hA43
        have BX := BX.ext hA43
        have hRS := hRS.ext hA43
        refine wpAny_take (i := 7) (v := ?_) rfl (by kernel_rfl) (by kernel_rfl) (by kernel_rfl) (fun _ _ _ h => h) (Or.inl ⟨by rfl, ?_⟩) ?_
        rotate_left
        · (intro W9; go_simp; try with_reducible rfl)
        refine wpAny_take (i := 8) (v := ?_) rfl (by kernel_rfl) (by kernel_rfl) (by kernel_rfl) (fun _ _ _ h => h) (Or.inl ⟨by rfl, ?_⟩) ?_
        rotate_left
        · (intro W9; go_simp; try with_reducible rfl)
        refine wpAny_take (i := 9) (v := ?_) rfl (by kernel_rfl) (by kernel_rfl) (by kernel_rfl) (fun _ _ _ h => h) (Or.inl ⟨by rfl, ?_⟩) ?_
        rotate_left
        · (intro W9; go_simp; try with_reducible rfl)
        refine wpAny_take (i := 10) (v := ?_) rfl (by kernel_rfl) (by kernel_rfl) (by kernel_rfl) (fun _ _ _ h => h) (Or.inl ⟨by rfl, ?_⟩) ?_
        rotate_left
        · (intro W9; go_simp; try with_reducible rfl)
        exact hkF bX AS cS _ ⟨E43, BX, lbX⟩
    intro bX W1 ⟨E1, BX, lbX⟩
    refine wpAny_ready (rs := [5]) (by kernel_rfl) (by simp) ?_
    refine AllReady.cons rfl (fun K hK => ?_) ?_
    rotate_left
    · exact AllReady.nil
    go_simp
    go_wp2_with fail
    refine Calls.mono (laws_toMaskS xs A cap _ (hR.ext (hw2.trans E1)) hn1) ?_
    rintro e WA44 ⟨vS, rfl, hOS, hA44⟩
    obtain ⟨AS, cS, rfl, hleS, hRS⟩ := hOS.slice
    go_wp2_with fail
    have E44 := E1.trans hA44
    have BX := BX.ext hA44
    refine wpAny_ready (rs := [6]) (by kernel_rfl) (by simp) ?_
    refine AllReady.cons rfl (fun K hK => ?_) ?_
    rotate_left
    · exact AllReady.nil
    go_simp
    go_wp2_with fail
    refine Calls.mono (hsp AS cS _ hRS) ?_
    rintro e WA45 ⟨rfl, hA45⟩
    go_wp2_with fail
    have E45 := E44.trans hA45
    have BX := BX.ext hA45
    have hRS := hRS.ext hA45
    refine wpAny_take (i := 7) (v := ?_) rfl (by kernel_rfl) (by kernel_rfl) (by kernel_rfl) (fun _ _ _ h => h) (Or.inl ⟨by rfl, ?_⟩) ?_
    rotate_left
    · (intro W9; go_simp; try with_reducible rfl)
    refine wpAny_take (i := 8) (v := ?_) rfl (by kernel_rfl) (by kernel_rfl) (by kernel_rfl) (fun _ _ _ h => h) (Or.inl ⟨by rfl, ?_⟩) ?_
    rotate_left
    · (intro W9; go_simp; try with_reducible rfl)
    refine wpAny_take (i := 9) (v := ?_) rfl (by kernel_rfl) (by kernel_rfl) (by kernel_rfl) (fun _ _ _ h => h) (Or.inl ⟨by rfl, ?_⟩) ?_
    rotate_left
    · (intro W9; go_simp; try with_reducible rfl)
    refine wpAny_take (i := 10) (v := ?_) rfl (by kernel_rfl) (by kernel_rfl) (by kernel_rfl) (fun _ _ _ h => h) (Or.inl ⟨by rfl, ?_⟩) ?_
    rotate_left
    · (intro W9; go_simp; try with_reducible rfl)
    exact hkF bX AS cS _ ⟨E45, BX, lbX⟩
  intro bX AS cS WF ⟨EF, BX, lbX⟩
  have b0 := BX.cell 0
  have b1 := BX.cell 1
  have bf0 := BX.frozen 0
  have bf1 := BX.frozen 1
  have lB := BX.lt
  refine wpAny_ready (rs := [12]) (by kernel_rfl) (by simp) ?_
  refine AllReady.cons rfl (fun K hK => ?_) ?_
  rotate_left
  · exact AllReady.nil
  go_simp
  refine hK _ _ ?_
  clear hK K
  refine wpAny_ready (rs := [13]) (by kernel_rfl) (by simp) ?_
  refine AllReady.cons rfl (fun K hK => ?_) ?_
  rotate_left
  · exact AllReady.nil
  go_simp
  refine hK _ _ ?_
  clear hK K
  refine wpAny_ready (rs := [14]) (by kernel_rfl) (by simp) ?_
  refine AllReady.cons rfl (fun K hK => ?_) ?_
  rotate_left
  · exact AllReady.nil
  go_simp
  refine hK _ _ ?_
  clear hK K
  refine wpAny_done (by kernel_rfl) ?_ _
  have BX2 : BoxAt ((WF.setCell ⟨bX, 0, none⟩ (.int .u64 (lo qm))).setCell ⟨bX, 1, none⟩ (.int .u64 (hi qm))) bX #[.int .u64 (lo qm), .int .u64 (hi qm)] 33 := (BX.set 0 _).set 1 _
  have h3 : Ext w2 ((WF.setCell ⟨bX, 0, none⟩ (.int .u64 (lo qm))).setCell ⟨bX, 1, none⟩ (.int .u64 (hi qm))) := Ext.set lbX (Ext.set lbX EF _) _
  clear b0 b1 bf0 bf1 lB BX
  go_wp2_with fail
  generalize (WF.setCell ⟨bX, 0, none⟩ (.int .u64 (lo qm))).setCell ⟨bX, 1, none⟩ (.int .u64 (hi qm)) = W3 at BX2 h3
  refine Calls.mono (laws_toMaskS xs A cap _ (hR.ext (hw2.trans h3)) hn1) ?_
  rintro e w7 ⟨v7, rfl, hO7, hb7⟩
  obtain ⟨A7, cap7, rfl, hle7, hR7⟩ := hO7.slice
  have h7 := h3.trans hb7
  have BX7 := BX2.ext hb7
  have y0 := h7.cell c0
  have y1 := h7.cell c1
  have y2 := h7.cell c2
  have y3 := h7.cell c3
  have y4 := h7.cell c4
  have y5 := h7.cell c5
  have ly0 : w.heap.size < w7.heap.size := World.block_lt_of_cell? _ _ y0
  have ly1 : w.heap.size + 1 < w7.heap.size := World.block_lt_of_cell? _ _ y4
  have lX := BX7.lt
  go_wp2_with fail
  refine wp_region_float 6 10 12 _ #[.int .u64 0, .int .u64 0] 33 (by kernel_rfl) (by kernel_rfl) rfl rfl rfl rfl (fun _ _ => by go_simp) (by intro d _ _ _ _ h; cases d <;> exact h) ?_
  simp only [List.take_succ_cons, List.take_zero, List.drop_succ_cons, List.drop_zero]
  repeat (refine wpX_step (fun K hK => ?_); go_simp; first | (refine hK _ ?_; clear hK K) | (apply Exists.intro; refine ⟨fun x => ?_, hK _ ?_⟩; ((first | (go_at_call 13; with_reducible exact htf _) | (go_at_call 14; with_reducible exact htm _) | (go_at_call 27; with_reducible exact him A7 cap7 _ (hR7.ext (ExtOf.prop _))))); clear hK K))
  refine wpX_nil ?_
  intro b8 w8 hb8 hbb8 hcb8
  obtain ⟨hc8, hf8, hz8⟩ := bcell3 hb8
  try simp at hz8
  try simp at hbb8
  have hbl8 := blk_lt hcb8
  have hbf8 := blk_free hcb8
  have hbc8_0 : w8.cell? ⟨b8, 0, none⟩ = some (.int .u64 0) := blk_cell hcb8 0 rfl
  have hbc8_1 : w8.cell? ⟨b8, 1, none⟩ = some (.int .u64 0) := blk_cell hcb8 1 rfl
  clear hcb8
  have h8 : Ext w2 w8 := h7.trans hb8
  have BX8 := BX7.ext hb8
  have nbX : ¬ bX = b8 := by omega
  have x0 := BX8.cell 0
  have x1 := BX8.cell 1
  have lX8 := BX8.lt
  have hR8 := hR7.ext hb8
  have hE8 : Ext w ((w8.setCell ⟨b8, 0, none⟩ (.int .u64 (lo qm))).setCell ⟨b8, 1, none⟩ (.int .u64 (hi qm))) := Ext.set (by dsimp only; have := hw2.size; have := h7.size; omega) (Ext.set (by dsimp only; have := hw2.size; have := h7.size; omega) (hw2.trans h8) _) _
  have hE7 : Ext w7 ((w8.setCell ⟨b8, 0, none⟩ (.int .u64 (lo qm))).setCell ⟨b8, 1, none⟩ (.int .u64 (hi qm))) := Ext.set (by dsimp only; omega) (Ext.set (by dsimp only; omega) hb8 _) _
  clear y0 y1 y2 y3 y4 y5 hO7 hc8 hf8
  go_wp2_with fail
  refine Calls.mono (laws_eqMask qm qm _) ?_
  rintro e w9 ⟨rfl, hb9⟩
  rw [rm]
  have h9 := hE8.trans hb9
  have hR9 := hR7.ext (hE7.trans hb9)
  clear hb8 hbf8 hbc8_0 hbc8_1 x0 x1 hE7 hE8 hb9
  go_wp2_with fail
  refine Calls.mono (laws_toMaskS xs A cap _ (hR.ext h9) hn1) ?_
  rintro e w10 ⟨v10, rfl, hO10, hb10⟩
  obtain ⟨A10, cap10, rfl, hle10, hR10⟩ := hO10.slice
  go_wp2_with fail
  refine Calls.mono (laws_eqMaskS xs xs _ _ _ _ _ (hR9.ext hb10) hR10 hn1 hn1) ?_
  rintro e w11 ⟨rfl, hb11⟩
  rw [rr]
  go_wp2
  go_ret
  exact ⟨rfl, (h9.trans hb10).trans hb11⟩
end Go.Proofs.YtknbebglabpegaaDoor
