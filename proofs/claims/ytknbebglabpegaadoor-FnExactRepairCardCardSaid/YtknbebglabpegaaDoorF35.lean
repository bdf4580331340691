/-
  The walk of the law FnExactRepairCard (written by mk35.py).
-/
import Derived.Test.YtknbebglabpegaaDoorM35
set_option linter.unusedVariables false
set_option linter.unusedSimpArgs false
set_option maxRecDepth 100000
namespace Go.Proofs.YtknbebglabpegaaDoor
open Go.RowKit
theorem szF_in {n : Nat} {l : Int} (h : ¬ szF n l < 0) (hl : 0 ≤ l) : (n : Int) ≤ l ∧ 0 ≤ szF n l ∧ szF n l ≤ l := by
  unfold szF at *
  split at h
  · rename_i h1; rw [if_pos h1]; omega
  · omega
set_option maxHeartbeats 8000000 in
theorem laws_FnExactRepairCard (xs : List Fld) (A : Option Addr) (cap : Nat) (c : Crd) (cs : List Crd) (B : Option Addr) (cap' : Nat) (w0 : World) (hn : xs.length ≤ 9223372036854775807) (hR0 : Rd encFld w0 A xs) (hok : ∀ x ∈ xs, FldIn x) (hnm : c.nm.size ≤ 9223372036854775807)
    (hm : cs.length ≤ 9223372036854775807) (hS0 : Rd encCrd w0 B cs) (hok' : ∀ x ∈ cs, CrdIn x) :
    Calls Tryd.prog 10 #[.slice A xs.length cap, .agg #[.string c.nm, .int .u64 (lo c.m), .int .u64 (hi c.m)], .slice B cs.length cap'] w0 fun e w' => e = .returned (.bool true) ∧ Ext w0 w' := by
  have rr := eqL_refl fldEqB fldEqB_refl xs
  have rc := eqL_refl crdB crdB_refl cs
  have htc := fun W => laws_toCard c W
  go_enter Tryd.func10, Tryd.ntmps10
  go_wp2_with fail
  have hcells0 : BoxAt (w0.alloc (.cells #[.string c.nm, .int .u64 (lo c.m), .int .u64 (hi c.m)] 61)) w0.heap.size #[.string c.nm, .int .u64 (lo c.m), .int .u64 (hi c.m)] 61 := BoxAt.new' rfl
  have hww : Ext w0 (w0.alloc (.cells #[.string c.nm, .int .u64 (lo c.m), .int .u64 (hi c.m)] 61)) := (Ext.refl _).alloc _
  have hR := hR0.ext hww
  have hS := hS0.ext hww
  generalize w0.alloc (.cells #[.string c.nm, .int .u64 (lo c.m), .int .u64 (hi c.m)] 61) = w at hcells0 hww hR hS
  have hcells : ∀ W, Ext w W → W.cell? ⟨w0.heap.size, 0, none⟩ = some (.string c.nm) ∧ W.cell? ⟨w0.heap.size, 1, none⟩ = some (.int .u64 (lo c.m)) ∧ W.cell? ⟨w0.heap.size, 2, none⟩ = some (.int .u64 (hi c.m)) := fun W h => ⟨h.cell (hcells0.cell 0), h.cell (hcells0.cell 1), h.cell (hcells0.cell 2)⟩
  have hfin : ∀ (e : Ending) (W : World), (e = .returned (.bool true) ∧ Ext w W) → (e = .returned (.bool true) ∧ Ext w0 W) := fun e W h => ⟨h.1, hww.trans h.2⟩
  clear hcells0 hR0 hS0
  refine Calls.mono (laws_szFieldS xs A cap 1048576 (by omega) (by omega) hn _ hR (fun x hx => (hok x hx).2)) ?_
  rintro e w1 ⟨r, rfl, hr, hb1⟩
  by_cases hr0 : r < 0
  · go_wp2
    go_ret
    exact ⟨rfl, hww.trans hb1⟩
  obtain ⟨g0, g1, g2⟩ := hr.resolve_left hr0
  have hn1 : xs.length ≤ 1048576 := by omega
  clear hr
  obtain ⟨a0, a1, a2⟩ := hcells _ hb1
  have lc := World.block_lt_of_cell? _ _ a0
  dsimp only at lc
  have hs1 := fun h => szF_in (n := c.nm.size) (l := r) h g0
  go_wp2_with fail
  refine Calls.mono (laws_szCard c r (by omega) (by omega) hnm _) ?_
  rintro e w2 ⟨rfl, hb2⟩
  have hw2 := hb1.trans hb2
  clear a0 a1 a2 lc
  by_cases hr1 : szF c.nm.size r < 0
  · clear hs1
    generalize szF c.nm.size r = q1 at hr1
    go_wp2
    go_ret
    exact ⟨rfl, hww.trans hw2⟩
  obtain ⟨_, g3, g4⟩ := hs1 (by omega)
  clear hs1
  generalize szF c.nm.size r = q1 at hr1 g3 g4
  go_wp2_with fail
  refine Calls.mono (laws_szCardS cs B cap' q1 (by omega) (by omega) hm _ (hS.ext hw2) hok') ?_
  rintro e w3 ⟨r', rfl, hr', hb3⟩
  have hw3 := hw2.trans hb3
  clear hb1 hb2 hb3 hw2
  by_cases hr2 : r' < 0
  · go_wp2
    go_ret
    exact ⟨rfl, hww.trans hw3⟩
  obtain ⟨g5, g6, g7⟩ := hr'.resolve_left hr2
  have hm1 : cs.length ≤ 1048576 := by omega
  clear hr'
  have hlen := repairC_len xs c cs hn1
  have hsp := fun (a : Option Addr) (n : Nat) (a' : Option Addr) (n' : Nat) (W : World) (h : Rd encFld W a xs) (h' : Rd encCrd W a' cs) => spec_RepairCard xs a n c cs a' n' W h hn1 hok hnm h' hm1 hok'
  have him := fun (a : Option Addr) (n : Nat) (a' : Option Addr) (n' : Nat) (W : World) (h : Rd encFld W a xs) (hc : xs.length ≤ n) (h' : Rd encCrd W a' cs) => impl_RepairCard xs a n c cs a' n' W h hc hn1 hok hnm h' hm1 hok'
  generalize repairCF xs c cs = q at hlen hsp him
  obtain ⟨qc, ns, cd⟩ := q
  dsimp only at hlen hsp him
  have rq := crdB_refl qc
  obtain ⟨c0, c1, c2⟩ := hcells _ hw3
  have cw0 := True.intro
  go_wp2
  refine wp_region_any (by kernel_rfl) ?_
  change wpAny _ _ _ _ _ _ _ (World.drew _)
  refine intro_world (fun WD hWD => ?_)
  have eD : Ext w3 WD := by rw [hWD]; exact (Ext.refl _).drew
  clear hWD
  refine wpAny_take (i := 0) (v := ?_) rfl (by kernel_rfl) (by kernel_rfl) (by kernel_rfl) (fun _ _ _ h => h) (Or.inl ⟨by rfl, ?_⟩) ?_
  rotate_left
  · (intro W9; go_simp; try with_reducible rfl)
  refine wpAny_take (i := 4) (v := ?_) rfl (by kernel_rfl) (by kernel_rfl) (by kernel_rfl) (fun _ _ _ h => h) (Or.inl ⟨by rfl, ?_⟩) ?_
  rotate_left
  · (intro W9; go_simp; try with_reducible rfl)
  apply Conv.convG (C := fun b _ _ _ _ a n W => Ext w3 W ∧ BoxAt W b #[.string ⟨#[]⟩, .int .u64 0, .int .u64 0] 68 ∧ w3.heap.size ≤ b ∧ (∀ k, (Value.slice a ns.length n).ownBlock = some k → k ≠ b) ∧ Ow encI64 2 W w3.heap.size (.slice a ns.length n) ns)
  case h =>
    intro hkF
    apply Conv.convF (C := fun b a n W => Ext w3 W ∧ xs.length ≤ n ∧ Ow encFld 31 W w3.heap.size (.slice a xs.length n) xs ∧ BoxAt W b #[.string ⟨#[]⟩, .int .u64 0, .int .u64 0] 68 ∧ w3.heap.size ≤ b)
    case h =>
      intro hk1
      apply Conv.conv3 (C := fun a n W => Ext w3 W ∧ xs.length ≤ n ∧ Ow encFld 31 W w3.heap.size (.slice a xs.length n) xs)
      case h =>
        intro hk0
        have y0 := ((Ext.refl w3).trans eD).cell c0
        have y1 := ((Ext.refl w3).trans eD).cell c1
        have y2 := ((Ext.refl w3).trans eD).cell c2
        refine wpAny_ready (rs := [1, 2, 11]) (by kernel_rfl) (by simp) ?_
        refine AllReady.cons rfl (fun K hK => ?_) (AllReady.cons rfl (fun K hK => ?_) (AllReady.cons rfl (fun K hK => ?_) (AllReady.nil)))
        · go_simp
          go_wp2_with fail
          refine Calls.mono (laws_toFieldS xs A cap _ (hR.ext (hw3.trans eD)) hn1) ?_
          rintro e WA1 ⟨v1, rfl, hO1, hA1⟩
          obtain ⟨A1, n1, rfl, hle1, _⟩ := hO1.slice
          have hO1 := hO1.lower (base' := w3.heap.size) eD.size
          go_wp2_with fail
          have E1 := eD.trans hA1
          have y0 := ((Ext.refl w3).trans E1).cell c0
          have y1 := ((Ext.refl w3).trans E1).cell c1
          have y2 := ((Ext.refl w3).trans E1).cell c2
          refine wpAny_ready (rs := [2, 11]) (by kernel_rfl) (by simp) ?_
          refine AllReady.cons rfl (fun K hK => ?_) (AllReady.cons rfl (fun K hK => ?_) (AllReady.nil))
          · go_simp
            refine hK _ _ ?_
            clear hK K
            refine wpAny_ready (rs := [3, 11]) (by kernel_rfl) (by simp) ?_
            refine AllReady.cons rfl (fun K hK => ?_) (AllReady.cons rfl (fun K hK => ?_) (AllReady.nil))
            · go_simp
              go_wp2_with fail
              refine Calls.mono (htc _) ?_
              rintro e WA2 ⟨rfl, hA2⟩
              go_wp2_with fail
              have E2 := E1.trans hA2
              have hO1 := hO1.ext hA2
              exact hk0 _ _ _ ⟨E2, hle1, hO1⟩
            · go_simp
              refine hK _ _ ?_
              clear hK K
              refine intro_world (fun WN3 hW => ?_)
              have eN3 : Ext WA1 WN3 := by rw [hW]; exact (Ext.refl _).alloc _
              have BX : BoxAt WN3 WA1.heap.size #[.string ⟨#[]⟩, .int .u64 0, .int .u64 0] 68 := by rw [hW]; exact BoxAt.new' rfl
              have lbX : w3.heap.size ≤ WA1.heap.size := E1.size
              have E3 := E1.trans eN3
              have hO1 := hO1.ext eN3
              clear hW
              generalize WA1.heap.size = bX at BX lbX ⊢
              have y0 := ((Ext.refl w3).trans E3).cell c0
              have y1 := ((Ext.refl w3).trans E3).cell c1
              have y2 := ((Ext.refl w3).trans E3).cell c2
              refine wpAny_ready (rs := [3]) (by kernel_rfl) (by simp) ?_
              refine AllReady.cons rfl (fun K hK => ?_) (AllReady.nil)
              · go_simp
                go_wp2_with fail
                refine Calls.mono (htc _) ?_
                rintro e WA4 ⟨rfl, hA4⟩
                go_wp2_with fail
                have E4 := E3.trans hA4
                have hO1 := hO1.ext hA4
                have BX := BX.ext hA4
                exact hk1 _ _ _ _ ⟨E4, hle1, hO1, BX, lbX⟩
          · go_simp
            refine hK _ _ ?_
            clear hK K
            refine intro_world (fun WN5 hW => ?_)
            have eN5 : Ext WA1 WN5 := by rw [hW]; exact (Ext.refl _).alloc _
            have BX : BoxAt WN5 WA1.heap.size #[.string ⟨#[]⟩, .int .u64 0, .int .u64 0] 68 := by rw [hW]; exact BoxAt.new' rfl
            have lbX : w3.heap.size ≤ WA1.heap.size := E1.size
            have E5 := E1.trans eN5
            have hO1 := hO1.ext eN5
            clear hW
            generalize WA1.heap.size = bX at BX lbX ⊢
            have y0 := ((Ext.refl w3).trans E5).cell c0
            have y1 := ((Ext.refl w3).trans E5).cell c1
            have y2 := ((Ext.refl w3).trans E5).cell c2
            refine wpAny_ready (rs := [2]) (by kernel_rfl) (by simp) ?_
            refine AllReady.cons rfl (fun K hK => ?_) (AllReady.nil)
            · go_simp
              refine hK _ _ ?_
              clear hK K
              refine wpAny_ready (rs := [3]) (by kernel_rfl) (by simp) ?_
              refine AllReady.cons rfl (fun K hK => ?_) (AllReady.nil)
              · go_simp
                go_wp2_with fail
                refine Calls.mono (htc _) ?_
                rintro e WA6 ⟨rfl, hA6⟩
                go_wp2_with fail
                have E6 := E5.trans hA6
                have hO1 := hO1.ext hA6
                have BX := BX.ext hA6
                exact hk1 _ _ _ _ ⟨E6, hle1, hO1, BX, lbX⟩
        · go_simp
          refine hK _ _ ?_
          clear hK K
          refine wpAny_ready (rs := [1, 11]) (by kernel_rfl) (by simp) ?_
          refine AllReady.cons rfl (fun K hK => ?_) (AllReady.cons rfl (fun K hK => ?_) (AllReady.nil))
          · go_simp
            go_wp2_with fail
            refine Calls.mono (laws_toFieldS xs A cap _ (hR.ext (hw3.trans eD)) hn1) ?_
            rintro e WA7 ⟨v1, rfl, hO1, hA7⟩
            obtain ⟨A1, n1, rfl, hle1, _⟩ := hO1.slice
            have hO1 := hO1.lower (base' := w3.heap.size) eD.size
            go_wp2_with fail
            have E7 := eD.trans hA7
            have y0 := ((Ext.refl w3).trans E7).cell c0
            have y1 := ((Ext.refl w3).trans E7).cell c1
            have y2 := ((Ext.refl w3).trans E7).cell c2
            refine wpAny_ready (rs := [3, 11]) (by kernel_rfl) (by simp) ?_
            refine AllReady.cons rfl (fun K hK => ?_) (AllReady.cons rfl (fun K hK => ?_) (AllReady.nil))
            · go_simp
              go_wp2_with fail
              refine Calls.mono (htc _) ?_
              rintro e WA8 ⟨rfl, hA8⟩
              go_wp2_with fail
              have E8 := E7.trans hA8
              have hO1 := hO1.ext hA8
              exact hk0 _ _ _ ⟨E8, hle1, hO1⟩
            · go_simp
              refine hK _ _ ?_
              clear hK K
              refine intro_world (fun WN9 hW => ?_)
              have eN9 : Ext WA7 WN9 := by rw [hW]; exact (Ext.refl _).alloc _
              have BX : BoxAt WN9 WA7.heap.size #[.string ⟨#[]⟩, .int .u64 0, .int .u64 0] 68 := by rw [hW]; exact BoxAt.new' rfl
              have lbX : w3.heap.size ≤ WA7.heap.size := E7.size
              have E9 := E7.trans eN9
              have hO1 := hO1.ext eN9
              clear hW
              generalize WA7.heap.size = bX at BX lbX ⊢
              have y0 := ((Ext.refl w3).trans E9).cell c0
              have y1 := ((Ext.refl w3).trans E9).cell c1
              have y2 := ((Ext.refl w3).trans E9).cell c2
              refine wpAny_ready (rs := [3]) (by kernel_rfl) (by simp) ?_
              refine AllReady.cons rfl (fun K hK => ?_) (AllReady.nil)
              · go_simp
                go_wp2_with fail
                refine Calls.mono (htc _) ?_
                rintro e WA10 ⟨rfl, hA10⟩
                go_wp2_with fail
                have E10 := E9.trans hA10
                have hO1 := hO1.ext hA10
                have BX := BX.ext hA10
                exact hk1 _ _ _ _ ⟨E10, hle1, hO1, BX, lbX⟩
          · go_simp
            refine hK _ _ ?_
            clear hK K
            refine intro_world (fun WN11 hW => ?_)
            have eN11 : Ext WD WN11 := by rw [hW]; exact (Ext.refl _).alloc _
            have BX : BoxAt WN11 WD.heap.size #[.string ⟨#[]⟩, .int .u64 0, .int .u64 0] 68 := by rw [hW]; exact BoxAt.new' rfl
            have lbX : w3.heap.size ≤ WD.heap.size := eD.size
            have E11 := eD.trans eN11
            clear hW
            generalize WD.heap.size = bX at BX lbX ⊢
            have y0 := ((Ext.refl w3).trans E11).cell c0
            have y1 := ((Ext.refl w3).trans E11).cell c1
            have y2 := ((Ext.refl w3).trans E11).cell c2
            refine wpAny_ready (rs := [1]) (by kernel_rfl) (by simp) ?_
            refine AllReady.cons rfl (fun K hK => ?_) (AllReady.nil)
            · go_simp
              go_wp2_with fail
              refine Calls.mono (laws_toFieldS xs A cap _ (hR.ext (hw3.trans E11)) hn1) ?_
              rintro e WA12 ⟨v1, rfl, hO1, hA12⟩
              obtain ⟨A1, n1, rfl, hle1, _⟩ := hO1.slice
              have hO1 := hO1.lower (base' := w3.heap.size) E11.size
              go_wp2_with fail
              have E12 := E11.trans hA12
              have BX := BX.ext hA12
              have y0 := ((Ext.refl w3).trans E12).cell c0
              have y1 := ((Ext.refl w3).trans E12).cell c1
              have y2 := ((Ext.refl w3).trans E12).cell c2
              refine wpAny_ready (rs := [3]) (by kernel_rfl) (by simp) ?_
              refine AllReady.cons rfl (fun K hK => ?_) (AllReady.nil)
              · go_simp
                go_wp2_with fail
                refine Calls.mono (htc _) ?_
                rintro e WA13 ⟨rfl, hA13⟩
                go_wp2_with fail
                have E13 := E12.trans hA13
                have BX := BX.ext hA13
                have hO1 := hO1.ext hA13
                exact hk1 _ _ _ _ ⟨E13, hle1, hO1, BX, lbX⟩
        · go_simp
          refine hK _ _ ?_
          clear hK K
          refine intro_world (fun WN14 hW => ?_)
          have eN14 : Ext WD WN14 := by rw [hW]; exact (Ext.refl _).alloc _
          have BX : BoxAt WN14 WD.heap.size #[.string ⟨#[]⟩, .int .u64 0, .int .u64 0] 68 := by rw [hW]; exact BoxAt.new' rfl
          have lbX : w3.heap.size ≤ WD.heap.size := eD.size
          have E14 := eD.trans eN14
          clear hW
          generalize WD.heap.size = bX at BX lbX ⊢
          have y0 := ((Ext.refl w3).trans E14).cell c0
          have y1 := ((Ext.refl w3).trans E14).cell c1
          have y2 := ((Ext.refl w3).trans E14).cell c2
          refine wpAny_ready (rs := [1, 2]) (by kernel_rfl) (by simp) ?_
          refine AllReady.cons rfl (fun K hK => ?_) (AllReady.cons rfl (fun K hK => ?_) (AllReady.nil))
          · go_simp
            go_wp2_with fail
            refine Calls.mono (laws_toFieldS xs A cap _ (hR.ext (hw3.trans E14)) hn1) ?_
            rintro e WA15 ⟨v1, rfl, hO1, hA15⟩
            obtain ⟨A1, n1, rfl, hle1, _⟩ := hO1.slice
            have hO1 := hO1.lower (base' := w3.heap.size) E14.size
            go_wp2_with fail
            have E15 := E14.trans hA15
            have BX := BX.ext hA15
            have y0 := ((Ext.refl w3).trans E15).cell c0
            have y1 := ((Ext.refl w3).trans E15).cell c1
            have y2 := ((Ext.refl w3).trans E15).cell c2
            refine wpAny_ready (rs := [2]) (by kernel_rfl) (by simp) ?_
            refine AllReady.cons rfl (fun K hK => ?_) (AllReady.nil)
            · go_simp
              refine hK _ _ ?_
              clear hK K
              refine wpAny_ready (rs := [3]) (by kernel_rfl) (by simp) ?_
              refine AllReady.cons rfl (fun K hK => ?_) (AllReady.nil)
              · go_simp
                go_wp2_with fail
                refine Calls.mono (htc _) ?_
                rintro e WA16 ⟨rfl, hA16⟩
                go_wp2_with fail
                have E16 := E15.trans hA16
                have BX := BX.ext hA16
                have hO1 := hO1.ext hA16
                exact hk1 _ _ _ _ ⟨E16, hle1, hO1, BX, lbX⟩
          · go_simp
            refine hK _ _ ?_
            clear hK K
            refine wpAny_ready (rs := [1]) (by kernel_rfl) (by simp) ?_
            refine AllReady.cons rfl (fun K hK => ?_) (AllReady.nil)
            · go_simp
              go_wp2_with fail
              refine Calls.mono (laws_toFieldS xs A cap _ (hR.ext (hw3.trans E14)) hn1) ?_
              rintro e WA17 ⟨v1, rfl, hO1, hA17⟩
              obtain ⟨A1, n1, rfl, hle1, _⟩ := hO1.slice
              have hO1 := hO1.lower (base' := w3.heap.size) E14.size
              go_wp2_with fail
              have E17 := E14.trans hA17
              have BX := BX.ext hA17
              have y0 := ((Ext.refl w3).trans E17).cell c0
              have y1 := ((Ext.refl w3).trans E17).cell c1
              have y2 := ((Ext.refl w3).trans E17).cell c2
              refine wpAny_ready (rs := [3]) (by kernel_rfl) (by simp) ?_
              refine AllReady.cons rfl (fun K hK => ?_) (AllReady.nil)
              · go_simp
                go_wp2_with fail
                refine Calls.mono (htc _) ?_
                rintro e WA18 ⟨rfl, hA18⟩
                go_wp2_with fail
                have E18 := E17.trans hA18
                have BX := BX.ext hA18
                have hO1 := hO1.ext hA18
                exact hk1 _ _ _ _ ⟨E18, hle1, hO1, BX, lbX⟩
      intro A1 n1 W0 ⟨E0, hle1, hO1⟩
      refine wpAny_ready (rs := [5, 11]) (by kernel_rfl) (by simp) ?_
      refine AllReady.cons rfl (fun K hK => ?_) (AllReady.cons rfl (fun K hK => ?_) (AllReady.nil))
      · go_simp
        go_wp2_with fail
        refine Calls.mono (laws_toCardS cs B cap' _ (hS.ext (hw3.trans E0)) hm1) ?_
        rintro e WA19 ⟨v5, rfl, hO5, hA19⟩
        obtain ⟨A5, n5, rfl, hle5, _⟩ := hO5.slice
        go_wp2_with fail
        have E19 := E0.trans hA19
        have hO1 := hO1.ext hA19
        refine wpAny_ready (rs := [6, 11]) (by kernel_rfl) (by simp) ?_
        refine AllReady.cons rfl (fun K hK => ?_) (AllReady.cons rfl (fun K hK => ?_) (AllReady.nil))
        · go_simp
          go_wp2_with fail
          refine Calls.mono (hsp A1 n1 A5 n5 _ hO1.rdA hO5.rdA) ?_
          rintro e WA20 ⟨v6, rfl, hO6, hA20⟩
          obtain ⟨A6, n6, rfl, hle6, _⟩ := hO6.slice
          have hV := hO6
          go_wp2_with fail
          have E20 := E19.trans hA20
          have hO1 := hO1.ext hA20
          have hO5 := hO5.ext hA20
          have hO6 := hO6.lower (base' := w3.heap.size) E19.size
          refine wpAny_take (i := 7) (v := ?_) rfl (by kernel_rfl) (by kernel_rfl) (by kernel_rfl) (fun _ _ _ h => h) (Or.inl ⟨by rfl, ?_⟩) ?_
          rotate_left
          · (intro W9; go_simp; try with_reducible rfl)
          refine wpAny_take (i := 8) (v := ?_) rfl (by kernel_rfl) (by kernel_rfl) (by kernel_rfl) (fun _ _ _ h => h) (Or.inl ⟨by rfl, ?_⟩) ?_
          rotate_left
          · (intro W9; go_simp; try with_reducible rfl)
          refine wpAny_take (i := 9) (v := ?_) rfl (by kernel_rfl) (by kernel_rfl) (by kernel_rfl) (fun _ _ _ h => h) (Or.inl ⟨by rfl, ?_⟩) ?_
          rotate_left
          · (intro W9; go_simp; try with_reducible rfl)
          refine wpAny_take (i := 10) (v := ?_) rfl (by kernel_rfl) (by kernel_rfl) (by kernel_rfl) (fun _ _ _ h => h) (Or.inl ⟨by rfl, ?_⟩) ?_
          rotate_left
          · (intro W9; go_simp; try with_reducible rfl)
          refine wpAny_ready (rs := [11]) (by kernel_rfl) (by simp) ?_
          refine AllReady.cons rfl (fun K hK => ?_) (AllReady.nil)
          go_simp
          refine hK _ _ ?_
          clear hK K
          refine intro_world (fun WN21 hW => ?_)
          have eN21 : Ext WA20 WN21 := by rw [hW]; exact (Ext.refl _).alloc _
          have BX : BoxAt WN21 WA20.heap.size #[.string ⟨#[]⟩, .int .u64 0, .int .u64 0] 68 := by rw [hW]; exact BoxAt.new' rfl
          have lbX : w3.heap.size ≤ WA20.heap.size := E20.size
          have E21 := E20.trans eN21
          have hO1 := hO1.ext eN21
          have hO5 := hO5.ext eN21
          have hne : ∀ k, (Value.slice A6 ns.length n6).ownBlock = some k → k ≠ WA20.heap.size := fun k h => by have := (hV.lt k h).2; omega
          clear hW
          generalize WA20.heap.size = bX at BX lbX hne ⊢
          have hO6 := hO6.ext eN21
          exact hkF bX A1 n1 A5 n5 A6 n6 WN21 ⟨E21, BX, lbX, hne, hO6⟩
        · go_simp
          refine hK _ _ ?_
          clear hK K
          refine intro_world (fun WN22 hW => ?_)
          have eN22 : Ext WA19 WN22 := by rw [hW]; exact (Ext.refl _).alloc _
          have BX : BoxAt WN22 WA19.heap.size #[.string ⟨#[]⟩, .int .u64 0, .int .u64 0] 68 := by rw [hW]; exact BoxAt.new' rfl
          have lbX : w3.heap.size ≤ WA19.heap.size := E19.size
          have E22 := E19.trans eN22
          have hO1 := hO1.ext eN22
          have hO5 := hO5.ext eN22
          clear hW
          generalize WA19.heap.size = bX at BX lbX ⊢
          have BXl := BX.lt
          refine wpAny_ready (rs := [6]) (by kernel_rfl) (by simp) ?_
          refine AllReady.cons rfl (fun K hK => ?_) ?_
          rotate_left
          · exact AllReady.nil
          go_simp
          go_wp2_with fail
          refine Calls.mono (hsp A1 n1 A5 n5 _ hO1.rdA hO5.rdA) ?_
          rintro e WA23 ⟨v6, rfl, hO6, hA23⟩
          obtain ⟨A6, n6, rfl, hle6, _⟩ := hO6.slice
          have hV := hO6
          go_wp2_with fail
          have E23 := E22.trans hA23
          have hO1 := hO1.ext hA23
          have hO5 := hO5.ext hA23
          have BX := BX.ext hA23
          have hne : ∀ k, (Value.slice A6 ns.length n6).ownBlock = some k → k ≠ bX := fun k h => by have := (hV.lt k h).1; have := BXl; omega
          have hO6 := hO6.lower (base' := w3.heap.size) E22.size
          refine wpAny_take (i := 7) (v := ?_) rfl (by kernel_rfl) (by kernel_rfl) (by kernel_rfl) (fun _ _ _ h => h) (Or.inl ⟨by rfl, ?_⟩) ?_
          rotate_left
          · (intro W9; go_simp; try with_reducible rfl)
          refine wpAny_take (i := 8) (v := ?_) rfl (by kernel_rfl) (by kernel_rfl) (by kernel_rfl) (fun _ _ _ h => h) (Or.inl ⟨by rfl, ?_⟩) ?_
          rotate_left
          · (intro W9; go_simp; try with_reducible rfl)
          refine wpAny_take (i := 9) (v := ?_) rfl (by kernel_rfl) (by kernel_rfl) (by kernel_rfl) (fun _ _ _ h => h) (Or.inl ⟨by rfl, ?_⟩) ?_
          rotate_left
          · (intro W9; go_simp; try with_reducible rfl)
          refine wpAny_take (i := 10) (v := ?_) rfl (by kernel_rfl) (by kernel_rfl) (by kernel_rfl) (fun _ _ _ h => h) (Or.inl ⟨by rfl, ?_⟩) ?_
          rotate_left
          · (intro W9; go_simp; try with_reducible rfl)
          exact hkF bX A1 n1 A5 n5 A6 n6 WA23 ⟨E23, BX, lbX, hne, hO6⟩
      · go_simp
        refine hK _ _ ?_
        clear hK K
        refine intro_world (fun WN24 hW => ?_)
        have eN24 : Ext W0 WN24 := by rw [hW]; exact (Ext.refl _).alloc _
        have BX : BoxAt WN24 W0.heap.size #[.string ⟨#[]⟩, .int .u64 0, .int .u64 0] 68 := by rw [hW]; exact BoxAt.new' rfl
        have lbX : w3.heap.size ≤ W0.heap.size := E0.size
        have E24 := E0.trans eN24
        have hO1 := hO1.ext eN24
        clear hW
        generalize W0.heap.size = bX at BX lbX ⊢
        refine wpAny_ready (rs := [5]) (by kernel_rfl) (by simp) ?_
        refine AllReady.cons rfl (fun K hK => ?_) ?_
        rotate_left
        · exact AllReady.nil
        go_simp
        go_wp2_with fail
        refine Calls.mono (laws_toCardS cs B cap' _ (hS.ext (hw3.trans E24)) hm1) ?_
        rintro e WA25 ⟨v5, rfl, hO5, hA25⟩
        obtain ⟨A5, n5, rfl, hle5, _⟩ := hO5.slice
        go_wp2_with fail
        have E25 := E24.trans hA25
        have hO1 := hO1.ext hA25
        have BX := BX.ext hA25
        have BXl := BX.lt
        refine wpAny_ready (rs := [6]) (by kernel_rfl) (by simp) ?_
        refine AllReady.cons rfl (fun K hK => ?_) ?_
        rotate_left
        · exact AllReady.nil
        go_simp
        go_wp2_with fail
        refine Calls.mono (hsp A1 n1 A5 n5 _ hO1.rdA hO5.rdA) ?_
        rintro e WA26 ⟨v6, rfl, hO6, hA26⟩
        obtain ⟨A6, n6, rfl, hle6, _⟩ := hO6.slice
        have hV := hO6
        go_wp2_with fail
        have E26 := E25.trans hA26
        have hO1 := hO1.ext hA26
        have BX := BX.ext hA26
        have hO5 := hO5.ext hA26
        have hne : ∀ k, (Value.slice A6 ns.length n6).ownBlock = some k → k ≠ bX := fun k h => by have := (hV.lt k h).1; have := BXl; omega
        have hO6 := hO6.lower (base' := w3.heap.size) E25.size
        refine wpAny_take (i := 7) (v := ?_) rfl (by kernel_rfl) (by kernel_rfl) (by kernel_rfl) (fun _ _ _ h => h) (Or.inl ⟨by rfl, ?_⟩) ?_
        rotate_left
        · (intro W9; go_simp; try with_reducible rfl)
        refine wpAny_take (i := 8) (v := ?_) rfl (by kernel_rfl) (by kernel_rfl) (by kernel_rfl) (fun _ _ _ h => h) (Or.inl ⟨by rfl, ?_⟩) ?_
        rotate_left
        · (intro W9; go_simp; try with_reducible rfl)
        refine wpAny_take (i := 9) (v := ?_) rfl (by kernel_rfl) (by kernel_rfl) (by kernel_rfl) (fun _ _ _ h => h) (Or.inl ⟨by rfl, ?_⟩) ?_
        rotate_left
        · (intro W9; go_simp; try with_reducible rfl)
        refine wpAny_take (i := 10) (v := ?_) rfl (by kernel_rfl) (by kernel_rfl) (by kernel_rfl) (fun _ _ _ h => h) (Or.inl ⟨by rfl, ?_⟩) ?_
        rotate_left
        · (intro W9; go_simp; try with_reducible rfl)
        exact hkF bX A1 n1 A5 n5 A6 n6 WA26 ⟨E26, BX, lbX, hne, hO6⟩
    intro bX A1 n1 W1 ⟨E1, hle1, hO1, BX, lbX⟩
    refine wpAny_ready (rs := [5]) (by kernel_rfl) (by simp) ?_
    refine AllReady.cons rfl (fun K hK => ?_) ?_
    rotate_left
    · exact AllReady.nil
    go_simp
    go_wp2_with fail
    refine Calls.mono (laws_toCardS cs B cap' _ (hS.ext (hw3.trans E1)) hm1) ?_
    rintro e WA27 ⟨v5, rfl, hO5, hA27⟩
    obtain ⟨A5, n5, rfl, hle5, _⟩ := hO5.slice
    go_wp2_with fail
    have E27 := E1.trans hA27
    have hO1 := hO1.ext hA27
    have BX := BX.ext hA27
    have BXl := BX.lt
    refine wpAny_ready (rs := [6]) (by kernel_rfl) (by simp) ?_
    refine AllReady.cons rfl (fun K hK => ?_) ?_
    rotate_left
    · exact AllReady.nil
    go_simp
    go_wp2_with fail
    refine Calls.mono (hsp A1 n1 A5 n5 _ hO1.rdA hO5.rdA) ?_
    rintro e WA28 ⟨v6, rfl, hO6, hA28⟩
    obtain ⟨A6, n6, rfl, hle6, _⟩ := hO6.slice
    have hV := hO6
    go_wp2_with fail
    have E28 := E27.trans hA28
    have hO1 := hO1.ext hA28
    have BX := BX.ext hA28
    have hO5 := hO5.ext hA28
    have hne : ∀ k, (Value.slice A6 ns.length n6).ownBlock = some k → k ≠ bX := fun k h => by have := (hV.lt k h).1; have := BXl; omega
    have hO6 := hO6.lower (base' := w3.heap.size) E27.size
    refine wpAny_take (i := 7) (v := ?_) rfl (by kernel_rfl) (by kernel_rfl) (by kernel_rfl) (fun _ _ _ h => h) (Or.inl ⟨by rfl, ?_⟩) ?_
    rotate_left
    · (intro W9; go_simp; try with_reducible rfl)
    refine wpAny_take (i := 8) (v := ?_) rfl (by kernel_rfl) (by kernel_rfl) (by kernel_rfl) (fun _ _ _ h => h) (Or.inl ⟨by rfl, ?_⟩) ?_
    rotate_left
    · (intro W9; go_simp; try with_reducible rfl)
    refine wpAny_take (i := 9) (v := ?_) rfl (by kernel_rfl) (by kernel_rfl) (by kernel_rfl) (fun _ _ _ h => h) (Or.inl ⟨by rfl, ?_⟩) ?_
    rotate_left
    · (intro W9; go_simp; try with_reducible rfl)
    refine wpAny_take (i := 10) (v := ?_) rfl (by kernel_rfl) (by kernel_rfl) (by kernel_rfl) (fun _ _ _ h => h) (Or.inl ⟨by rfl, ?_⟩) ?_
    rotate_left
    · (intro W9; go_simp; try with_reducible rfl)
    exact hkF bX A1 n1 A5 n5 A6 n6 WA28 ⟨E28, BX, lbX, hne, hO6⟩
  intro bX A1 n1 A5 n5 A6 n6 WF ⟨EF, BX, lbX, hneX, hO6⟩
  have b0 := BX.cell 0
  have b1 := BX.cell 1
  have b2 := BX.cell 2
  have bf0 := BX.frozen 0
  have bf1 := BX.frozen 1
  have bf2 := BX.frozen 2
  have lB := BX.lt
  refine wpAny_ready (rs := [12]) (by kernel_rfl) (by simp) ?_
  refine AllReady.cons rfl (fun K hK => ?_) ?_
  rotate_left
  · exact AllReady.nil
  go_simp
  refine hK _ _ ?_
  clear hK K
  refine wpAny_ready (rs := [13]) (by kernel_rfl) (by simp) ?_
  refine AllReady.cons rfl (fun K hK => ?_) ?_
  rotate_left
  · exact AllReady.nil
  go_simp
  refine hK _ _ ?_
  clear hK K
  refine wpAny_ready (rs := [14]) (by kernel_rfl) (by simp) ?_
  refine AllReady.cons rfl (fun K hK => ?_) ?_
  rotate_left
  · exact AllReady.nil
  go_simp
  refine hK _ _ ?_
  clear hK K
  refine wpAny_done (by kernel_rfl) ?_ _
  have BX2 : BoxAt (((WF.setCell ⟨bX, 0, none⟩ (.string qc.nm)).setCell ⟨bX, 1, none⟩ (.int .u64 (lo qc.m))).setCell ⟨bX, 2, none⟩ (.int .u64 (hi qc.m))) bX #[.string qc.nm, .int .u64 (lo qc.m), .int .u64 (hi qc.m)] 68 := ((BX.set 0 _).set 1 _).set 2 _
  have hE2 : Ext w3 (((WF.setCell ⟨bX, 0, none⟩ (.string qc.nm)).setCell ⟨bX, 1, none⟩ (.int .u64 (lo qc.m))).setCell ⟨bX, 2, none⟩ (.int .u64 (hi qc.m))) := Ext.set lbX (Ext.set lbX (Ext.set lbX EF _) _) _
  have hneb : (Value.slice A6 ns.length n6).ownBlock ≠ some bX := fun h => hneX _ h rfl
  have hO62 : Ow encI64 2 (((WF.setCell ⟨bX, 0, none⟩ (.string qc.nm)).setCell ⟨bX, 1, none⟩ (.int .u64 (lo qc.m))).setCell ⟨bX, 2, none⟩ (.int .u64 (hi qc.m))) w3.heap.size (.slice A6 ns.length n6) ns := ((hO6.far (p := ⟨bX, 0, none⟩) hneb _).far (p := ⟨bX, 1, none⟩) hneb _).far (p := ⟨bX, 2, none⟩) hneb _
  clear b0 b1 b2 bf0 bf1 bf2 lB BX hO6 EF hneX
  go_wp2_with fail
  generalize (((WF.setCell ⟨bX, 0, none⟩ (.string qc.nm)).setCell ⟨bX, 1, none⟩ (.int .u64 (lo qc.m))).setCell ⟨bX, 2, none⟩ (.int .u64 (hi qc.m))) = W4 at BX2 hE2 hO62
  have h4 := hw3.trans hE2
  have lbx4 := BX2.lt
  have hV4 := hO62
  refine Calls.mono (laws_toFieldS xs A cap _ (hR.ext h4) hn1) ?_
  rintro e w7 ⟨v7, rfl, hO7, hb7⟩
  obtain ⟨A7, cap7, rfl, hle7, _⟩ := hO7.slice
  have h7 := h4.trans hb7
  have BX2 := BX2.ext hb7
  have hO62 := hO62.ext hb7
  have bs6 := hO62
  have bs7 := hO7
  have ap67 : Apart (.slice A6 ns.length n6) (.slice A7 xs.length cap7) := Apart.of hV4 bs7 (Nat.le_refl _)
  go_wp2_with fail
  refine Calls.mono (laws_toCardS cs B cap' _ (hS.ext h7) hm1) ?_
  rintro e w8 ⟨v8, rfl, hO8, hb8⟩
  obtain ⟨A8, cap8, rfl, hle8, _⟩ := hO8.slice
  have h8 := h7.trans hb8
  have BX2 := BX2.ext hb8
  have hO62 := hO62.ext hb8
  have hO7 := hO7.ext hb8
  have bs8 := hO8
  have ap68 : Apart (.slice A6 ns.length n6) (.slice A8 cs.length cap8) := Apart.of hV4 bs8 hb7.size
  have ap87 := Apart.of' bs7 bs8 (Nat.le_refl _)
  have y0 := (hE2.trans (hb7.trans hb8)).cell c0
  have y1 := (hE2.trans (hb7.trans hb8)).cell c1
  have y2 := (hE2.trans (hb7.trans hb8)).cell c2
  have ly := World.block_lt_of_cell? _ _ y0
  dsimp only at ly
  go_wp2_with fail
  refine Calls.mono (htc _) ?_
  rintro e w9 ⟨rfl, hb9⟩
  have h9 := h8.trans hb9
  have BX2 := BX2.ext hb9
  have hO62 := hO62.ext hb9
  have hO7 := hO7.ext hb9
  have hO8 := hO8.ext hb9
  clear y0 y1 y2 ly
  go_wp2_with fail
  refine Calls.mono (him A7 cap7 A8 cap8 _ hO7.rdA hle7 hO8.rdA) ?_
  rintro e w10 ⟨v10, rfl, hO10, hb10⟩
  obtain ⟨A10, cap10, rfl, hle10, _⟩ := hO10.slice
  have h10 := h9.trans hb10
  have BX2 := BX2.ext hb10
  have hO62 := hO62.ext hb10
  have hO7 := hO7.ext hb10
  have hO8 := hO8.ext hb10
  have bs10 := hO10
  have ap610 : Apart (.slice A6 ns.length n6) (.slice A10 ns.length cap10) := Apart.of hV4 bs10 ((hb7.trans hb8).trans hb9).size
  have ap107 := Apart.of' bs7 bs10 (hb8.trans hb9).size
  have ap108 := Apart.of' bs8 bs10 hb9.size
  have base7 : w.heap.size ≤ W4.heap.size := h4.size
  have base8 : w.heap.size ≤ w7.heap.size := h7.size
  have base10 : w.heap.size ≤ w9.heap.size := h9.size
  have s7 := hb7.size
  have s8 := hb8.size
  have s9 := hb9.size
  have s10 := hb10.size
  have n7 : ∀ k, (Value.slice A7 xs.length cap7).ownBlock = some k → W4.heap.size ≤ k ∧ k < w7.heap.size := fun k h => bs7.lt k h
  have n8 : ∀ k, (Value.slice A8 cs.length cap8).ownBlock = some k → w7.heap.size ≤ k ∧ k < w8.heap.size := fun k h => bs8.lt k h
  have n10 : ∀ k, (Value.slice A10 ns.length cap10).ownBlock = some k → w9.heap.size ≤ k ∧ k < w10.heap.size := fun k h => bs10.lt k h
  have u0 : w10.cell? ⟨bX, 0, none⟩ = some (.string qc.nm) := BX2.cell 0
  have u1 : w10.cell? ⟨bX, 1, none⟩ = some (.int .u64 (lo qc.m)) := BX2.cell 1
  have u2 : w10.cell? ⟨bX, 2, none⟩ = some (.int .u64 (hi qc.m)) := BX2.cell 2
  have lu := BX2.lt
  have lun : ¬ bX = w10.heap.size := by omega
  go_wp2_with fail
  have hBG : BoxAt (w10.alloc (.cells #[.string qc.nm, .int .u64 (lo qc.m), .int .u64 (hi qc.m)] 68)) w10.heap.size #[.string qc.nm, .int .u64 (lo qc.m), .int .u64 (hi qc.m)] 68 := BoxAt.new' rfl
  have hb11 : Ext w10 (w10.alloc (.cells #[.string qc.nm, .int .u64 (lo qc.m), .int .u64 (hi qc.m)] 68)) := (Ext.refl _).alloc _
  clear u0 u1 u2 lu lun
  generalize w10.alloc (.cells #[.string qc.nm, .int .u64 (lo qc.m), .int .u64 (hi qc.m)] 68) = w11 at hb11 hBG ⊢
  obtain ⟨bG, hbG⟩ : ∃ n, n = w10.heap.size := ⟨_, rfl⟩
  rw [← hbG] at hBG ⊢
  have hbGn := hd hbG
  clear hbG
  have h11 := h10.trans hb11
  have BX2 := BX2.ext hb11
  have hO62 := hO62.ext hb11
  have hO7 := hO7.ext hb11
  have hO8 := hO8.ext hb11
  have hO10 := hO10.ext hb11
  refine Calls.mono (laws_eqCard qc qc _) ?_
  rintro e w12 ⟨rfl, hb12⟩
  rw [rq]
  have h12 := h11.trans hb12
  have BX2 := BX2.ext hb12
  have hO62 := hO62.ext hb12
  have hO7 := hO7.ext hb12
  have hO8 := hO8.ext hb12
  have hO10 := hO10.ext hb12
  have hBG := hBG.ext hb12
  go_wp2_with fail
  refine Calls.mono (laws_eqInt64S ns _ _ _ _ _ hO10.rdA hO62.rdA hlen) ?_
  rintro e w13 ⟨rfl, hb13⟩
  have h13 := h12.trans hb13
  have BX2 := BX2.ext hb13
  have hO62 := hO62.ext hb13
  have hO7 := hO7.ext hb13
  have hO8 := hO8.ext hb13
  have hO10 := hO10.ext hb13
  have hBG := hBG.ext hb13
  go_wp2_with fail
  refine Calls.mono (laws_toFieldS xs A cap _ (hR.ext h13) hn1) ?_
  rintro e w14 ⟨v14, rfl, hO14, hb14⟩
  obtain ⟨A14, cap14, rfl, hle14, _⟩ := hO14.slice
  have h14 := h13.trans hb14
  have BX2 := BX2.ext hb14
  have hO62 := hO62.ext hb14
  have hO7 := hO7.ext hb14
  have hO8 := hO8.ext hb14
  have hO10 := hO10.ext hb14
  have hBG := hBG.ext hb14
  go_wp2_with fail
  refine Calls.mono (laws_eqFieldS xs xs _ _ _ _ _ hO7.rdA hO14.rdA hn1 hn1) ?_
  rintro e w15 ⟨rfl, hb15⟩
  rw [rr]
  clear hO14
  have h15 := h14.trans hb15
  have BX2 := BX2.ext hb15
  have hO62 := hO62.ext hb15
  have hO7 := hO7.ext hb15
  have hO8 := hO8.ext hb15
  have hO10 := hO10.ext hb15
  have hBG := hBG.ext hb15
  go_wp2_with fail
  refine Calls.mono (laws_toCardS cs B cap' _ (hS.ext h15) hm1) ?_
  rintro e w16 ⟨v16, rfl, hO16, hb16⟩
  obtain ⟨A16, cap16, rfl, hle16, _⟩ := hO16.slice
  have h16 := h15.trans hb16
  have BX2 := BX2.ext hb16
  have hO62 := hO62.ext hb16
  have hO7 := hO7.ext hb16
  have hO8 := hO8.ext hb16
  have hO10 := hO10.ext hb16
  have hBG := hBG.ext hb16
  go_wp2_with fail
  refine Calls.mono (laws_eqCardS cs cs _ _ _ _ _ hO8.rdA hO16.rdA hm1 hm1) ?_
  rintro e w17 ⟨rfl, hb17⟩
  rw [rc]
  clear hO16
  have h17 := h16.trans hb17
  have BX2 := BX2.ext hb17
  have hO62 := hO62.ext hb17
  have hO7 := hO7.ext hb17
  have hO8 := hO8.ext hb17
  have hO10 := hO10.ext hb17
  have hBG := hBG.ext hb17
  go_wp2_with fail
  refine Calls.mono (laws_markFieldS xs _ 1 _ _ hO7 hn1 (by omega)) ?_
  rintro e w18 ⟨rfl, gr18⟩
  have h18 := h17.mark hO7 base7 gr18
  have hO62 := hO62.apart gr18 ap67
  have hO8 := hO8.apart gr18 ap87
  have hO10 := hO10.apart gr18 ap107
  have BX2 : BoxAt _ bX _ 68 := (gr18.block bX BX2.lt (fun e => by have := n7 _ e.symm; omega)).trans BX2
  have hBG : BoxAt _ bG _ 68 := (gr18.block bG hBG.lt (fun e => by have := n7 _ e.symm; have := hbGn.out; omega)).trans hBG
  clear gr18 ap67 ap87 ap107
  clear hO7
  have hmk := laws_markCardS cs _ (1 + 4 * xs.length) _ _ hO8 hm1 (by omega)
  rw [show ((1 + 4 * xs.length : Nat) : Int) = 1 + 4 * (xs.length : Int) by omega] at hmk
  go_wp2_with fail
  refine Calls.mono hmk ?_
  rintro e w19 ⟨rfl, gr19⟩
  have h19 := h18.mark hO8 base8 gr19
  have hO62 := hO62.apart gr19 ap68
  have hO10 := hO10.apart gr19 ap108
  have BX2 : BoxAt _ bX _ 68 := (gr19.block bX BX2.lt (fun e => by have := n8 _ e.symm; omega)).trans BX2
  have hBG : BoxAt _ bG _ 68 := (gr19.block bG hBG.lt (fun e => by have := n8 _ e.symm; have := hbGn.out; omega)).trans hBG
  clear gr19 ap68 ap108 hmk
  clear hO8
  have hkk : ¬ ((1 : Int) + 4 * xs.length + 3 * cs.length < 0) := by omega
  have u0 : w19.cell? ⟨bX, 0, none⟩ = some (.string qc.nm) := BX2.cell 0
  have u1 : w19.cell? ⟨bX, 1, none⟩ = some (.int .u64 (lo qc.m)) := BX2.cell 1
  have u2 : w19.cell? ⟨bX, 2, none⟩ = some (.int .u64 (hi qc.m)) := BX2.cell 2
  have z0 : w19.cell? ⟨bG, 0, none⟩ = some (.string qc.nm) := hBG.cell 0
  have z1 : w19.cell? ⟨bG, 1, none⟩ = some (.int .u64 (lo qc.m)) := hBG.cell 1
  have z2 : w19.cell? ⟨bG, 2, none⟩ = some (.int .u64 (hi qc.m)) := hBG.cell 2
  have lu := BX2.lt
  have lz := hBG.lt
  go_wp2_with fail
  refine Calls.mono (laws_eqCard qc qc _) ?_
  rintro e w20 ⟨rfl, hb20⟩
  rw [rq]
  have h20 := h19.trans hb20
  have BX2 := BX2.ext hb20
  have hO62 := hO62.ext hb20
  have hO10 := hO10.ext hb20
  have hBG := hBG.ext hb20
  clear u0 u1 u2 z0 z1 z2 lu lz
  clear hBG
  go_wp2_with fail
  refine Calls.mono (laws_eqInt64S ns _ _ _ _ _ hO10.rdA hO62.rdA hlen) ?_
  rintro e w21 ⟨rfl, hb21⟩
  have h21 := h20.trans hb21
  have BX2 := BX2.ext hb21
  have hO62 := hO62.ext hb21
  have hO10 := hO10.ext hb21
  go_wp2_with fail
  refine Calls.mono (laws_markInt64S ns _ 1 _ _ hO10 hlen (by omega)) ?_
  rintro e w22 ⟨rfl, hM10, gr22⟩
  have h22 := h21.mark hO10 base10 gr22
  have hO62 := hO62.apart gr22 ap610
  have BX2 : BoxAt _ bX _ 68 := (gr22.block bX BX2.lt (fun e => by have := n10 _ e.symm; omega)).trans BX2
  clear gr22 ap610
  clear hO10
  go_wp2_with fail
  refine Calls.mono (laws_heldInt64S ns.length _ _ 1 _ hM10.rdA hlen (by omega)) ?_
  rintro e w23 ⟨rfl, hb23⟩
  have h23 := h22.trans hb23
  have BX2 := BX2.ext hb23
  have hO62 := hO62.ext hb23
  have hM10 := hM10.ext hb23
  have hz := h23
  have d0 := cw0
  obtain ⟨k0, k1, k2⟩ := hcells _ h23
  clear c0 c1 c2
  have c0 := k0
  have c1 := k1
  have c2 := k2
  clear hE2
  go_wp2
  refine wp_region_any (by kernel_rfl) ?_
  change wpAny _ _ _ _ _ _ _ (World.drew _)
  refine intro_world (fun WD hWD => ?_)
  have eD : Ext w23 WD := by rw [hWD]; exact (Ext.refl _).drew
  clear hWD
  refine wpAny_take (i := 0) (v := ?_) rfl (by kernel_rfl) (by kernel_rfl) (by kernel_rfl) (fun _ _ _ h => h) (Or.inl ⟨by rfl, ?_⟩) ?_
  rotate_left
  · (intro W9; go_simp; try with_reducible rfl)
  refine wpAny_take (i := 4) (v := ?_) rfl (by kernel_rfl) (by kernel_rfl) (by kernel_rfl) (fun _ _ _ h => h) (Or.inl ⟨by rfl, ?_⟩) ?_
  rotate_left
  · (intro W9; go_simp; try with_reducible rfl)
  apply Conv.convG (C := fun b _ _ _ _ a n W => Ext w23 W ∧ BoxAt W b #[.string ⟨#[]⟩, .int .u64 0, .int .u64 0] 68 ∧ w23.heap.size ≤ b ∧ (∀ k, (Value.slice a ns.length n).ownBlock = some k → k ≠ b) ∧ Ow encI64 2 W w23.heap.size (.slice a ns.length n) ns)
  case h =>
    intro hkF
    apply Conv.convF (C := fun b a n W => Ext w23 W ∧ xs.length ≤ n ∧ Ow encFld 31 W w23.heap.size (.slice a xs.length n) xs ∧ BoxAt W b #[.string ⟨#[]⟩, .int .u64 0, .int .u64 0] 68 ∧ w23.heap.size ≤ b)
    case h =>
      intro hk1
      apply Conv.conv3 (C := fun a n W => Ext w23 W ∧ xs.length ≤ n ∧ Ow encFld 31 W w23.heap.size (.slice a xs.length n) xs)
      case h =>
        intro hk0
        have y0 := ((Ext.refl w23).trans eD).cell c0
        have y1 := ((Ext.refl w23).trans eD).cell c1
        have y2 := ((Ext.refl w23).trans eD).cell c2
        refine wpAny_ready (rs := [1, 2, 11]) (by kernel_rfl) (by simp) ?_
        refine AllReady.cons rfl (fun K hK => ?_) (AllReady.cons rfl (fun K hK => ?_) (AllReady.cons rfl (fun K hK => ?_) (AllReady.nil)))
        · go_simp
          go_wp2_with fail
          refine Calls.mono (laws_toFieldS xs A cap _ (hR.ext (h23.trans eD)) hn1) ?_
          rintro e WA101 ⟨v1, rfl, hO1, hA101⟩
          obtain ⟨A1, n1, rfl, hle1, _⟩ := hO1.slice
          have hO1 := hO1.lower (base' := w23.heap.size) eD.size
          go_wp2_with fail
          have E101 := eD.trans hA101
          have y0 := ((Ext.refl w23).trans E101).cell c0
          have y1 := ((Ext.refl w23).trans E101).cell c1
          have y2 := ((Ext.refl w23).trans E101).cell c2
          refine wpAny_ready (rs := [2, 11]) (by kernel_rfl) (by simp) ?_
          refine AllReady.cons rfl (fun K hK => ?_) (AllReady.cons rfl (fun K hK => ?_) (AllReady.nil))
          · go_simp
            refine hK _ _ ?_
            clear hK K
            refine wpAny_ready (rs := [3, 11]) (by kernel_rfl) (by simp) ?_
            refine AllReady.cons rfl (fun K hK => ?_) (AllReady.cons rfl (fun K hK => ?_) (AllReady.nil))
            · go_simp
              go_wp2_with fail
              refine Calls.mono (htc _) ?_
              rintro e WA102 ⟨rfl, hA102⟩
              go_wp2_with fail
              have E102 := E101.trans hA102
              have hO1 := hO1.ext hA102
              exact hk0 _ _ _ ⟨E102, hle1, hO1⟩
            · go_simp
              refine hK _ _ ?_
              clear hK K
              refine intro_world (fun WN103 hW => ?_)
              have eN103 : Ext WA101 WN103 := by rw [hW]; exact (Ext.refl _).alloc _
              have BX : BoxAt WN103 WA101.heap.size #[.string ⟨#[]⟩, .int .u64 0, .int .u64 0] 68 := by rw [hW]; exact BoxAt.new' rfl
              have lbX : w23.heap.size ≤ WA101.heap.size := E101.size
              have E103 := E101.trans eN103
              have hO1 := hO1.ext eN103
              clear hW
              generalize WA101.heap.size = bY at BX lbX ⊢
              have y0 := ((Ext.refl w23).trans E103).cell c0
              have y1 := ((Ext.refl w23).trans E103).cell c1
              have y2 := ((Ext.refl w23).trans E103).cell c2
              refine wpAny_ready (rs := [3]) (by kernel_rfl) (by simp) ?_
              refine AllReady.cons rfl (fun K hK => ?_) (AllReady.nil)
              · go_simp
                go_wp2_with fail
                refine Calls.mono (htc _) ?_
                rintro e WA104 ⟨rfl, hA104⟩
                go_wp2_with fail
                have E104 := E103.trans hA104
                have hO1 := hO1.ext hA104
                have BX := BX.ext hA104
                exact hk1 _ _ _ _ ⟨E104, hle1, hO1, BX, lbX⟩
          · go_simp
            refine hK _ _ ?_
            clear hK K
            refine intro_world (fun WN105 hW => ?_)
            have eN105 : Ext WA101 WN105 := by rw [hW]; exact (Ext.refl _).alloc _
            have BX : BoxAt WN105 WA101.heap.size #[.string ⟨#[]⟩, .int .u64 0, .int .u64 0] 68 := by rw [hW]; exact BoxAt.new' rfl
            have lbX : w23.heap.size ≤ WA101.heap.size := E101.size
            have E105 := E101.trans eN105
            have hO1 := hO1.ext eN105
            clear hW
            generalize WA101.heap.size = bY at BX lbX ⊢
            have y0 := ((Ext.refl w23).trans E105).cell c0
            have y1 := ((Ext.refl w23).trans E105).cell c1
            have y2 := ((Ext.refl w23).trans E105).cell c2
            refine wpAny_ready (rs := [2]) (by kernel_rfl) (by simp) ?_
            refine AllReady.cons rfl (fun K hK => ?_) (AllReady.nil)
            · go_simp
              refine hK _ _ ?_
              clear hK K
              refine wpAny_ready (rs := [3]) (by kernel_rfl) (by simp) ?_
              refine AllReady.cons rfl (fun K hK => ?_) (AllReady.nil)
              · go_simp
                go_wp2_with fail
                refine Calls.mono (htc _) ?_
                rintro e WA106 ⟨rfl, hA106⟩
                go_wp2_with fail
                have E106 := E105.trans hA106
                have hO1 := hO1.ext hA106
                have BX := BX.ext hA106
                exact hk1 _ _ _ _ ⟨E106, hle1, hO1, BX, lbX⟩
        · go_simp
          refine hK _ _ ?_
          clear hK K
          refine wpAny_ready (rs := [1, 11]) (by kernel_rfl) (by simp) ?_
          refine AllReady.cons rfl (fun K hK => ?_) (AllReady.cons rfl (fun K hK => ?_) (AllReady.nil))
          · go_simp
            go_wp2_with fail
            refine Calls.mono (laws_toFieldS xs A cap _ (hR.ext (h23.trans eD)) hn1) ?_
            rintro e WA107 ⟨v1, rfl, hO1, hA107⟩
            obtain ⟨A1, n1, rfl, hle1, _⟩ := hO1.slice
            have hO1 := hO1.lower (base' := w23.heap.size) eD.size
            go_wp2_with fail
            have E107 := eD.trans hA107
            have y0 := ((Ext.refl w23).trans E107).cell c0
            have y1 := ((Ext.refl w23).trans E107).cell c1
            have y2 := ((Ext.refl w23).trans E107).cell c2
            refine wpAny_ready (rs := [3, 11]) (by kernel_rfl) (by simp) ?_
            refine AllReady.cons rfl (fun K hK => ?_) (AllReady.cons rfl (fun K hK => ?_) (AllReady.nil))
            · go_simp
              go_wp2_with fail
              refine Calls.mono (htc _) ?_
              rintro e WA108 ⟨rfl, hA108⟩
              go_wp2_with fail
              have E108 := E107.trans hA108
              have hO1 := hO1.ext hA108
              exact hk0 _ _ _ ⟨E108, hle1, hO1⟩
            · go_simp
              refine hK _ _ ?_
              clear hK K
              refine intro_world (fun WN109 hW => ?_)
              have eN109 : Ext WA107 WN109 := by rw [hW]; exact (Ext.refl _).alloc _
              have BX : BoxAt WN109 WA107.heap.size #[.string ⟨#[]⟩, .int .u64 0, .int .u64 0] 68 := by rw [hW]; exact BoxAt.new' rfl
              have lbX : w23.heap.size ≤ WA107.heap.size := E107.size
              have E109 := E107.trans eN109
              have hO1 := hO1.ext eN109
              clear hW
              generalize WA107.heap.size = bY at BX lbX ⊢
              have y0 := ((Ext.refl w23).trans E109).cell c0
              have y1 := ((Ext.refl w23).trans E109).cell c1
              have y2 := ((Ext.refl w23).trans E109).cell c2
              refine wpAny_ready (rs := [3]) (by kernel_rfl) (by simp) ?_
              refine AllReady.cons rfl (fun K hK => ?_) (AllReady.nil)
              · go_simp
                go_wp2_with fail
                refine Calls.mono (htc _) ?_
                rintro e WA110 ⟨rfl, hA110⟩
                go_wp2_with fail
                have E110 := E109.trans hA110
                have hO1 := hO1.ext hA110
                have BX := BX.ext hA110
                exact hk1 _ _ _ _ ⟨E110, hle1, hO1, BX, lbX⟩
          · go_simp
            refine hK _ _ ?_
            clear hK K
            refine intro_world (fun WN111 hW => ?_)
            have eN111 : Ext WD WN111 := by rw [hW]; exact (Ext.refl _).alloc _
            have BX : BoxAt WN111 WD.heap.size #[.string ⟨#[]⟩, .int .u64 0, .int .u64 0] 68 := by rw [hW]; exact BoxAt.new' rfl
            have lbX : w23.heap.size ≤ WD.heap.size := eD.size
            have E111 := eD.trans eN111
            clear hW
            generalize WD.heap.size = bY at BX lbX ⊢
            have y0 := ((Ext.refl w23).trans E111).cell c0
            have y1 := ((Ext.refl w23).trans E111).cell c1
            have y2 := ((Ext.refl w23).trans E111).cell c2
            refine wpAny_ready (rs := [1]) (by kernel_rfl) (by simp) ?_
            refine AllReady.cons rfl (fun K hK => ?_) (AllReady.nil)
            · go_simp
              go_wp2_with fail
              refine Calls.mono (laws_toFieldS xs A cap _ (hR.ext (h23.trans E111)) hn1) ?_
              rintro e WA112 ⟨v1, rfl, hO1, hA112⟩
              obtain ⟨A1, n1, rfl, hle1, _⟩ := hO1.slice
              have hO1 := hO1.lower (base' := w23.heap.size) E111.size
              go_wp2_with fail
              have E112 := E111.trans hA112
              have BX := BX.ext hA112
              have y0 := ((Ext.refl w23).trans E112).cell c0
              have y1 := ((Ext.refl w23).trans E112).cell c1
              have y2 := ((Ext.refl w23).trans E112).cell c2
              refine wpAny_ready (rs := [3]) (by kernel_rfl) (by simp) ?_
              refine AllReady.cons rfl (fun K hK => ?_) (AllReady.nil)
              · go_simp
                go_wp2_with fail
                refine Calls.mono (htc _) ?_
                rintro e WA113 ⟨rfl, hA113⟩
                go_wp2_with fail
                have E113 := E112.trans hA113
                have BX := BX.ext hA113
                have hO1 := hO1.ext hA113
                exact hk1 _ _ _ _ ⟨E113, hle1, hO1, BX, lbX⟩
        · go_simp
          refine hK _ _ ?_
          clear hK K
          refine intro_world (fun WN114 hW => ?_)
          have eN114 : Ext WD WN114 := by rw [hW]; exact (Ext.refl _).alloc _
          have BX : BoxAt WN114 WD.heap.size #[.string ⟨#[]⟩, .int .u64 0, .int .u64 0] 68 := by rw [hW]; exact BoxAt.new' rfl
          have lbX : w23.heap.size ≤ WD.heap.size := eD.size
          have E114 := eD.trans eN114
          clear hW
          generalize WD.heap.size = bY at BX lbX ⊢
          have y0 := ((Ext.refl w23).trans E114).cell c0
          have y1 := ((Ext.refl w23).trans E114).cell c1
          have y2 := ((Ext.refl w23).trans E114).cell c2
          refine wpAny_ready (rs := [1, 2]) (by kernel_rfl) (by simp) ?_
          refine AllReady.cons rfl (fun K hK => ?_) (AllReady.cons rfl (fun K hK => ?_) (AllReady.nil))
          · go_simp
            go_wp2_with fail
            refine Calls.mono (laws_toFieldS xs A cap _ (hR.ext (h23.trans E114)) hn1) ?_
            rintro e WA115 ⟨v1, rfl, hO1, hA115⟩
            obtain ⟨A1, n1, rfl, hle1, _⟩ := hO1.slice
            have hO1 := hO1.lower (base' := w23.heap.size) E114.size
            go_wp2_with fail
            have E115 := E114.trans hA115
            have BX := BX.ext hA115
            have y0 := ((Ext.refl w23).trans E115).cell c0
            have y1 := ((Ext.refl w23).trans E115).cell c1
            have y2 := ((Ext.refl w23).trans E115).cell c2
            refine wpAny_ready (rs := [2]) (by kernel_rfl) (by simp) ?_
            refine AllReady.cons rfl (fun K hK => ?_) (AllReady.nil)
            · go_simp
              refine hK _ _ ?_
              clear hK K
              refine wpAny_ready (rs := [3]) (by kernel_rfl) (by simp) ?_
              refine AllReady.cons rfl (fun K hK => ?_) (AllReady.nil)
              · go_simp
                go_wp2_with fail
                refine Calls.mono (htc _) ?_
                rintro e WA116 ⟨rfl, hA116⟩
                go_wp2_with fail
                have E116 := E115.trans hA116
                have BX := BX.ext hA116
                have hO1 := hO1.ext hA116
                exact hk1 _ _ _ _ ⟨E116, hle1, hO1, BX, lbX⟩
          · go_simp
            refine hK _ _ ?_
            clear hK K
            refine wpAny_ready (rs := [1]) (by kernel_rfl) (by simp) ?_
            refine AllReady.cons rfl (fun K hK => ?_) (AllReady.nil)
            · go_simp
              go_wp2_with fail
              refine Calls.mono (laws_toFieldS xs A cap _ (hR.ext (h23.trans E114)) hn1) ?_
              rintro e WA117 ⟨v1, rfl, hO1, hA117⟩
              obtain ⟨A1, n1, rfl, hle1, _⟩ := hO1.slice
              have hO1 := hO1.lower (base' := w23.heap.size) E114.size
              go_wp2_with fail
              have E117 := E114.trans hA117
              have BX := BX.ext hA117
              have y0 := ((Ext.refl w23).trans E117).cell c0
              have y1 := ((Ext.refl w23).trans E117).cell c1
              have y2 := ((Ext.refl w23).trans E117).cell c2
              refine wpAny_ready (rs := [3]) (by kernel_rfl) (by simp) ?_
              refine AllReady.cons rfl (fun K hK => ?_) (AllReady.nil)
              · go_simp
                go_wp2_with fail
                refine Calls.mono (htc _) ?_
                rintro e WA118 ⟨rfl, hA118⟩
                go_wp2_with fail
                have E118 := E117.trans hA118
                have BX := BX.ext hA118
                have hO1 := hO1.ext hA118
                exact hk1 _ _ _ _ ⟨E118, hle1, hO1, BX, lbX⟩
      intro A1 n1 W0 ⟨E0, hle1, hO1⟩
      refine wpAny_ready (rs := [5, 11]) (by kernel_rfl) (by simp) ?_
      refine AllReady.cons rfl (fun K hK => ?_) (AllReady.cons rfl (fun K hK => ?_) (AllReady.nil))
      · go_simp
        go_wp2_with fail
        refine Calls.mono (laws_toCardS cs B cap' _ (hS.ext (h23.trans E0)) hm1) ?_
        rintro e WA119 ⟨v5, rfl, hO5, hA119⟩
        obtain ⟨A5, n5, rfl, hle5, _⟩ := hO5.slice
        go_wp2_with fail
        have E119 := E0.trans hA119
        have hO1 := hO1.ext hA119
        refine wpAny_ready (rs := [6, 11]) (by kernel_rfl) (by simp) ?_
        refine AllReady.cons rfl (fun K hK => ?_) (AllReady.cons rfl (fun K hK => ?_) (AllReady.nil))
        · go_simp
          go_wp2_with fail
          refine Calls.mono (him A1 n1 A5 n5 _ hO1.rdA hle1 hO5.rdA) ?_
          rintro e WA120 ⟨v6, rfl, hO26, hA120⟩
          obtain ⟨A26, n26, rfl, hle6, _⟩ := hO26.slice
          have hV := hO26
          go_wp2_with fail
          have E120 := E119.trans hA120
          have hO1 := hO1.ext hA120
          have hO5 := hO5.ext hA120
          have hO26 := hO26.lower (base' := w23.heap.size) E119.size
          refine wpAny_take (i := 7) (v := ?_) rfl (by kernel_rfl) (by kernel_rfl) (by kernel_rfl) (fun _ _ _ h => h) (Or.inl ⟨by rfl, ?_⟩) ?_
          rotate_left
          · (intro W9; go_simp; try with_reducible rfl)
          refine wpAny_take (i := 8) (v := ?_) rfl (by kernel_rfl) (by kernel_rfl) (by kernel_rfl) (fun _ _ _ h => h) (Or.inl ⟨by rfl, ?_⟩) ?_
          rotate_left
          · (intro W9; go_simp; try with_reducible rfl)
          refine wpAny_take (i := 9) (v := ?_) rfl (by kernel_rfl) (by kernel_rfl) (by kernel_rfl) (fun _ _ _ h => h) (Or.inl ⟨by rfl, ?_⟩) ?_
          rotate_left
          · (intro W9; go_simp; try with_reducible rfl)
          refine wpAny_take (i := 10) (v := ?_) rfl (by kernel_rfl) (by kernel_rfl) (by kernel_rfl) (fun _ _ _ h => h) (Or.inl ⟨by rfl, ?_⟩) ?_
          rotate_left
          · (intro W9; go_simp; try with_reducible rfl)
          refine wpAny_ready (rs := [11]) (by kernel_rfl) (by simp) ?_
          refine AllReady.cons rfl (fun K hK => ?_) (AllReady.nil)
          go_simp
          refine hK _ _ ?_
          clear hK K
          refine intro_world (fun WN121 hW => ?_)
          have eN121 : Ext WA120 WN121 := by rw [hW]; exact (Ext.refl _).alloc _
          have BX : BoxAt WN121 WA120.heap.size #[.string ⟨#[]⟩, .int .u64 0, .int .u64 0] 68 := by rw [hW]; exact BoxAt.new' rfl
          have lbX : w23.heap.size ≤ WA120.heap.size := E120.size
          have E121 := E120.trans eN121
          have hO1 := hO1.ext eN121
          have hO5 := hO5.ext eN121
          have hne : ∀ k, (Value.slice A26 ns.length n26).ownBlock = some k → k ≠ WA120.heap.size := fun k h => by have := (hV.lt k h).2; omega
          clear hW
          generalize WA120.heap.size = bY at BX lbX hne ⊢
          have hO26 := hO26.ext eN121
          exact hkF bY A1 n1 A5 n5 A26 n26 WN121 ⟨E121, BX, lbX, hne, hO26⟩
        · go_simp
          refine hK _ _ ?_
          clear hK K
          refine intro_world (fun WN122 hW => ?_)
          have eN122 : Ext WA119 WN122 := by rw [hW]; exact (Ext.refl _).alloc _
          have BX : BoxAt WN122 WA119.heap.size #[.string ⟨#[]⟩, .int .u64 0, .int .u64 0] 68 := by rw [hW]; exact BoxAt.new' rfl
          have lbX : w23.heap.size ≤ WA119.heap.size := E119.size
          have E122 := E119.trans eN122
          have hO1 := hO1.ext eN122
          have hO5 := hO5.ext eN122
          clear hW
          generalize WA119.heap.size = bY at BX lbX ⊢
          have BXl := BX.lt
          refine wpAny_ready (rs := [6]) (by kernel_rfl) (by simp) ?_
          refine AllReady.cons rfl (fun K hK => ?_) ?_
          rotate_left
          · exact AllReady.nil
          go_simp
          go_wp2_with fail
          refine Calls.mono (him A1 n1 A5 n5 _ hO1.rdA hle1 hO5.rdA) ?_
          rintro e WA123 ⟨v6, rfl, hO26, hA123⟩
          obtain ⟨A26, n26, rfl, hle6, _⟩ := hO26.slice
          have hV := hO26
          go_wp2_with fail
          have E123 := E122.trans hA123
          have hO1 := hO1.ext hA123
          have hO5 := hO5.ext hA123
          have BX := BX.ext hA123
          have hne : ∀ k, (Value.slice A26 ns.length n26).ownBlock = some k → k ≠ bY := fun k h => by have := (hV.lt k h).1; have := BXl; omega
          have hO26 := hO26.lower (base' := w23.heap.size) E122.size
          refine wpAny_take (i := 7) (v := ?_) rfl (by kernel_rfl) (by kernel_rfl) (by kernel_rfl) (fun _ _ _ h => h) (Or.inl ⟨by rfl, ?_⟩) ?_
          rotate_left
          · (intro W9; go_simp; try with_reducible rfl)
          refine wpAny_take (i := 8) (v := ?_) rfl (by kernel_rfl) (by kernel_rfl) (by kernel_rfl) (fun _ _ _ h => h) (Or.inl ⟨by rfl, ?_⟩) ?_
          rotate_left
          · (intro W9; go_simp; try with_reducible rfl)
          refine wpAny_take (i := 9) (v := ?_) rfl (by kernel_rfl) (by kernel_rfl) (by kernel_rfl) (fun _ _ _ h => h) (Or.inl ⟨by rfl, ?_⟩) ?_
          rotate_left
          · (intro W9; go_simp; try with_reducible rfl)
          refine wpAny_take (i := 10) (v := ?_) rfl (by kernel_rfl) (by kernel_rfl) (by kernel_rfl) (fun _ _ _ h => h) (Or.inl ⟨by rfl, ?_⟩) ?_
          rotate_left
          · (intro W9; go_simp; try with_reducible rfl)
          exact hkF bY A1 n1 A5 n5 A26 n26 WA123 ⟨E123, BX, lbX, hne, hO26⟩
      · go_simp
        refine hK _ _ ?_
        clear hK K
        refine intro_world (fun WN124 hW => ?_)
        have eN124 : Ext W0 WN124 := by rw [hW]; exact (Ext.refl _).alloc _
        have BX : BoxAt WN124 W0.heap.size #[.string ⟨#[]⟩, .int .u64 0, .int .u64 0] 68 := by rw [hW]; exact BoxAt.new' rfl
        have lbX : w23.heap.size ≤ W0.heap.size := E0.size
        have E124 := E0.trans eN124
        have hO1 := hO1.ext eN124
        clear hW
        generalize W0.heap.size = bY at BX lbX ⊢
        refine wpAny_ready (rs := [5]) (by kernel_rfl) (by simp) ?_
        refine AllReady.cons rfl (fun K hK => ?_) ?_
        rotate_left
        · exact AllReady.nil
        go_simp
        go_wp2_with fail
        refine Calls.mono (laws_toCardS cs B cap' _ (hS.ext (h23.trans E124)) hm1) ?_
        rintro e WA125 ⟨v5, rfl, hO5, hA125⟩
        obtain ⟨A5, n5, rfl, hle5, _⟩ := hO5.slice
        go_wp2_with fail
        have E125 := E124.trans hA125
        have hO1 := hO1.ext hA125
        have BX := BX.ext hA125
        have BXl := BX.lt
        refine wpAny_ready (rs := [6]) (by kernel_rfl) (by simp) ?_
        refine AllReady.cons rfl (fun K hK => ?_) ?_
        rotate_left
        · exact AllReady.nil
        go_simp
        go_wp2_with fail
        refine Calls.mono (him A1 n1 A5 n5 _ hO1.rdA hle1 hO5.rdA) ?_
        rintro e WA126 ⟨v6, rfl, hO26, hA126⟩
        obtain ⟨A26, n26, rfl, hle6, _⟩ := hO26.slice
        have hV := hO26
        go_wp2_with fail
        have E126 := E125.trans hA126
        have hO1 := hO1.ext hA126
        have BX := BX.ext hA126
        have hO5 := hO5.ext hA126
        have hne : ∀ k, (Value.slice A26 ns.length n26).ownBlock = some k → k ≠ bY := fun k h => by have := (hV.lt k h).1; have := BXl; omega
        have hO26 := hO26.lower (base' := w23.heap.size) E125.size
        refine wpAny_take (i := 7) (v := ?_) rfl (by kernel_rfl) (by kernel_rfl) (by kernel_rfl) (fun _ _ _ h => h) (Or.inl ⟨by rfl, ?_⟩) ?_
        rotate_left
        · (intro W9; go_simp; try with_reducible rfl)
        refine wpAny_take (i := 8) (v := ?_) rfl (by kernel_rfl) (by kernel_rfl) (by kernel_rfl) (fun _ _ _ h => h) (Or.inl ⟨by rfl, ?_⟩) ?_
        rotate_left
        · (intro W9; go_simp; try with_reducible rfl)
        refine wpAny_take (i := 9) (v := ?_) rfl (by kernel_rfl) (by kernel_rfl) (by kernel_rfl) (fun _ _ _ h => h) (Or.inl ⟨by rfl, ?_⟩) ?_
        rotate_left
        · (intro W9; go_simp; try with_reducible rfl)
        refine wpAny_take (i := 10) (v := ?_) rfl (by kernel_rfl) (by kernel_rfl) (by kernel_rfl) (fun _ _ _ h => h) (Or.inl ⟨by rfl, ?_⟩) ?_
        rotate_left
        · (intro W9; go_simp; try with_reducible rfl)
        exact hkF bY A1 n1 A5 n5 A26 n26 WA126 ⟨E126, BX, lbX, hne, hO26⟩
    intro bY A1 n1 W1 ⟨E1, hle1, hO1, BX, lbX⟩
    refine wpAny_ready (rs := [5]) (by kernel_rfl) (by simp) ?_
    refine AllReady.cons rfl (fun K hK => ?_) ?_
    rotate_left
    · exact AllReady.nil
    go_simp
    go_wp2_with fail
    refine Calls.mono (laws_toCardS cs B cap' _ (hS.ext (h23.trans E1)) hm1) ?_
    rintro e WA127 ⟨v5, rfl, hO5, hA127⟩
    obtain ⟨A5, n5, rfl, hle5, _⟩ := hO5.slice
    go_wp2_with fail
    have E127 := E1.trans hA127
    have hO1 := hO1.ext hA127
    have BX := BX.ext hA127
    have BXl := BX.lt
    refine wpAny_ready (rs := [6]) (by kernel_rfl) (by simp) ?_
    refine AllReady.cons rfl (fun K hK => ?_) ?_
    rotate_left
    · exact AllReady.nil
    go_simp
    go_wp2_with fail
    refine Calls.mono (him A1 n1 A5 n5 _ hO1.rdA hle1 hO5.rdA) ?_
    rintro e WA128 ⟨v6, rfl, hO26, hA128⟩
    obtain ⟨A26, n26, rfl, hle6, _⟩ := hO26.slice
    have hV := hO26
    go_wp2_with fail
    have E128 := E127.trans hA128
    have hO1 := hO1.ext hA128
    have BX := BX.ext hA128
    have hO5 := hO5.ext hA128
    have hne : ∀ k, (Value.slice A26 ns.length n26).ownBlock = some k → k ≠ bY := fun k h => by have := (hV.lt k h).1; have := BXl; omega
    have hO26 := hO26.lower (base' := w23.heap.size) E127.size
    refine wpAny_take (i := 7) (v := ?_) rfl (by kernel_rfl) (by kernel_rfl) (by kernel_rfl) (fun _ _ _ h => h) (Or.inl ⟨by rfl, ?_⟩) ?_
    rotate_left
    · (intro W9; go_simp; try with_reducible rfl)
    refine wpAny_take (i := 8) (v := ?_) rfl (by kernel_rfl) (by kernel_rfl) (by kernel_rfl) (fun _ _ _ h => h) (Or.inl ⟨by rfl, ?_⟩) ?_
    rotate_left
    · (intro W9; go_simp; try with_reducible rfl)
    refine wpAny_take (i := 9) (v := ?_) rfl (by kernel_rfl) (by kernel_rfl) (by kernel_rfl) (fun _ _ _ h => h) (Or.inl ⟨by rfl, ?_⟩) ?_
    rotate_left
    · (intro W9; go_simp; try with_reducible rfl)
    refine wpAny_take (i := 10) (v := ?_) rfl (by kernel_rfl) (by kernel_rfl) (by kernel_rfl) (fun _ _ _ h => h) (Or.inl ⟨by rfl, ?_⟩) ?_
    rotate_left
    · (intro W9; go_simp; try with_reducible rfl)
    exact hkF bY A1 n1 A5 n5 A26 n26 WA128 ⟨E128, BX, lbX, hne, hO26⟩
  intro bY A1 n1 A5 n5 A26 n26 WF ⟨EF, BX, lbX, hneX, hO26⟩
  have b0 := BX.cell 0
  have b1 := BX.cell 1
  have b2 := BX.cell 2
  have bf0 := BX.frozen 0
  have bf1 := BX.frozen 1
  have bf2 := BX.frozen 2
  have lB := BX.lt
  refine wpAny_ready (rs := [12]) (by kernel_rfl) (by simp) ?_
  refine AllReady.cons rfl (fun K hK => ?_) ?_
  rotate_left
  · exact AllReady.nil
  go_simp
  refine hK _ _ ?_
  clear hK K
  refine wpAny_ready (rs := [13]) (by kernel_rfl) (by simp) ?_
  refine AllReady.cons rfl (fun K hK => ?_) ?_
  rotate_left
  · exact AllReady.nil
  go_simp
  refine hK _ _ ?_
  clear hK K
  refine wpAny_ready (rs := [14]) (by kernel_rfl) (by simp) ?_
  refine AllReady.cons rfl (fun K hK => ?_) ?_
  rotate_left
  · exact AllReady.nil
  go_simp
  refine hK _ _ ?_
  clear hK K
  refine wpAny_done (by kernel_rfl) ?_ _
  have BY2 : BoxAt (((WF.setCell ⟨bY, 0, none⟩ (.string qc.nm)).setCell ⟨bY, 1, none⟩ (.int .u64 (lo qc.m))).setCell ⟨bY, 2, none⟩ (.int .u64 (hi qc.m))) bY #[.string qc.nm, .int .u64 (lo qc.m), .int .u64 (hi qc.m)] 68 := ((BX.set 0 _).set 1 _).set 2 _
  have hE24 : Ext w23 (((WF.setCell ⟨bY, 0, none⟩ (.string qc.nm)).setCell ⟨bY, 1, none⟩ (.int .u64 (lo qc.m))).setCell ⟨bY, 2, none⟩ (.int .u64 (hi qc.m))) := Ext.set lbX (Ext.set lbX (Ext.set lbX EF _) _) _
  have hnebY : (Value.slice A26 ns.length n26).ownBlock ≠ some bY := fun h => hneX _ h rfl
  have hO262 : Ow encI64 2 (((WF.setCell ⟨bY, 0, none⟩ (.string qc.nm)).setCell ⟨bY, 1, none⟩ (.int .u64 (lo qc.m))).setCell ⟨bY, 2, none⟩ (.int .u64 (hi qc.m))) w23.heap.size (.slice A26 ns.length n26) ns := ((hO26.far (p := ⟨bY, 0, none⟩) hnebY _).far (p := ⟨bY, 1, none⟩) hnebY _).far (p := ⟨bY, 2, none⟩) hnebY _
  clear b0 b1 b2 bf0 bf1 bf2 lB BX hO26 EF hneX
  generalize (((WF.setCell ⟨bY, 0, none⟩ (.string qc.nm)).setCell ⟨bY, 1, none⟩ (.int .u64 (lo qc.m))).setCell ⟨bY, 2, none⟩ (.int .u64 (hi qc.m))) = W24 at BY2 hE24 hO262
  have BX2 := BX2.ext hE24
  have hO62 := hO62.ext hE24
  have hM10 := hM10.ext hE24
  have h24 := h23.trans hE24
  have u0 : W24.cell? ⟨bX, 0, none⟩ = some (.string qc.nm) := BX2.cell 0
  have u1 : W24.cell? ⟨bX, 1, none⟩ = some (.int .u64 (lo qc.m)) := BX2.cell 1
  have u2 : W24.cell? ⟨bX, 2, none⟩ = some (.int .u64 (hi qc.m)) := BX2.cell 2
  have z0 : W24.cell? ⟨bY, 0, none⟩ = some (.string qc.nm) := BY2.cell 0
  have z1 : W24.cell? ⟨bY, 1, none⟩ = some (.int .u64 (lo qc.m)) := BY2.cell 1
  have z2 : W24.cell? ⟨bY, 2, none⟩ = some (.int .u64 (hi qc.m)) := BY2.cell 2
  have lu := BX2.lt
  have lz := BY2.lt
  go_wp2_with fail
  refine Calls.mono (laws_eqCard qc qc _) ?_
  rintro e w25 ⟨rfl, hb25⟩
  rw [rq]
  have hO62 := hO62.ext hb25
  have hO262 := hO262.ext hb25
  have hM10 := hM10.ext hb25
  clear u0 u1 u2 z0 z1 z2 lu lz
  go_wp2_with fail
  refine Calls.mono (laws_eqInt64S ns _ _ _ _ _ hO262.rdA hO62.rdA hlen) ?_
  rintro e w26 ⟨rfl, hb26⟩
  have hM10 := hM10.ext hb26
  go_wp2_with fail
  refine Calls.mono (laws_heldInt64S ns.length _ _ 1 _ hM10.rdA hlen (by omega)) ?_
  rintro e w27 ⟨rfl, hb27⟩
  go_wp2
  go_ret
  exact ⟨rfl, hww.trans (((h24.trans hb25).trans hb26).trans hb27)⟩
end Go.Proofs.YtknbebglabpegaaDoor
