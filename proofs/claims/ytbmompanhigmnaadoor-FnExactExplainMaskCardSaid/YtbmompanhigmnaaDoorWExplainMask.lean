/-
  The walk of the law FnExactExplainMask (written by mklaw.py).
-/
import Derived.Test.YtbmompanhigmnaaDoorZA
set_option linter.unusedVariables false
set_option linter.unusedSimpArgs false
set_option maxRecDepth 100000
namespace Go.Proofs.YtbmompanhigmnaaDoor
open Go.RowKit
set_option maxHeartbeats 2000000 in
theorem laws_FnExactExplainMask (x : Mx) (hx : MxIn x) (m : Mask) (vs : List ByteArray) (A : Option Addr) (cap : Nat) (bud : Int) (hq0 : -9223372036854775808 ≤ bud) (hq1 : bud < 9223372036854775808) (w : World) (hn : vs.length ≤ 9223372036854775807) (hR : Rd encStr w A vs) (hok : ∀ x ∈ vs, StrIn x) :
    Calls Tryd.prog 7 #[.agg #[.int .i16 x.st, .int .i16 x.sz, .int .i16 x.per], .agg #[.int .u64 (lo m), .int .u64 (hi m)], .slice A vs.length cap, .int .i64 bud] w fun e w' => e = .returned (.bool true) ∧ Ext w w' := by
  have r0 := eqL_refl strB strB_refl vs
  go_enter Tryd.func7, Tryd.ntmps7
  go_wp2_with fail
  refine Calls.mono (laws_szStringS vs A cap 1048576 (by omega) (by omega) hn _ (hR.ext (by ((repeat (first | with_reducible exact Ext.refl _ | with_reducible exact hw | with_reducible exact hb9 | with_reducible exact hb8 | with_reducible exact hb7 | with_reducible exact hb6 | with_reducible exact hb5 | with_reducible exact hb4 | with_reducible exact hb3 | with_reducible exact hb2 | with_reducible exact hb1 | with_reducible refine Ext.alloc ?_ _ | with_reducible refine Ext.drew ?_ | ((with_reducible refine Ext.set ?_ ?_ _); focus (dsimp only; omega)) | with_reducible refine Ext.trans ?_ hb9 | with_reducible refine Ext.trans ?_ hb8 | with_reducible refine Ext.trans ?_ hb7 | with_reducible refine Ext.trans ?_ hb6 | with_reducible refine Ext.trans ?_ hb5 | with_reducible refine Ext.trans ?_ hb4 | with_reducible refine Ext.trans ?_ hb3 | with_reducible refine Ext.trans ?_ hb2 | with_reducible refine Ext.trans ?_ hb1 | with_reducible refine Ext.trans ?_ hw))))) hok) ?_
  rintro e w1 ⟨z0, rfl, hr0, hb1⟩
  have hw1 : Ext w w1 := by ((repeat (first | with_reducible exact Ext.refl _ | with_reducible exact hw | with_reducible exact hb9 | with_reducible exact hb8 | with_reducible exact hb7 | with_reducible exact hb6 | with_reducible exact hb5 | with_reducible exact hb4 | with_reducible exact hb3 | with_reducible exact hb2 | with_reducible exact hb1 | with_reducible refine Ext.alloc ?_ _ | with_reducible refine Ext.drew ?_ | ((with_reducible refine Ext.set ?_ ?_ _); focus (dsimp only; omega)) | with_reducible refine Ext.trans ?_ hb9 | with_reducible refine Ext.trans ?_ hb8 | with_reducible refine Ext.trans ?_ hb7 | with_reducible refine Ext.trans ?_ hb6 | with_reducible refine Ext.trans ?_ hb5 | with_reducible refine Ext.trans ?_ hb4 | with_reducible refine Ext.trans ?_ hb3 | with_reducible refine Ext.trans ?_ hb2 | with_reducible refine Ext.trans ?_ hb1 | with_reducible refine Ext.trans ?_ hw)))
  have c0 : w1.cell? ⟨w.heap.size, 0, none⟩ = some (.int .i16 x.st) := hb1.cell (by go_simp)
  have c1 : w1.cell? ⟨w.heap.size, 1, none⟩ = some (.int .i16 x.sz) := hb1.cell (by go_simp)
  have c2 : w1.cell? ⟨w.heap.size, 2, none⟩ = some (.int .i16 x.per) := hb1.cell (by go_simp)
  have c3 : w1.cell? ⟨w.heap.size + 1, 0, none⟩ = some (.int .u64 (lo m)) := hb1.cell (by go_simp)
  have c4 : w1.cell? ⟨w.heap.size + 1, 1, none⟩ = some (.int .u64 (hi m)) := hb1.cell (by go_simp)
  have hR := hR.ext hw1
  clear hb1
  have d0 := (Ext.refl w1).cell c0
  have d1 := (Ext.refl w1).cell c1
  have d2 := (Ext.refl w1).cell c2
  have d3 := (Ext.refl w1).cell c3
  have d4 := (Ext.refl w1).cell c4
  have lc0 := World.block_lt_of_cell? _ _ d0
  dsimp only at lc0
  have lc1 := World.block_lt_of_cell? _ _ d3
  dsimp only at lc1
  by_cases hr0n : z0 < 0
  · go_wp2
    go_ret
    exact ⟨rfl, hw1⟩
  obtain ⟨g0b, g0c, g0a⟩ := hr0.resolve_left hr0n
  have hn1 : vs.length ≤ 1048576 := by omega
  clear hr0
  have hlen := exp_len x m vs bud hn1
  have hsp := fun (a0 : Option Addr) (n0 : Nat) (W : World) (R0 : Rd encStr W a0 vs) => spec_ExplainMask x hx m vs a0 n0 bud hq0 hq1 W R0 hn1 hok
  have him := fun (a0 : Option Addr) (n0 : Nat) (W : World) (R0 : Rd encStr W a0 vs) (l0 : vs.length ≤ n0) => impl_ExplainMask x hx m vs a0 n0 bud hq0 hq1 W R0 hn1 hok
  generalize expF x m vs bud = q at hlen hsp him
  obtain ⟨ns, cd⟩ := q
  dsimp only at hlen hsp him
  go_wp2
  refine wp_region_any (by kernel_rfl) ?_
  change wpAny _ _ _ _ _ _ _ (World.drew _)
  refine intro_world (fun WD hWD => ?_)
  have eD : Ext w1 WD := by rw [hWD]; exact (Ext.refl _).drew
  have fD := (Ext.refl w1).trans eD
  clear hWD
  refine wpAny_take (i := 4) (v := ?_) rfl (by kernel_rfl) (by kernel_rfl) (by kernel_rfl) (fun _ _ _ h => h) (Or.inl ⟨by rfl, ?_⟩) ?_
  rotate_left
  · (intro W9; go_simp; try with_reducible rfl)
  refine wpAny_take (i := 6) (v := ?_) rfl (by kernel_rfl) (by kernel_rfl) (by kernel_rfl) (fun _ _ _ h => h) (Or.inl ⟨by rfl, ?_⟩) ?_
  rotate_left
  · (intro W9; go_simp; try with_reducible rfl)
  apply Conv.conv (C := fun W => Ext w1 W)
  case h =>
    intro hk
    have y0 := fD.cell d0
    have y1 := fD.cell d1
    have y2 := fD.cell d2
    have y3 := fD.cell d3
    have y4 := fD.cell d4
    refine wpAny_ready (rs := [0, 2]) (by kernel_rfl) (by simp) ?_
    refine AllReady.cons rfl (fun K hK => ?_) (AllReady.cons rfl (fun K hK => ?_) AllReady.nil)
    · go_simp
      refine hK _ _ ?_
      clear hK K
      refine wpAny_ready (rs := [1, 2]) (by kernel_rfl) (by simp) ?_
      refine AllReady.cons rfl (fun K hK => ?_) (AllReady.cons rfl (fun K hK => ?_) AllReady.nil)
      · go_simp
        go_wp2_with fail
        refine Calls.mono (laws_toMix x _) ?_
        rintro e WA ⟨rfl, hA⟩
        go_wp2_with fail
        have fA := fD.trans hA
        have y0 := fA.cell d0
        have y1 := fA.cell d1
        have y2 := fA.cell d2
        have y3 := fA.cell d3
        have y4 := fA.cell d4
        refine wpAny_ready (rs := [2]) (by kernel_rfl) (by simp) ?_
        refine AllReady.cons rfl (fun K hK => ?_) ?_
        rotate_left
        · exact AllReady.nil
        go_simp
        refine hK _ _ ?_
        clear hK K
        refine wpAny_ready (rs := [3]) (by kernel_rfl) (by simp) ?_
        refine AllReady.cons rfl (fun K hK => ?_) ?_
        rotate_left
        · exact AllReady.nil
        go_simp
        go_wp2_with fail
        refine Calls.mono (laws_toMask m _) ?_
        rintro e WB ⟨rfl, hB⟩
        go_wp2_with fail
        exact hk _ ((eD.trans hA).trans hB)
      · go_simp
        refine hK _ _ ?_
        clear hK K
        refine wpAny_ready (rs := [1]) (by kernel_rfl) (by simp) ?_
        refine AllReady.cons rfl (fun K hK => ?_) ?_
        rotate_left
        · exact AllReady.nil
        go_simp
        go_wp2_with fail
        refine Calls.mono (laws_toMix x _) ?_
        rintro e WA ⟨rfl, hA⟩
        go_wp2_with fail
        have fA := fD.trans hA
        have y0 := fA.cell d0
        have y1 := fA.cell d1
        have y2 := fA.cell d2
        have y3 := fA.cell d3
        have y4 := fA.cell d4
        refine wpAny_ready (rs := [3]) (by kernel_rfl) (by simp) ?_
        refine AllReady.cons rfl (fun K hK => ?_) ?_
        rotate_left
        · exact AllReady.nil
        go_simp
        go_wp2_with fail
        refine Calls.mono (laws_toMask m _) ?_
        rintro e WB ⟨rfl, hB⟩
        go_wp2_with fail
        exact hk _ ((eD.trans hA).trans hB)
    · go_simp
      refine hK _ _ ?_
      clear hK K
      refine wpAny_ready (rs := [0]) (by kernel_rfl) (by simp) ?_
      refine AllReady.cons rfl (fun K hK => ?_) ?_
      rotate_left
      · exact AllReady.nil
      go_simp
      refine hK _ _ ?_
      clear hK K
      refine wpAny_ready (rs := [1]) (by kernel_rfl) (by simp) ?_
      refine AllReady.cons rfl (fun K hK => ?_) ?_
      rotate_left
      · exact AllReady.nil
      go_simp
      go_wp2_with fail
      refine Calls.mono (laws_toMix x _) ?_
      rintro e WA ⟨rfl, hA⟩
      go_wp2_with fail
      have fA := fD.trans hA
      have y0 := fA.cell d0
      have y1 := fA.cell d1
      have y2 := fA.cell d2
      have y3 := fA.cell d3
      have y4 := fA.cell d4
      refine wpAny_ready (rs := [3]) (by kernel_rfl) (by simp) ?_
      refine AllReady.cons rfl (fun K hK => ?_) ?_
      rotate_left
      · exact AllReady.nil
      go_simp
      go_wp2_with fail
      refine Calls.mono (laws_toMask m _) ?_
      rintro e WB ⟨rfl, hB⟩
      go_wp2_with fail
      exact hk _ ((eD.trans hA).trans hB)
  intro w2 hT
  have fT := (Ext.refl w1).trans hT
  have z0 := fT.cell d0
  have z1 := fT.cell d1
  have z2 := fT.cell d2
  have z3 := fT.cell d3
  have z4 := fT.cell d4
  have h2 : Ext w1 w2 := (Ext.refl w1).trans hT
  have hb2 : Ext w1 w2 := hT
  clear hT fT eD fD
  have s2 := hb2.size
  have d0 := h2.cell c0
  have d1 := h2.cell c1
  have d2 := h2.cell c2
  have d3 := h2.cell c3
  have d4 := h2.cell c4
  have lc0 := World.block_lt_of_cell? _ _ d0
  dsimp only at lc0
  have lc1 := World.block_lt_of_cell? _ _ d3
  dsimp only at lc1
  refine wpAny_ready (rs := [5]) (by kernel_rfl) (by simp) ?_
  refine AllReady.cons rfl (fun K hK => ?_) ?_
  rotate_left
  · exact AllReady.nil
  go_simp
  go_wp2_with fail
  refine Calls.mono (laws_toStringS vs A cap _ (hR.ext h2) hn1) ?_
  rintro e w3 ⟨v3, rfl, hO3, hb3⟩
  have h3 : Ext w1 w3 := h2.trans hb3
  have s3 := hb3.size
  have d0 := h3.cell c0
  have d1 := h3.cell c1
  have d2 := h3.cell c2
  have d3 := h3.cell c3
  have d4 := h3.cell c4
  have lc0 := World.block_lt_of_cell? _ _ d0
  dsimp only at lc0
  have lc1 := World.block_lt_of_cell? _ _ d3
  dsimp only at lc1
  obtain ⟨A3, cap3, rfl, hle3, _⟩ := hO3.slice
  have bs3 := hO3
  go_wp2_with fail
  refine wpAny_ready (rs := [7]) (by kernel_rfl) (by simp) ?_
  refine AllReady.cons rfl (fun K hK => ?_) ?_
  rotate_left
  · exact AllReady.nil
  go_simp
  go_wp2_with fail
  refine Calls.mono (hsp A3 cap3 _ hO3.rdA) ?_
  rintro e w4 ⟨v4, rfl, hO4, hb4⟩
  have h4 : Ext w1 w4 := h3.trans hb4
  have hO3 := hO3.ext hb4
  have s4 := hb4.size
  have d0 := h4.cell c0
  have d1 := h4.cell c1
  have d2 := h4.cell c2
  have d3 := h4.cell c3
  have d4 := h4.cell c4
  have lc0 := World.block_lt_of_cell? _ _ d0
  dsimp only at lc0
  have lc1 := World.block_lt_of_cell? _ _ d3
  dsimp only at lc1
  obtain ⟨A4, cap4, rfl, hle4, _⟩ := hO4.slice
  have bs4 := hO4
  go_wp2_with fail
  refine wpAny_take (i := 8) (v := ?_) rfl (by kernel_rfl) (by kernel_rfl) (by kernel_rfl) (fun _ _ _ h => h) (Or.inl ⟨by rfl, ?_⟩) ?_
  rotate_left
  · (intro W9; go_simp; try with_reducible rfl)
  refine wpAny_take (i := 9) (v := ?_) rfl (by kernel_rfl) (by kernel_rfl) (by kernel_rfl) (fun _ _ _ h => h) (Or.inl ⟨by rfl, ?_⟩) ?_
  rotate_left
  · (intro W9; go_simp; try with_reducible rfl)
  refine wpAny_take (i := 10) (v := ?_) rfl (by kernel_rfl) (by kernel_rfl) (by kernel_rfl) (fun _ _ _ h => h) (Or.inl ⟨by rfl, ?_⟩) ?_
  rotate_left
  · (intro W9; go_simp; try with_reducible rfl)
  refine wpAny_ready (rs := [11]) (by kernel_rfl) (by simp) ?_
  refine AllReady.cons rfl (fun K hK => ?_) ?_
  rotate_left
  · exact AllReady.nil
  go_simp
  refine hK _ _ ?_
  clear hK K
  refine wpAny_ready (rs := [12]) (by kernel_rfl) (by simp) ?_
  refine AllReady.cons rfl (fun K hK => ?_) ?_
  rotate_left
  · exact AllReady.nil
  go_simp
  refine hK _ _ ?_
  clear hK K
  refine wpAny_done (by kernel_rfl) ?_ _
  clear hO3
  go_wp2_with fail
  refine Calls.mono (laws_toStringS vs A cap _ (hR.ext h4) hn1) ?_
  rintro e w5 ⟨v5, rfl, hO5, hb5⟩
  have h5 : Ext w1 w5 := h4.trans hb5
  have hO4 := hO4.ext hb5
  have s5 := hb5.size
  have d0 := h5.cell c0
  have d1 := h5.cell c1
  have d2 := h5.cell c2
  have d3 := h5.cell c3
  have d4 := h5.cell c4
  have lc0 := World.block_lt_of_cell? _ _ d0
  dsimp only at lc0
  have lc1 := World.block_lt_of_cell? _ _ d3
  dsimp only at lc1
  obtain ⟨A5, cap5, rfl, hle5, _⟩ := hO5.slice
  have bs5 := hO5
  go_wp2
  refine wp_region_any (by kernel_rfl) ?_
  change wpAny _ _ _ _ _ _ _ (World.drew _)
  refine intro_world (fun WD hWD => ?_)
  have eD : Ext w5 WD := by rw [hWD]; exact (Ext.refl _).drew
  have fD := (Ext.refl w5).trans eD
  clear hWD
  refine wpAny_take (i := 4) (v := ?_) rfl (by kernel_rfl) (by kernel_rfl) (by kernel_rfl) (fun _ _ _ h => h) (Or.inl ⟨by rfl, ?_⟩) ?_
  rotate_left
  · (intro W9; go_simp; try with_reducible rfl)
  refine wpAny_take (i := 5) (v := ?_) rfl (by kernel_rfl) (by kernel_rfl) (by kernel_rfl) (fun _ _ _ h => h) (Or.inl ⟨by rfl, ?_⟩) ?_
  rotate_left
  · (intro W9; go_simp; try with_reducible rfl)
  apply Conv.conv (C := fun W => Ext w5 W)
  case h =>
    intro hk
    have y0 := fD.cell d0
    have y1 := fD.cell d1
    have y2 := fD.cell d2
    have y3 := fD.cell d3
    have y4 := fD.cell d4
    refine wpAny_ready (rs := [0, 2]) (by kernel_rfl) (by simp) ?_
    refine AllReady.cons rfl (fun K hK => ?_) (AllReady.cons rfl (fun K hK => ?_) AllReady.nil)
    · go_simp
      refine hK _ _ ?_
      clear hK K
      refine wpAny_ready (rs := [1, 2]) (by kernel_rfl) (by simp) ?_
      refine AllReady.cons rfl (fun K hK => ?_) (AllReady.cons rfl (fun K hK => ?_) AllReady.nil)
      · go_simp
        go_wp2_with fail
        refine Calls.mono (laws_toMix x _) ?_
        rintro e WA ⟨rfl, hA⟩
        go_wp2_with fail
        have fA := fD.trans hA
        have y0 := fA.cell d0
        have y1 := fA.cell d1
        have y2 := fA.cell d2
        have y3 := fA.cell d3
        have y4 := fA.cell d4
        refine wpAny_ready (rs := [2]) (by kernel_rfl) (by simp) ?_
        refine AllReady.cons rfl (fun K hK => ?_) ?_
        rotate_left
        · exact AllReady.nil
        go_simp
        refine hK _ _ ?_
        clear hK K
        refine wpAny_ready (rs := [3]) (by kernel_rfl) (by simp) ?_
        refine AllReady.cons rfl (fun K hK => ?_) ?_
        rotate_left
        · exact AllReady.nil
        go_simp
        go_wp2_with fail
        refine Calls.mono (laws_toMask m _) ?_
        rintro e WB ⟨rfl, hB⟩
        go_wp2_with fail
        exact hk _ ((eD.trans hA).trans hB)
      · go_simp
        refine hK _ _ ?_
        clear hK K
        refine wpAny_ready (rs := [1]) (by kernel_rfl) (by simp) ?_
        refine AllReady.cons rfl (fun K hK => ?_) ?_
        rotate_left
        · exact AllReady.nil
        go_simp
        go_wp2_with fail
        refine Calls.mono (laws_toMix x _) ?_
        rintro e WA ⟨rfl, hA⟩
        go_wp2_with fail
        have fA := fD.trans hA
        have y0 := fA.cell d0
        have y1 := fA.cell d1
        have y2 := fA.cell d2
        have y3 := fA.cell d3
        have y4 := fA.cell d4
        refine wpAny_ready (rs := [3]) (by kernel_rfl) (by simp) ?_
        refine AllReady.cons rfl (fun K hK => ?_) ?_
        rotate_left
        · exact AllReady.nil
        go_simp
        go_wp2_with fail
        refine Calls.mono (laws_toMask m _) ?_
        rintro e WB ⟨rfl, hB⟩
        go_wp2_with fail
        exact hk _ ((eD.trans hA).trans hB)
    · go_simp
      refine hK _ _ ?_
      clear hK K
      refine wpAny_ready (rs := [0]) (by kernel_rfl) (by simp) ?_
      refine AllReady.cons rfl (fun K hK => ?_) ?_
      rotate_left
      · exact AllReady.nil
      go_simp
      refine hK _ _ ?_
      clear hK K
      refine wpAny_ready (rs := [1]) (by kernel_rfl) (by simp) ?_
      refine AllReady.cons rfl (fun K hK => ?_) ?_
      rotate_left
      · exact AllReady.nil
      go_simp
      go_wp2_with fail
      refine Calls.mono (laws_toMix x _) ?_
      rintro e WA ⟨rfl, hA⟩
      go_wp2_with fail
      have fA := fD.trans hA
      have y0 := fA.cell d0
      have y1 := fA.cell d1
      have y2 := fA.cell d2
      have y3 := fA.cell d3
      have y4 := fA.cell d4
      refine wpAny_ready (rs := [3]) (by kernel_rfl) (by simp) ?_
      refine AllReady.cons rfl (fun K hK => ?_) ?_
      rotate_left
      · exact AllReady.nil
      go_simp
      go_wp2_with fail
      refine Calls.mono (laws_toMask m _) ?_
      rintro e WB ⟨rfl, hB⟩
      go_wp2_with fail
      exact hk _ ((eD.trans hA).trans hB)
  intro w6 hT
  have fT := (Ext.refl w5).trans hT
  have z0 := fT.cell d0
  have z1 := fT.cell d1
  have z2 := fT.cell d2
  have z3 := fT.cell d3
  have z4 := fT.cell d4
  have h6 : Ext w1 w6 := h5.trans hT
  have hb6 : Ext w5 w6 := hT
  clear hT fT eD fD
  have hO4 := hO4.ext hb6
  have hO5 := hO5.ext hb6
  have s6 := hb6.size
  have d0 := h6.cell c0
  have d1 := h6.cell c1
  have d2 := h6.cell c2
  have d3 := h6.cell c3
  have d4 := h6.cell c4
  have lc0 := World.block_lt_of_cell? _ _ d0
  dsimp only at lc0
  have lc1 := World.block_lt_of_cell? _ _ d3
  dsimp only at lc1
  refine wpAny_ready (rs := [6]) (by kernel_rfl) (by simp) ?_
  refine AllReady.cons rfl (fun K hK => ?_) ?_
  rotate_left
  · exact AllReady.nil
  go_simp
  go_wp2_with fail
  refine Calls.mono (him A5 cap5 _ hO5.rdA hle5) ?_
  rintro e w7 ⟨v7, rfl, hO7, hb7⟩
  have h7 : Ext w1 w7 := h6.trans hb7
  have hO4 := hO4.ext hb7
  have hO5 := hO5.ext hb7
  have s7 := hb7.size
  have d0 := h7.cell c0
  have d1 := h7.cell c1
  have d2 := h7.cell c2
  have d3 := h7.cell c3
  have d4 := h7.cell c4
  have lc0 := World.block_lt_of_cell? _ _ d0
  dsimp only at lc0
  have lc1 := World.block_lt_of_cell? _ _ d3
  dsimp only at lc1
  obtain ⟨A7, cap7, rfl, hle7, _⟩ := hO7.slice
  have bs7 := hO7
  go_wp2_with fail
  refine wpAny_take (i := 7) (v := ?_) rfl (by kernel_rfl) (by kernel_rfl) (by kernel_rfl) (fun _ _ _ h => h) (Or.inl ⟨by rfl, ?_⟩) ?_
  rotate_left
  · (intro W9; go_simp; try with_reducible rfl)
  refine wpAny_take (i := 8) (v := ?_) rfl (by kernel_rfl) (by kernel_rfl) (by kernel_rfl) (fun _ _ _ h => h) (Or.inl ⟨by rfl, ?_⟩) ?_
  rotate_left
  · (intro W9; go_simp; try with_reducible rfl)
  refine wpAny_take (i := 9) (v := ?_) rfl (by kernel_rfl) (by kernel_rfl) (by kernel_rfl) (fun _ _ _ h => h) (Or.inl ⟨by rfl, ?_⟩) ?_
  rotate_left
  · (intro W9; go_simp; try with_reducible rfl)
  refine wpAny_ready (rs := [10]) (by kernel_rfl) (by simp) ?_
  refine AllReady.cons rfl (fun K hK => ?_) ?_
  rotate_left
  · exact AllReady.nil
  go_simp
  refine hK _ _ ?_
  clear hK K
  refine wpAny_ready (rs := [11]) (by kernel_rfl) (by simp) ?_
  refine AllReady.cons rfl (fun K hK => ?_) ?_
  rotate_left
  · exact AllReady.nil
  go_simp
  refine hK _ _ ?_
  clear hK K
  refine wpAny_done (by kernel_rfl) ?_ _
  have ap4_5 := Apart.of bs4 bs5 (by omega)
  have ap7_5 := Apart.of' bs5 bs7 (by omega)
  have ap4_7 := Apart.of bs4 bs7 (by omega)
  have base5 : w1.heap.size ≤ w4.heap.size := h4.size
  have base7 : w1.heap.size ≤ w6.heap.size := h6.size
  clear bs4 bs5 bs7
  go_wp2_with fail
  refine Calls.mono (laws_eqInt64S ns _ _ _ _ _ hO7.rdA hO4.rdA hlen) ?_
  rintro e w8 ⟨rfl, hb8⟩
  have h8 : Ext w1 w8 := h7.trans hb8
  have hO4 := hO4.ext hb8
  have hO5 := hO5.ext hb8
  have hO7 := hO7.ext hb8
  have s8 := hb8.size
  have d0 := h8.cell c0
  have d1 := h8.cell c1
  have d2 := h8.cell c2
  have d3 := h8.cell c3
  have d4 := h8.cell c4
  have lc0 := World.block_lt_of_cell? _ _ d0
  dsimp only at lc0
  have lc1 := World.block_lt_of_cell? _ _ d3
  dsimp only at lc1
  go_wp2_with fail
  refine Calls.mono (laws_toStringS vs A cap _ (hR.ext h8) hn1) ?_
  rintro e w9 ⟨v9, rfl, hO9, hb9⟩
  have h9 : Ext w1 w9 := h8.trans hb9
  have hO4 := hO4.ext hb9
  have hO5 := hO5.ext hb9
  have hO7 := hO7.ext hb9
  have s9 := hb9.size
  have d0 := h9.cell c0
  have d1 := h9.cell c1
  have d2 := h9.cell c2
  have d3 := h9.cell c3
  have d4 := h9.cell c4
  have lc0 := World.block_lt_of_cell? _ _ d0
  dsimp only at lc0
  have lc1 := World.block_lt_of_cell? _ _ d3
  dsimp only at lc1
  obtain ⟨A9, cap9, rfl, hle9, _⟩ := hO9.slice
  have bs9 := hO9
  clear bs9
  go_wp2_with fail
  refine Calls.mono (laws_eqStringS vs vs _ _ _ _ _ hO5.rdA hO9.rdA hn1 hn1) ?_
  rintro e w10 ⟨rfl, hb10⟩
  have h10 : Ext w1 w10 := h9.trans hb10
  have hO4 := hO4.ext hb10
  have hO5 := hO5.ext hb10
  have hO7 := hO7.ext hb10
  have hO9 := hO9.ext hb10
  have s10 := hb10.size
  have d0 := h10.cell c0
  have d1 := h10.cell c1
  have d2 := h10.cell c2
  have d3 := h10.cell c3
  have d4 := h10.cell c4
  have lc0 := World.block_lt_of_cell? _ _ d0
  dsimp only at lc0
  have lc1 := World.block_lt_of_cell? _ _ d3
  dsimp only at lc1
  rw [r0]
  clear hO9
  go_wp2_with fail
  refine Calls.mono (laws_markStringS vs _ 1 _ _ hO5 hn1 (by omega)) ?_
  rintro e w11 ⟨rfl, gr11⟩
  have h11 := h10.mark hO5 base5 gr11
  have s11 := gr11.size
  have hO4 := hO4.apart gr11 ap4_5
  have hO7 := hO7.apart gr11 ap7_5
  clear hO5
  clear gr11
  have d0 := h11.cell c0
  have d1 := h11.cell c1
  have d2 := h11.cell c2
  have d3 := h11.cell c3
  have d4 := h11.cell c4
  have lc0 := World.block_lt_of_cell? _ _ d0
  dsimp only at lc0
  have lc1 := World.block_lt_of_cell? _ _ d3
  dsimp only at lc1
  have hkk : ¬ (((1 : Int) + (vs.length : Int) : Int) < 0) := by omega
  go_wp2_with fail
  refine Calls.mono (laws_eqInt64S ns _ _ _ _ _ hO7.rdA hO4.rdA hlen) ?_
  rintro e w12 ⟨rfl, hb12⟩
  have h12 : Ext w1 w12 := h11.trans hb12
  have hO4 := hO4.ext hb12
  have hO7 := hO7.ext hb12
  have s12 := hb12.size
  have d0 := h12.cell c0
  have d1 := h12.cell c1
  have d2 := h12.cell c2
  have d3 := h12.cell c3
  have d4 := h12.cell c4
  have lc0 := World.block_lt_of_cell? _ _ d0
  dsimp only at lc0
  have lc1 := World.block_lt_of_cell? _ _ d3
  dsimp only at lc1
  go_wp2_with fail
  refine Calls.mono (laws_markInt64S ns _ 1 _ _ hO7 hlen (by omega)) ?_
  rintro e w13 ⟨rfl, hM, gr13⟩
  have h13 := h12.mark hO7 base7 gr13
  have s13 := gr13.size
  have hO4 := hO4.apart gr13 ap4_7
  clear gr13
  clear hO7
  have d0 := h13.cell c0
  have d1 := h13.cell c1
  have d2 := h13.cell c2
  have d3 := h13.cell c3
  have d4 := h13.cell c4
  have lc0 := World.block_lt_of_cell? _ _ d0
  dsimp only at lc0
  have lc1 := World.block_lt_of_cell? _ _ d3
  dsimp only at lc1
  go_wp2_with fail
  refine Calls.mono (laws_heldInt64S ns.length _ _ 1 _ hM.rdA hlen (by omega)) ?_
  rintro e w14 ⟨rfl, hb14⟩
  have h14 : Ext w1 w14 := h13.trans hb14
  have hO4 := hO4.ext hb14
  have hM := hM.ext hb14
  have s14 := hb14.size
  have d0 := h14.cell c0
  have d1 := h14.cell c1
  have d2 := h14.cell c2
  have d3 := h14.cell c3
  have d4 := h14.cell c4
  have lc0 := World.block_lt_of_cell? _ _ d0
  dsimp only at lc0
  have lc1 := World.block_lt_of_cell? _ _ d3
  dsimp only at lc1
  go_wp2
  refine wp_region_any (by kernel_rfl) ?_
  change wpAny _ _ _ _ _ _ _ (World.drew _)
  refine intro_world (fun WD hWD => ?_)
  have eD : Ext w14 WD := by rw [hWD]; exact (Ext.refl _).drew
  have fD := (Ext.refl w14).trans eD
  clear hWD
  refine wpAny_take (i := 4) (v := ?_) rfl (by kernel_rfl) (by kernel_rfl) (by kernel_rfl) (fun _ _ _ h => h) (Or.inl ⟨by rfl, ?_⟩) ?_
  rotate_left
  · (intro W9; go_simp; try with_reducible rfl)
  refine wpAny_take (i := 6) (v := ?_) rfl (by kernel_rfl) (by kernel_rfl) (by kernel_rfl) (fun _ _ _ h => h) (Or.inl ⟨by rfl, ?_⟩) ?_
  rotate_left
  · (intro W9; go_simp; try with_reducible rfl)
  apply Conv.conv (C := fun W => Ext w14 W)
  case h =>
    intro hk
    have y0 := fD.cell d0
    have y1 := fD.cell d1
    have y2 := fD.cell d2
    have y3 := fD.cell d3
    have y4 := fD.cell d4
    refine wpAny_ready (rs := [0, 2]) (by kernel_rfl) (by simp) ?_
    refine AllReady.cons rfl (fun K hK => ?_) (AllReady.cons rfl (fun K hK => ?_) AllReady.nil)
    · go_simp
      refine hK _ _ ?_
      clear hK K
      refine wpAny_ready (rs := [1, 2]) (by kernel_rfl) (by simp) ?_
      refine AllReady.cons rfl (fun K hK => ?_) (AllReady.cons rfl (fun K hK => ?_) AllReady.nil)
      · go_simp
        go_wp2_with fail
        refine Calls.mono (laws_toMix x _) ?_
        rintro e WA ⟨rfl, hA⟩
        go_wp2_with fail
        have fA := fD.trans hA
        have y0 := fA.cell d0
        have y1 := fA.cell d1
        have y2 := fA.cell d2
        have y3 := fA.cell d3
        have y4 := fA.cell d4
        refine wpAny_ready (rs := [2]) (by kernel_rfl) (by simp) ?_
        refine AllReady.cons rfl (fun K hK => ?_) ?_
        rotate_left
        · exact AllReady.nil
        go_simp
        refine hK _ _ ?_
        clear hK K
        refine wpAny_ready (rs := [3]) (by kernel_rfl) (by simp) ?_
        refine AllReady.cons rfl (fun K hK => ?_) ?_
        rotate_left
        · exact AllReady.nil
        go_simp
        go_wp2_with fail
        refine Calls.mono (laws_toMask m _) ?_
        rintro e WB ⟨rfl, hB⟩
        go_wp2_with fail
        exact hk _ ((eD.trans hA).trans hB)
      · go_simp
        refine hK _ _ ?_
        clear hK K
        refine wpAny_ready (rs := [1]) (by kernel_rfl) (by simp) ?_
        refine AllReady.cons rfl (fun K hK => ?_) ?_
        rotate_left
        · exact AllReady.nil
        go_simp
        go_wp2_with fail
        refine Calls.mono (laws_toMix x _) ?_
        rintro e WA ⟨rfl, hA⟩
        go_wp2_with fail
        have fA := fD.trans hA
        have y0 := fA.cell d0
        have y1 := fA.cell d1
        have y2 := fA.cell d2
        have y3 := fA.cell d3
        have y4 := fA.cell d4
        refine wpAny_ready (rs := [3]) (by kernel_rfl) (by simp) ?_
        refine AllReady.cons rfl (fun K hK => ?_) ?_
        rotate_left
        · exact AllReady.nil
        go_simp
        go_wp2_with fail
        refine Calls.mono (laws_toMask m _) ?_
        rintro e WB ⟨rfl, hB⟩
        go_wp2_with fail
        exact hk _ ((eD.trans hA).trans hB)
    · go_simp
      refine hK _ _ ?_
      clear hK K
      refine wpAny_ready (rs := [0]) (by kernel_rfl) (by simp) ?_
      refine AllReady.cons rfl (fun K hK => ?_) ?_
      rotate_left
      · exact AllReady.nil
      go_simp
      refine hK _ _ ?_
      clear hK K
      refine wpAny_ready (rs := [1]) (by kernel_rfl) (by simp) ?_
      refine AllReady.cons rfl (fun K hK => ?_) ?_
      rotate_left
      · exact AllReady.nil
      go_simp
      go_wp2_with fail
      refine Calls.mono (laws_toMix x _) ?_
      rintro e WA ⟨rfl, hA⟩
      go_wp2_with fail
      have fA := fD.trans hA
      have y0 := fA.cell d0
      have y1 := fA.cell d1
      have y2 := fA.cell d2
      have y3 := fA.cell d3
      have y4 := fA.cell d4
      refine wpAny_ready (rs := [3]) (by kernel_rfl) (by simp) ?_
      refine AllReady.cons rfl (fun K hK => ?_) ?_
      rotate_left
      · exact AllReady.nil
      go_simp
      go_wp2_with fail
      refine Calls.mono (laws_toMask m _) ?_
      rintro e WB ⟨rfl, hB⟩
      go_wp2_with fail
      exact hk _ ((eD.trans hA).trans hB)
  intro w15 hT
  have fT := (Ext.refl w14).trans hT
  have z0 := fT.cell d0
  have z1 := fT.cell d1
  have z2 := fT.cell d2
  have z3 := fT.cell d3
  have z4 := fT.cell d4
  have h15 : Ext w1 w15 := h14.trans hT
  have hb15 : Ext w14 w15 := hT
  clear hT fT eD fD
  have hO4 := hO4.ext hb15
  have hM := hM.ext hb15
  have s15 := hb15.size
  have d0 := h15.cell c0
  have d1 := h15.cell c1
  have d2 := h15.cell c2
  have d3 := h15.cell c3
  have d4 := h15.cell c4
  have lc0 := World.block_lt_of_cell? _ _ d0
  dsimp only at lc0
  have lc1 := World.block_lt_of_cell? _ _ d3
  dsimp only at lc1
  refine wpAny_ready (rs := [5]) (by kernel_rfl) (by simp) ?_
  refine AllReady.cons rfl (fun K hK => ?_) ?_
  rotate_left
  · exact AllReady.nil
  go_simp
  go_wp2_with fail
  refine Calls.mono (laws_toStringS vs A cap _ (hR.ext h15) hn1) ?_
  rintro e w16 ⟨v16, rfl, hO16, hb16⟩
  have h16 : Ext w1 w16 := h15.trans hb16
  have hO4 := hO4.ext hb16
  have hM := hM.ext hb16
  have s16 := hb16.size
  have d0 := h16.cell c0
  have d1 := h16.cell c1
  have d2 := h16.cell c2
  have d3 := h16.cell c3
  have d4 := h16.cell c4
  have lc0 := World.block_lt_of_cell? _ _ d0
  dsimp only at lc0
  have lc1 := World.block_lt_of_cell? _ _ d3
  dsimp only at lc1
  obtain ⟨A16, cap16, rfl, hle16, _⟩ := hO16.slice
  have bs16 := hO16
  go_wp2_with fail
  refine wpAny_ready (rs := [7]) (by kernel_rfl) (by simp) ?_
  refine AllReady.cons rfl (fun K hK => ?_) ?_
  rotate_left
  · exact AllReady.nil
  go_simp
  go_wp2_with fail
  refine Calls.mono (him A16 cap16 _ hO16.rdA hle16) ?_
  rintro e w17 ⟨v17, rfl, hO17, hb17⟩
  have h17 : Ext w1 w17 := h16.trans hb17
  have hO4 := hO4.ext hb17
  have hM := hM.ext hb17
  have hO16 := hO16.ext hb17
  have s17 := hb17.size
  have d0 := h17.cell c0
  have d1 := h17.cell c1
  have d2 := h17.cell c2
  have d3 := h17.cell c3
  have d4 := h17.cell c4
  have lc0 := World.block_lt_of_cell? _ _ d0
  dsimp only at lc0
  have lc1 := World.block_lt_of_cell? _ _ d3
  dsimp only at lc1
  obtain ⟨A17, cap17, rfl, hle17, _⟩ := hO17.slice
  have bs17 := hO17
  go_wp2_with fail
  refine wpAny_take (i := 8) (v := ?_) rfl (by kernel_rfl) (by kernel_rfl) (by kernel_rfl) (fun _ _ _ h => h) (Or.inl ⟨by rfl, ?_⟩) ?_
  rotate_left
  · (intro W9; go_simp; try with_reducible rfl)
  refine wpAny_take (i := 9) (v := ?_) rfl (by kernel_rfl) (by kernel_rfl) (by kernel_rfl) (fun _ _ _ h => h) (Or.inl ⟨by rfl, ?_⟩) ?_
  rotate_left
  · (intro W9; go_simp; try with_reducible rfl)
  refine wpAny_take (i := 10) (v := ?_) rfl (by kernel_rfl) (by kernel_rfl) (by kernel_rfl) (fun _ _ _ h => h) (Or.inl ⟨by rfl, ?_⟩) ?_
  rotate_left
  · (intro W9; go_simp; try with_reducible rfl)
  refine wpAny_ready (rs := [11]) (by kernel_rfl) (by simp) ?_
  refine AllReady.cons rfl (fun K hK => ?_) ?_
  rotate_left
  · exact AllReady.nil
  go_simp
  refine hK _ _ ?_
  clear hK K
  refine wpAny_ready (rs := [12]) (by kernel_rfl) (by simp) ?_
  refine AllReady.cons rfl (fun K hK => ?_) ?_
  rotate_left
  · exact AllReady.nil
  go_simp
  refine hK _ _ ?_
  clear hK K
  refine wpAny_done (by kernel_rfl) ?_ _
  clear hO16
  go_wp2_with fail
  refine Calls.mono (laws_eqInt64S ns _ _ _ _ _ hO17.rdA hO4.rdA hlen) ?_
  rintro e w18 ⟨rfl, hb18⟩
  have h18 : Ext w1 w18 := h17.trans hb18
  have hO4 := hO4.ext hb18
  have hM := hM.ext hb18
  have hO17 := hO17.ext hb18
  have s18 := hb18.size
  have d0 := h18.cell c0
  have d1 := h18.cell c1
  have d2 := h18.cell c2
  have d3 := h18.cell c3
  have d4 := h18.cell c4
  have lc0 := World.block_lt_of_cell? _ _ d0
  dsimp only at lc0
  have lc1 := World.block_lt_of_cell? _ _ d3
  dsimp only at lc1
  go_wp2_with fail
  refine Calls.mono (laws_heldInt64S ns.length _ _ 1 _ hM.rdA hlen (by omega)) ?_
  rintro e w19 ⟨rfl, hb19⟩
  have h19 : Ext w1 w19 := h18.trans hb19
  have hO4 := hO4.ext hb19
  have hM := hM.ext hb19
  have hO17 := hO17.ext hb19
  have s19 := hb19.size
  have d0 := h19.cell c0
  have d1 := h19.cell c1
  have d2 := h19.cell c2
  have d3 := h19.cell c3
  have d4 := h19.cell c4
  have lc0 := World.block_lt_of_cell? _ _ d0
  dsimp only at lc0
  have lc1 := World.block_lt_of_cell? _ _ d3
  dsimp only at lc1
  go_wp2
  go_ret
  exact ⟨rfl, hw1.trans h19⟩
end Go.Proofs.YtbmompanhigmnaaDoor
