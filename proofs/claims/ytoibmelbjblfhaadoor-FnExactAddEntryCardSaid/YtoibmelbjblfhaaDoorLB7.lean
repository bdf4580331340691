/-
  The walk of the law FnExactAddEntry.
-/
import Derived.Test.YtoibmelbjblfhaaDoorE26
import Derived.Test.YtoibmelbjblfhaaDoorLE1
set_option linter.unusedVariables false
set_option linter.unusedSimpArgs false
set_option maxRecDepth 100000
namespace Go.Proofs.YtoibmelbjblfhaaDoor
open Go.RowKit
theorem addF_len (xs : List Ent) (x : Ent) (h : xs.length ≤ 1048576) : (addF xs x).1.length ≤ 1048576 := by
  unfold addF
  split
  · rename_i hc
    split
    · simp
    · unfold madeF
      split
      · have := cat_len hc
        rw [List.length_append, List.length_singleton]
        omega
      · simp
  · simp
set_option maxHeartbeats 1000000 in
theorem laws_FnExactAddEntry (xs : List Ent) (A : Option Addr) (cap : Nat) (x : Ent) (hx : x.nm.size ≤ 9223372036854775807) (w : World) (hn : xs.length ≤ 9223372036854775807) (hR : Rd encEnt w A xs) (hok : ∀ x ∈ xs, x.nm.size ≤ 9223372036854775807) (hG : Glob w) :
    Calls Tryd.prog 9 #[.slice A xs.length cap, .agg #[.string x.nm, .int .i64 x.see, .int .i64 x.br]] w fun e w' => e = .returned (.bool true) ∧ Ext w w' := by
  have rr := eqL_refl entB entB_refl xs
  obtain ⟨ns, cd, hF⟩ : ∃ ns cd, addF xs x = (ns, cd) := ⟨_, _, rfl⟩
  go_enter Tryd.func9, Tryd.ntmps9
  go_wp2_with fail
  refine Calls.mono (laws_szEntryS xs A cap 1048576 (by omega) (by omega) hn _ (hR.ext (by ((repeat (first | with_reducible exact Ext.refl _ | with_reducible exact hw | with_reducible exact hb9 | with_reducible exact hb8 | with_reducible exact hb7 | with_reducible exact hb6 | with_reducible exact hb5 | with_reducible exact hb4 | with_reducible exact hb3 | with_reducible exact hb2 | with_reducible exact hb1 | with_reducible refine Ext.alloc ?_ _ | with_reducible refine Ext.drew ?_ | ((with_reducible refine Ext.set ?_ ?_ _); focus (dsimp only; omega)) | with_reducible refine Ext.trans ?_ hb9 | with_reducible refine Ext.trans ?_ hb8 | with_reducible refine Ext.trans ?_ hb7 | with_reducible refine Ext.trans ?_ hb6 | with_reducible refine Ext.trans ?_ hb5 | with_reducible refine Ext.trans ?_ hb4 | with_reducible refine Ext.trans ?_ hb3 | with_reducible refine Ext.trans ?_ hb2 | with_reducible refine Ext.trans ?_ hb1 | with_reducible refine Ext.trans ?_ hw))))) hok) ?_
  rintro e w1 ⟨r, rfl, hr, hb1⟩
  have x0 : w1.cell? ⟨w.heap.size, 0, none⟩ = some (.string x.nm) := hb1.cell (by go_simp)
  have x1 : w1.cell? ⟨w.heap.size, 1, none⟩ = some (.int .i64 x.see) := hb1.cell (by go_simp)
  have x2 : w1.cell? ⟨w.heap.size, 2, none⟩ = some (.int .i64 x.br) := hb1.cell (by go_simp)
  have hback : Ext w w1 := by ((repeat (first | with_reducible exact Ext.refl _ | with_reducible exact hw | with_reducible exact hb9 | with_reducible exact hb8 | with_reducible exact hb7 | with_reducible exact hb6 | with_reducible exact hb5 | with_reducible exact hb4 | with_reducible exact hb3 | with_reducible exact hb2 | with_reducible exact hb1 | with_reducible refine Ext.alloc ?_ _ | with_reducible refine Ext.drew ?_ | ((with_reducible refine Ext.set ?_ ?_ _); focus (dsimp only; omega)) | with_reducible refine Ext.trans ?_ hb9 | with_reducible refine Ext.trans ?_ hb8 | with_reducible refine Ext.trans ?_ hb7 | with_reducible refine Ext.trans ?_ hb6 | with_reducible refine Ext.trans ?_ hb5 | with_reducible refine Ext.trans ?_ hb4 | with_reducible refine Ext.trans ?_ hb3 | with_reducible refine Ext.trans ?_ hb2 | with_reducible refine Ext.trans ?_ hb1 | with_reducible refine Ext.trans ?_ hw)))
  clear hb1
  have hb1 := hback
  by_cases hr0 : r < 0
  · go_wp2
    go_ret
    exact ⟨rfl, hb1⟩
  obtain ⟨g0, g1, g2⟩ := hr.resolve_left hr0
  have hn1 : xs.length ≤ 1048576 := by omega
  clear hr
  have hlen : ns.length ≤ 1048576 := by
    have hl := addF_len xs x hn1
    rw [hF] at hl
    exact hl
  have hR := hR.ext hback
  have hG := hG.ext hback
  clear hb1
  have hb1 : Ext w1 w1 := Ext.refl _
  go_wp2_with fail
  refine Calls.mono (laws_szEntry x r (by omega) (by omega) hx _) ?_
  rintro e w1s ⟨rfl, hb1s⟩
  have hW1s := hb1.trans hb1s
  by_cases hr1 : szF x.nm.size r < 0
  · generalize szF x.nm.size r = q at hr1
    go_wp2
    go_ret
    exact ⟨rfl, hback.trans hW1s⟩
  generalize szF x.nm.size r = q1 at hr1
  go_wp2
  refine wp_region_any (by kernel_rfl) ?_
  change wpAny _ _ _ _ _ _ _ (World.drew _)
  refine intro_world (fun WD hWD => ?_)
  have eD : Ext w1s WD := by rw [hWD]; exact (Ext.refl _).drew
  have hD := hW1s.trans eD
  clear hWD
  have y0 := hD.cell x0
  have y1 := hD.cell x1
  have y2 := hD.cell x2
  refine wpAny_take (i := 0) (v := ?_) rfl (by kernel_rfl) (by kernel_rfl) (by kernel_rfl) (fun _ _ _ h => h) (Or.inl ⟨by rfl, ?_⟩) ?_
  rotate_left
  · (intro W9; go_simp; try with_reducible rfl)
  refine wpAny_ready (rs := [1, 2]) (by kernel_rfl) (by simp) ?_
  refine AllReady.cons rfl (fun K hK => ?_) (AllReady.cons rfl (fun K hK => ?_) AllReady.nil)
  all_goals first
    | (go_simp
       go_wp2_with fail
       refine Calls.mono (laws_toEntryS xs A cap _ (hR.ext hD) hn1) ?_
       rintro e w2 ⟨v2, rfl, hO2, hb2⟩
       obtain ⟨A2, cap2, rfl, hle2, hR2⟩ := hO2.slice
       go_wp2_with fail
       have hW2 := hD.trans hb2
       have z0 := hW2.cell x0
       have z1 := hW2.cell x1
       have z2 := hW2.cell x2
       refine wpAny_ready (rs := [2]) (by kernel_rfl) (by simp) ?_
       refine AllReady.cons rfl (fun K hK => ?_) ?_
       rotate_left
       · exact AllReady.nil
       go_simp
       refine hK _ _ ?_
       clear hK K)
    | (go_simp
       refine hK _ _ ?_
       clear hK K
       refine wpAny_ready (rs := [1]) (by kernel_rfl) (by simp) ?_
       refine AllReady.cons rfl (fun K hK => ?_) ?_
       rotate_left
       · exact AllReady.nil
       go_simp
       go_wp2_with fail
       refine Calls.mono (laws_toEntryS xs A cap _ (hR.ext hD) hn1) ?_
       rintro e w2 ⟨v2, rfl, hO2, hb2⟩
       obtain ⟨A2, cap2, rfl, hle2, hR2⟩ := hO2.slice
       go_wp2_with fail
       have hW2 := hD.trans hb2
       have z0 := hW2.cell x0
       have z1 := hW2.cell x1
       have z2 := hW2.cell x2)
  all_goals
    have hC2 : CatArg w2 A2 cap2 xs := ⟨hR2, hle2, hn1, hok⟩
    refine wpAny_ready (rs := [3]) (by kernel_rfl) (by simp) ?_
    refine AllReady.cons rfl (fun K hK => ?_) ?_
    rotate_left
    · exact AllReady.nil
    go_simp
    go_wp2_with fail
    refine Calls.mono (laws_toEntry x _) ?_
    rintro e w2p0 ⟨rfl, hb2p0⟩
    go_wp2_with fail
    have hW2p0 := hW2.trans hb2p0
    have hC2 := hC2.ext hb2p0
    have hG2 := hG.ext hW2p0
    refine wpAny_ready (rs := [4]) (by kernel_rfl) (by simp) ?_
    refine AllReady.cons rfl (fun K hK => ?_) ?_
    rotate_left
    · exact AllReady.nil
    go_simp
    go_wp2_with fail
    refine Calls.mono (spec_AddEntry xs x hx _ _ _ hC2) ?_
    rintro e w3 ⟨v3, rfl, hO3, hb3⟩
    have hW3 := hW2p0.trans hb3
    rw [hF] at hO3
    rw [hF]
    dsimp only at hO3 ⊢
    obtain ⟨A3, cap3, rfl, hle3, hR3⟩ := hO3.slice
    go_wp2_with fail
    refine wpAny_take (i := 5) (v := ?_) rfl (by kernel_rfl) (by kernel_rfl) (by kernel_rfl) (fun _ _ _ h => h) (Or.inl ⟨by rfl, ?_⟩) ?_
    rotate_left
    · (intro W9; go_simp; try with_reducible rfl)
    refine wpAny_take (i := 6) (v := ?_) rfl (by kernel_rfl) (by kernel_rfl) (by kernel_rfl) (fun _ _ _ h => h) (Or.inl ⟨by rfl, ?_⟩) ?_
    rotate_left
    · (intro W9; go_simp; try with_reducible rfl)
    refine wpAny_take (i := 7) (v := ?_) rfl (by kernel_rfl) (by kernel_rfl) (by kernel_rfl) (fun _ _ _ h => h) (Or.inl ⟨by rfl, ?_⟩) ?_
    rotate_left
    · (intro W9; go_simp; try with_reducible rfl)
    refine wpAny_ready (rs := [8]) (by kernel_rfl) (by simp) ?_
    refine AllReady.cons rfl (fun K hK => ?_) ?_
    rotate_left
    · exact AllReady.nil
    go_simp
    refine hK _ _ ?_
    clear hK K
    refine wpAny_ready (rs := [9]) (by kernel_rfl) (by simp) ?_
    refine AllReady.cons rfl (fun K hK => ?_) ?_
    rotate_left
    · exact AllReady.nil
    go_simp
    refine hK _ _ ?_
    clear hK K
    refine wpAny_done (by kernel_rfl) ?_ _
    have hs23 : w2.heap.size ≤ w3.heap.size := by have := hb3.size; have := hb2p0.size;  omega
    go_wp2_with fail
    refine Calls.mono (laws_toEntryS xs A cap _ (hR.ext hW3) hn1) ?_
    rintro e w4 ⟨v4, rfl, hO4, hb4⟩
    have hW4 := hW3.trans hb4
    obtain ⟨A4, cap4, rfl, hle4, hR4⟩ := hO4.slice
    have hC4 : CatArg w4 A4 cap4 xs := ⟨hR4, hle4, hn1, hok⟩
    have y0 := hW4.cell x0
    have y1 := hW4.cell x1
    have y2 := hW4.cell x2
    have hC4q0 := hC4
    go_wp2_with fail
    refine Calls.mono (laws_toEntry x _) ?_
    rintro e w4p0 ⟨rfl, hb4p0⟩
    have hW4p0 := hW4.trans hb4p0
    have hC4 := hC4q0.ext hb4p0
    have hG4 := hG.ext hW4p0
    go_wp2_with fail
    refine Calls.mono (impl_AddEntry xs x hx _ _ _ hC4 hG4) ?_
    rintro e w5 ⟨v5, rfl, hO5, hb5⟩
    have hW5 := hW4p0.trans hb5
    rw [hF] at hO5
    rw [hF]
    dsimp only at hO5 ⊢
    obtain ⟨A5, cap5, rfl, hle5, hR5⟩ := hO5.slice
    have sz23 := hb3.size
    have sz34 := hb4.size
    have sz45 := hb5.size
    have ap34 := Apart.of hO3 hO4 (Nat.le_refl _)
    have ap54 : Apart (.slice A5 _ cap5) (.slice A4 _ cap4) := Apart.of' hO4 hO5 (by have := hb4p0.size;  omega)
    have ap35 := Apart.of hO3 hO5 (by have := hb4p0.size;  omega)
    have base4 : w1.heap.size ≤ w3.heap.size := hW3.size
    have base5 : w1.heap.size ≤ w4p0.heap.size := hW4p0.size
    have hO4at5 := (hO4.ext (hb4p0)).ext hb5
    have hO3at5 := hO3.ext ((hb4.trans (hb4p0)).trans hb5)
    clear hO3 hO4 hO2 hR3 hR4
    have rn := eqL_refl entB entB_refl ns
    go_wp2_with fail
    refine Calls.mono (laws_eqEntryS ns ns _ _ _ _ _ hO5.rdA hO3at5.rdA hlen hlen) ?_
    rintro e w6 ⟨rfl, hb6⟩
    have hW6 := hW5.trans hb6
    rw [rn]
    have hO3at6 := hO3at5.ext hb6
    have hO4at6 := hO4at5.ext hb6
    have hO5at6 := hO5.ext hb6
    clear hO3at5 hO4at5 hO5 hR5
    go_wp2_with fail
    refine Calls.mono (laws_toEntryS xs A cap _ (hR.ext hW6) hn1) ?_
    rintro e w7 ⟨v7, rfl, hO7, hb7⟩
    have hW7 := hW6.trans hb7
    obtain ⟨A7, cap7, rfl, hle7, hR7⟩ := hO7.slice
    have hC7 : CatArg w7 A7 cap7 xs := ⟨hR7, hle7, hn1, hok⟩
    have hO3at7 := hO3at6.ext hb7
    have hO4at7 := hO4at6.ext hb7
    have hO5at7 := hO5at6.ext hb7
    clear hO3at6 hO4at6 hO5at6
    go_wp2_with fail
    refine Calls.mono (laws_eqEntryS xs xs _ _ _ _ _ hO4at7.rdA hR7 hn1 hn1) ?_
    rintro e w8 ⟨rfl, hb8⟩
    have hW8 := hW7.trans hb8
    rw [rr]
    have hO3at8 := hO3at7.ext hb8
    have hO4at8 := hO4at7.ext hb8
    have hO5at8 := hO5at7.ext hb8
    clear hO3at7 hO4at7 hO5at7 hO7 hR7
    go_wp2_with fail
    refine Calls.mono (laws_markEntryS xs _ 1 _ _ hO4at8 hn1 (by omega)) ?_
    rintro e w9 ⟨rfl, hM4, gr9⟩
    have hW9 := hW8.mark hO4at8 base4 gr9
    have hO3at9 := hO3at8.apart gr9 ap34
    have hO5at9 := hO5at8.apart gr9 ap54
    clear hO3at8 hO4at8 hO5at8 hM4 gr9 ap34 ap54
    go_wp2_with fail
    refine Calls.mono (laws_eqEntryS ns ns _ _ _ _ _ hO5at9.rdA hO3at9.rdA hlen hlen) ?_
    rintro e w10 ⟨rfl, hb10⟩
    have hW10 := hW9.trans hb10
    rw [rn]
    have hO3at10 := hO3at9.ext hb10
    have hO5at10 := hO5at9.ext hb10
    clear hO3at9 hO5at9
    go_wp2_with fail
    refine Calls.mono (laws_markEntryS ns _ 1 _ _ hO5at10 hlen (by omega)) ?_
    rintro e w11 ⟨rfl, hM5, gr11⟩
    have hW11 := hW10.mark hO5at10 base5 gr11
    have hO3at11 := hO3at10.apart gr11 ap35
    clear hO3at10 hO5at10 gr11 ap35
    go_wp2_with fail
    refine Calls.mono (laws_heldEntryS ns.length _ _ 1 _ hM5.rdA hlen (by omega)) ?_
    rintro e w12 ⟨rfl, hb12⟩
    have hW12 := hW11.trans hb12
    have hM5at12 := hM5.ext hb12
    have hO3at12 := hO3at11.ext hb12
    clear hM5 hO3at11
    go_wp2
    refine wp_region_any (by kernel_rfl) ?_
    change wpAny _ _ _ _ _ _ _ (World.drew _)
    refine intro_world (fun WD hWD => ?_)
    have eD : Ext w12 WD := by rw [hWD]; exact (Ext.refl _).drew
    have hD := hW12.trans eD
    clear hWD
    have y0 := hD.cell x0
    have y1 := hD.cell x1
    have y2 := hD.cell x2
    refine wpAny_take (i := 0) (v := ?_) rfl (by kernel_rfl) (by kernel_rfl) (by kernel_rfl) (fun _ _ _ h => h) (Or.inl ⟨by rfl, ?_⟩) ?_
    rotate_left
    · (intro W9; go_simp; try with_reducible rfl)
    refine wpAny_ready (rs := [1, 2]) (by kernel_rfl) (by simp) ?_
    refine AllReady.cons rfl (fun K hK => ?_) (AllReady.cons rfl (fun K hK => ?_) AllReady.nil)
    all_goals first
      | (go_simp
         go_wp2_with fail
         refine Calls.mono (laws_toEntryS xs A cap _ (hR.ext hD) hn1) ?_
         rintro e w13 ⟨v13, rfl, hO13, hb13⟩
         obtain ⟨A13, cap13, rfl, hle13, hR13⟩ := hO13.slice
         go_wp2_with fail
         have hW13 := hD.trans hb13
         have z0 := hW13.cell x0
         have z1 := hW13.cell x1
         have z2 := hW13.cell x2
         refine wpAny_ready (rs := [2]) (by kernel_rfl) (by simp) ?_
         refine AllReady.cons rfl (fun K hK => ?_) ?_
         rotate_left
         · exact AllReady.nil
         go_simp
         refine hK _ _ ?_
         clear hK K)
      | (go_simp
         refine hK _ _ ?_
         clear hK K
         refine wpAny_ready (rs := [1]) (by kernel_rfl) (by simp) ?_
         refine AllReady.cons rfl (fun K hK => ?_) ?_
         rotate_left
         · exact AllReady.nil
         go_simp
         go_wp2_with fail
         refine Calls.mono (laws_toEntryS xs A cap _ (hR.ext hD) hn1) ?_
         rintro e w13 ⟨v13, rfl, hO13, hb13⟩
         obtain ⟨A13, cap13, rfl, hle13, hR13⟩ := hO13.slice
         go_wp2_with fail
         have hW13 := hD.trans hb13
         have z0 := hW13.cell x0
         have z1 := hW13.cell x1
         have z2 := hW13.cell x2)
    all_goals
      have hC13 : CatArg w13 A13 cap13 xs := ⟨hR13, hle13, hn1, hok⟩
      refine wpAny_ready (rs := [3]) (by kernel_rfl) (by simp) ?_
      refine AllReady.cons rfl (fun K hK => ?_) ?_
      rotate_left
      · exact AllReady.nil
      go_simp
      go_wp2_with fail
      refine Calls.mono (laws_toEntry x _) ?_
      rintro e w13p0 ⟨rfl, hb13p0⟩
      go_wp2_with fail
      have hW13p0 := hW13.trans hb13p0
      have hC13 := hC13.ext hb13p0
      have hG13 := hG.ext hW13p0
      refine wpAny_ready (rs := [4]) (by kernel_rfl) (by simp) ?_
      refine AllReady.cons rfl (fun K hK => ?_) ?_
      rotate_left
      · exact AllReady.nil
      go_simp
      go_wp2_with fail
      refine Calls.mono (impl_AddEntry xs x hx _ _ _ hC13 hG13) ?_
      rintro e w14 ⟨v14, rfl, hO14, hb14⟩
      have hW14 := hW13p0.trans hb14
      rw [hF] at hO14
      rw [hF]
      dsimp only at hO14 ⊢
      obtain ⟨A14, cap14, rfl, hle14, hR14⟩ := hO14.slice
      go_wp2_with fail
      refine wpAny_take (i := 5) (v := ?_) rfl (by kernel_rfl) (by kernel_rfl) (by kernel_rfl) (fun _ _ _ h => h) (Or.inl ⟨by rfl, ?_⟩) ?_
      rotate_left
      · (intro W9; go_simp; try with_reducible rfl)
      refine wpAny_take (i := 6) (v := ?_) rfl (by kernel_rfl) (by kernel_rfl) (by kernel_rfl) (fun _ _ _ h => h) (Or.inl ⟨by rfl, ?_⟩) ?_
      rotate_left
      · (intro W9; go_simp; try with_reducible rfl)
      refine wpAny_take (i := 7) (v := ?_) rfl (by kernel_rfl) (by kernel_rfl) (by kernel_rfl) (fun _ _ _ h => h) (Or.inl ⟨by rfl, ?_⟩) ?_
      rotate_left
      · (intro W9; go_simp; try with_reducible rfl)
      refine wpAny_ready (rs := [8]) (by kernel_rfl) (by simp) ?_
      refine AllReady.cons rfl (fun K hK => ?_) ?_
      rotate_left
      · exact AllReady.nil
      go_simp
      refine hK _ _ ?_
      clear hK K
      refine wpAny_ready (rs := [9]) (by kernel_rfl) (by simp) ?_
      refine AllReady.cons rfl (fun K hK => ?_) ?_
      rotate_left
      · exact AllReady.nil
      go_simp
      refine hK _ _ ?_
      clear hK K
      refine wpAny_done (by kernel_rfl) ?_ _
      have hM5at14 := (hM5at12.ext ((eD.trans hb13).trans hb13p0)).ext hb14
      have hO3at14 := (hO3at12.ext ((eD.trans hb13).trans hb13p0)).ext hb14
      clear hM5at12 hO3at12
      go_wp2_with fail
      refine Calls.mono (laws_eqEntryS ns ns _ _ _ _ _ hO14.rdA hO3at14.rdA hlen hlen) ?_
      rintro e w15 ⟨rfl, hb15⟩
      have hW15 := hW14.trans hb15
      rw [rn]
      have hM5at15 := hM5at14.ext hb15
      go_wp2_with fail
      refine Calls.mono (laws_heldEntryS ns.length _ _ 1 _ hM5at15.rdA hlen (by omega)) ?_
      rintro e w16 ⟨rfl, hb16⟩
      have hW16 := hW15.trans hb16
      go_wp2
      go_ret
      exact ⟨rfl, hback.trans hW16⟩

