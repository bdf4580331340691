/-
  The walk of the law FnExactCatalogueText.
-/
import Derived.Test.YtoibmelbjblfhaaDoorE13
import Derived.Test.YtoibmelbjblfhaaDoorLE1
set_option linter.unusedVariables false
set_option linter.unusedSimpArgs false
set_option maxRecDepth 100000
namespace Go.Proofs.YtoibmelbjblfhaaDoor
open Go.RowKit
set_option maxHeartbeats 400000 in
theorem laws_FnExactCatalogueText (xs : List Ent) (A : Option Addr) (cap : Nat)  (w : World) (hn : xs.length ≤ 9223372036854775807) (hR : Rd encEnt w A xs) (hok : ∀ x ∈ xs, x.nm.size ≤ 9223372036854775807) (hG : Glob w) :
    Calls Tryd.prog 6 #[.slice A xs.length cap] w fun e w' => e = .returned (.bool true) ∧ Ext w w' := by
  have rr := eqL_refl entB entB_refl xs
  go_enter Tryd.func6, Tryd.ntmps6
  go_wp2_with fail
  refine Calls.mono (laws_szEntryS xs A cap 1048576 (by omega) (by omega) hn _ hR hok) ?_
  rintro e w1 ⟨r, rfl, hr, hb1⟩
  by_cases hr0 : r < 0
  · go_wp2
    go_ret
    exact ⟨rfl, hb1⟩
  obtain ⟨g0, g1, g2⟩ := hr.resolve_left hr0
  have hn1 : xs.length ≤ 1048576 := by omega
  clear hr
  go_wp2_with fail
  refine Calls.mono (laws_toEntryS xs A cap _ (hR.ext hb1) hn1) ?_
  rintro e w2 ⟨v2, rfl, hO2, hb2⟩
  obtain ⟨A2, cap2, rfl, hle2, hR2⟩ := hO2.slice
  obtain ⟨hc2, hf2, hz2⟩ := bcell3 hb2
  try simp at hz2
  have hC2 : CatArg w2 A2 cap2 xs := ⟨hR2, hle2, hn1, hok⟩
  clear hc2 hf2 hO2
  go_wp2_with fail
  refine Calls.mono (spec_CatalogueText xs _ _ _ hC2) ?_
  rintro e w3 ⟨rfl, hb3⟩
  have hw3 : Ext w w3 := by ((repeat (first | with_reducible exact Ext.refl _ | with_reducible exact hw | with_reducible exact hb9 | with_reducible exact hb8 | with_reducible exact hb7 | with_reducible exact hb6 | with_reducible exact hb5 | with_reducible exact hb4 | with_reducible exact hb3 | with_reducible exact hb2 | with_reducible exact hb1 | with_reducible refine Ext.alloc ?_ _ | with_reducible refine Ext.drew ?_ | ((with_reducible refine Ext.set ?_ ?_ _); focus (dsimp only; omega)) | with_reducible refine Ext.trans ?_ hb9 | with_reducible refine Ext.trans ?_ hb8 | with_reducible refine Ext.trans ?_ hb7 | with_reducible refine Ext.trans ?_ hb6 | with_reducible refine Ext.trans ?_ hb5 | with_reducible refine Ext.trans ?_ hb4 | with_reducible refine Ext.trans ?_ hb3 | with_reducible refine Ext.trans ?_ hb2 | with_reducible refine Ext.trans ?_ hb1 | with_reducible refine Ext.trans ?_ hw)))
  go_wp2_with fail
  refine Calls.mono (laws_toEntryS xs A cap _ (hR.ext hw3) hn1) ?_
  rintro e w4 ⟨v4, rfl, hO4, hb4⟩
  obtain ⟨A4, cap4, rfl, hle4, hR4⟩ := hO4.slice
  obtain ⟨hc4, hf4, hz4⟩ := bcell3 hb4
  try simp at hz4
  have hC4 : CatArg w4 A4 cap4 xs := ⟨hR4, hle4, hn1, hok⟩
  have hG4 : Glob w4 := hG.ext (hw3.trans hb4)
  clear hc4 hf4 hO4
  go_wp2_with fail
  refine Calls.mono (impl_CatalogueText xs _ _ _ hC4 hG4) ?_
  rintro e w5 ⟨rfl, hb5⟩
  have hw5 : Ext w w5 := by ((repeat (first | with_reducible exact Ext.refl _ | with_reducible exact hw | with_reducible exact hb9 | with_reducible exact hb8 | with_reducible exact hb7 | with_reducible exact hb6 | with_reducible exact hb5 | with_reducible exact hb4 | with_reducible exact hb3 | with_reducible exact hb2 | with_reducible exact hb1 | with_reducible refine Ext.alloc ?_ _ | with_reducible refine Ext.drew ?_ | ((with_reducible refine Ext.set ?_ ?_ _); focus (dsimp only; omega)) | with_reducible refine Ext.trans ?_ hb9 | with_reducible refine Ext.trans ?_ hb8 | with_reducible refine Ext.trans ?_ hb7 | with_reducible refine Ext.trans ?_ hb6 | with_reducible refine Ext.trans ?_ hb5 | with_reducible refine Ext.trans ?_ hb4 | with_reducible refine Ext.trans ?_ hb3 | with_reducible refine Ext.trans ?_ hb2 | with_reducible refine Ext.trans ?_ hb1 | with_reducible refine Ext.trans ?_ hw)))
  generalize textF xs = q26
  go_wp2_with fail
  refine Calls.mono (laws_toEntryS xs A cap _ (hR.ext hw5) hn1) ?_
  rintro e w6 ⟨v6, rfl, hO6, hb6⟩
  obtain ⟨A6, cap6, rfl, hle6, hR6⟩ := hO6.slice
  obtain ⟨hc6, hf6, hz6⟩ := bcell3 hb6
  try simp at hz6
  clear hc6 hf6 hO6
  go_wp2_with fail
  refine Calls.mono (laws_eqEntryS xs xs _ _ _ _ _ ((hR4.ext hb5).ext hb6) hR6 hn1 hn1) ?_
  rintro e w7 ⟨rfl, hb7⟩
  rw [rr]
  go_wp2
  go_ret
  exact ⟨rfl, (hw5.trans hb6).trans hb7⟩

