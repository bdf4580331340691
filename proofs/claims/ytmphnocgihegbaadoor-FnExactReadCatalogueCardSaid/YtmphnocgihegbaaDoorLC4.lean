/-
  The walk of the law FnExactReadCatalogue.
-/
import Derived.Test.YtmphnocgihegbaaDoorM3
import Derived.Test.YtmphnocgihegbaaDoorE32
import Derived.Test.YtmphnocgihegbaaDoorLE1
set_option linter.unusedVariables false
set_option linter.unusedSimpArgs false
set_option maxRecDepth 100000
namespace Go.Proofs.YtmphnocgihegbaaDoor
open Go.RowKit
theorem readF_len (text : ByteArray) : (readF text).1.length ≤ 1048576 := by
  unfold readF
  split
  · rename_i h
    unfold readB at h
    rw [Bool.and_eq_true] at h
    have := cat_len h.1
    show (listS text).length ≤ _
    omega
  · simp
set_option maxHeartbeats 1000000 in
theorem laws_FnExactReadCatalogue (text : ByteArray) (w : World) (hG : Glob w) :
    Calls Tryd.prog 4 #[.string text] w fun e w' => e = .returned (.bool true) ∧ Ext w w' := by
  have hlen := readF_len text
  obtain ⟨ns, cd, hF⟩ : ∃ ns cd, readF text = (ns, cd) := ⟨_, _, rfl⟩
  rw [hF] at hlen
  have rn := eqL_refl entB entB_refl ns
  by_cases hs : text.size ≤ 1048576
  · have hq : ((1048576 : Int) < text.size) = False := by simp only [eq_iff_iff, iff_false]; omega
    go_enter Tryd.func4, Tryd.ntmps4
    go_wp2_with fail
    refine Calls.mono (spec_ReadCatalogue text _ hs) ?_
    rintro e w3 ⟨v3, rfl, hO3, hb3⟩
    rw [hF] at hO3
    rw [hF]
    dsimp only at hO3 ⊢
    obtain ⟨A3, cap3, rfl, hle3, hR3⟩ := hO3.slice
    have hW3 : Ext w w3 := hb3
    go_wp2_with fail
    refine Calls.mono (impl_ReadCatalogue text _ hs (hG.ext hW3)) ?_
    rintro e w5 ⟨v5, rfl, hO5, hb5⟩
    rw [hF] at hO5
    rw [hF]
    dsimp only at hO5 ⊢
    obtain ⟨A5, cap5, rfl, hle5, hR5⟩ := hO5.slice
    have hW5 := hW3.trans hb5
    have sz3 := hb3.size
    have sz5 := hb5.size
    have ap35 := Apart.of hO3 hO5 (Nat.le_refl _)
    have base5 : w.heap.size ≤ w3.heap.size := hW3.size
    have hO3at5 := hO3.ext hb5
    clear hO3 hR3
    go_wp2_with fail
    refine Calls.mono (laws_eqEntryS ns ns _ _ _ _ _ hO5.rdA hO3at5.rdA hlen hlen) ?_
    rintro e w6 ⟨rfl, hb6⟩
    have hW6 := hW5.trans hb6
    rw [rn]
    have hO3at6 := hO3at5.ext hb6
    have hO5at6 := hO5.ext hb6
    clear hO3at5 hO5 hR5
    go_wp2_with fail
    refine Calls.mono (laws_markEntryS ns _ 1 _ _ hO5at6 hlen (by omega)) ?_
    rintro e w11 ⟨rfl, hM5, gr11⟩
    have hW11 := hW6.mark hO5at6 base5 gr11
    have hO3at11 := hO3at6.apart gr11 ap35
    clear hO3at6 gr11 ap35
    go_wp2_with fail
    refine Calls.mono (laws_heldEntryS ns.length _ _ 1 _ hM5.rdA hlen (by omega)) ?_
    rintro e w12 ⟨rfl, hb12⟩
    have hW12 := hW11.trans hb12
    have hM5at12 := hM5.ext hb12
    have hO3at12 := hO3at11.ext hb12
    clear hM5 hO3at11
    go_wp2_with fail
    refine Calls.mono (impl_ReadCatalogue text _ hs (hG.ext hW12)) ?_
    rintro e w14 ⟨v14, rfl, hO14, hb14⟩
    rw [hF] at hO14
    rw [hF]
    dsimp only at hO14 ⊢
    obtain ⟨A14, cap14, rfl, hle14, hR14⟩ := hO14.slice
    have hW14 := hW12.trans hb14
    have hM5at14 := hM5at12.ext hb14
    have hO3at14 := hO3at12.ext hb14
    clear hM5at12 hO3at12
    go_wp2_with fail
    refine Calls.mono (laws_eqEntryS ns ns _ _ _ _ _ hO14.rdA hO3at14.rdA hlen hlen) ?_
    rintro e w15 ⟨rfl, hb15⟩
    have hW15 := hW14.trans hb15
    rw [rn]
    have hM5at15 := hM5at14.ext hb15
    go_wp2_with fail
    refine Calls.mono (laws_heldEntryS ns.length _ _ 1 _ hM5at15.rdA hlen (by omega)) ?_
    rintro e w16 ⟨rfl, hb16⟩
    have hW16 := hW15.trans hb16
    go_wp2
    go_ret
    exact ⟨rfl, hW16⟩
  · have hq : ((1048576 : Int) < text.size) = True := by simp only [eq_iff_iff, iff_true]; omega
    go_enter Tryd.func4, Tryd.ntmps4
    go_wp2
    go_ret
    exact ⟨rfl, by ((repeat (first | with_reducible exact Ext.refl _ | with_reducible exact hw | with_reducible exact hb9 | with_reducible exact hb8 | with_reducible exact hb7 | with_reducible exact hb6 | with_reducible exact hb5 | with_reducible exact hb4 | with_reducible exact hb3 | with_reducible exact hb2 | with_reducible exact hb1 | with_reducible refine Ext.alloc ?_ _ | with_reducible refine Ext.drew ?_ | ((with_reducible refine Ext.set ?_ ?_ _); focus (dsimp only; omega)) | with_reducible refine Ext.trans ?_ hb9 | with_reducible refine Ext.trans ?_ hb8 | with_reducible refine Ext.trans ?_ hb7 | with_reducible refine Ext.trans ?_ hb6 | with_reducible refine Ext.trans ?_ hb5 | with_reducible refine Ext.trans ?_ hb4 | with_reducible refine Ext.trans ?_ hb3 | with_reducible refine Ext.trans ?_ hb2 | with_reducible refine Ext.trans ?_ hb1 | with_reducible refine Ext.trans ?_ hw)))⟩
