/-
  The walk of the law FnExactSameCatalogue.
-/
import Derived.Test.YtoibmelbjblfhaaE1
set_option linter.unusedVariables false
set_option linter.unusedSimpArgs false
namespace Go.Proofs.Ytoibmelbjblfhaa
open Go.RowKit
set_option maxHeartbeats 400000 in
theorem laws_szEntryS (xs : List Ent) (A : Option Addr) (cap : Nat) (left : Int) (h0 : 0 ≤ left) (h1 : left ≤ 1048576) (hn : xs.length ≤ 9223372036854775807) (w : World) (hR : Rd encEnt w A xs) (hok : ∀ x ∈ xs, x.nm.size ≤ 9223372036854775807) :
    Calls Try.prog 4 #[.slice A xs.length cap, .int .i64 left] w fun e w' => ∃ r : Int, e = .returned (.int .i64 r) ∧ (r < 0 ∨ (0 ≤ r ∧ r ≤ left ∧ (xs.length : Int) ≤ left)) ∧ Ext w w' := by
  by_cases hl : (xs.length : Int) ≤ left
  · go_enter Try.func4, Try.ntmps4
    go_wp2
    go_loopg [5, 1] xs.length (fun g i l wr => ∃ k : Nat, ∃ c : Int, g = xs.length - k ∧ k ≤ xs.length ∧ i = .int .i64 k ∧ l = .int .i64 c ∧ 0 ≤ c ∧ c ≤ left ∧ Ext w wr)
    case atStart => exact ⟨0, left - xs.length, by omega, by omega, rfl, rfl, by omega, by omega, Ext.refl _⟩
    case round =>
      obtain ⟨k, c, hg, hk, rfl, rfl, hc0, hc1, hw⟩ := hrel
      by_cases hkl : k < xs.length
      · obtain ⟨b, off, hA, hlt, _⟩ := hR k hkl
        subst hA
        obtain ⟨m0, m1, m2, m3⟩ := (hR.ext hw).ent k hkl
        have hok1 := hok xs[k] (List.getElem_mem hkl)
        go_wp2_with fail
        refine Calls.mono (laws_szEntry xs[k] c hc0 (by omega) hok1 _) ?_
        rintro e w1 ⟨rfl, hb1⟩
        by_cases hr : szF (xs[k].nm.size) c < 0
        · generalize szF (xs[k].nm.size) c = r at hr
          go_wp2
          go_ret
          exact ⟨_, rfl, .inl (by omega), by ((repeat (first | with_reducible exact Ext.refl _ | with_reducible exact hw | with_reducible exact hb9 | with_reducible exact hb8 | with_reducible exact hb7 | with_reducible exact hb6 | with_reducible exact hb5 | with_reducible exact hb4 | with_reducible exact hb3 | with_reducible exact hb2 | with_reducible exact hb1 | with_reducible refine Ext.alloc ?_ _ | with_reducible refine Ext.drew ?_ | ((with_reducible refine Ext.set ?_ ?_ _); focus (dsimp only; omega)) | with_reducible refine Ext.trans ?_ hb9 | with_reducible refine Ext.trans ?_ hb8 | with_reducible refine Ext.trans ?_ hb7 | with_reducible refine Ext.trans ?_ hb6 | with_reducible refine Ext.trans ?_ hb5 | with_reducible refine Ext.trans ?_ hb4 | with_reducible refine Ext.trans ?_ hb3 | with_reducible refine Ext.trans ?_ hb2 | with_reducible refine Ext.trans ?_ hb1 | with_reducible refine Ext.trans ?_ hw)))⟩
        · have hr2 : szF (xs[k].nm.size) c ≤ c := by unfold szF; split <;> omega
          generalize szF (xs[k].nm.size) c = r at hr hr2
          go_wp2
          go_roundg (xs.length - (k + 1))
          case rel => exact ⟨k + 1, r, rfl, hkl, rfl, rfl, by omega, by omega, by ((repeat (first | with_reducible exact Ext.refl _ | with_reducible exact hw | with_reducible exact hb9 | with_reducible exact hb8 | with_reducible exact hb7 | with_reducible exact hb6 | with_reducible exact hb5 | with_reducible exact hb4 | with_reducible exact hb3 | with_reducible exact hb2 | with_reducible exact hb1 | with_reducible refine Ext.alloc ?_ _ | with_reducible refine Ext.drew ?_ | ((with_reducible refine Ext.set ?_ ?_ _); focus (dsimp only; omega)) | with_reducible refine Ext.trans ?_ hb9 | with_reducible refine Ext.trans ?_ hb8 | with_reducible refine Ext.trans ?_ hb7 | with_reducible refine Ext.trans ?_ hb6 | with_reducible refine Ext.trans ?_ hb5 | with_reducible refine Ext.trans ?_ hb4 | with_reducible refine Ext.trans ?_ hb3 | with_reducible refine Ext.trans ?_ hb2 | with_reducible refine Ext.trans ?_ hb1 | with_reducible refine Ext.trans ?_ hw)))⟩
          case measure => omega
      · go_wp2
        go_ret
        exact ⟨c, rfl, .inr ⟨hc0, hc1, hl⟩, hw⟩
  · go_enter Try.func4, Try.ntmps4
    go_wp2
    go_ret
    exact ⟨-1, rfl, .inl (by omega), Ext.refl _⟩

set_option maxRecDepth 100000 in
set_option maxHeartbeats 400000 in
theorem laws_FnExactSameCatalogue (xs ys : List Ent) (A B : Option Addr) (cap cap' : Nat) (w : World) (hn : xs.length ≤ 9223372036854775807) (hR : Rd encEnt w A xs) (hok : ∀ x ∈ xs, x.nm.size ≤ 9223372036854775807)
    (hm : ys.length ≤ 9223372036854775807) (hS : Rd encEnt w B ys) (hok' : ∀ x ∈ ys, x.nm.size ≤ 9223372036854775807) :
    Calls Try.prog 3 #[.slice A xs.length cap, .slice B ys.length cap'] w fun e w' => e = .returned (.bool true) ∧ Ext w w' := by
  have r1 := eqL_refl entB entB_refl xs
  have r2 := eqL_refl entB entB_refl ys
  go_enter Try.func3, Try.ntmps3
  go_wp2_with fail
  refine Calls.mono (laws_szEntryS xs A cap 1048576 (by omega) (by omega) hn _ hR hok) ?_
  rintro e w1 ⟨r, rfl, hr, hb1⟩
  by_cases hr0 : r < 0
  · go_wp2
    go_ret
    exact ⟨rfl, hb1⟩
  obtain ⟨g0, g1, g2⟩ := hr.resolve_left hr0
  go_wp2_with fail
  refine Calls.mono (laws_szEntryS ys B cap' r (by omega) (by omega) hm _ (hS.ext hb1) hok') ?_
  rintro e w2 ⟨r', rfl, hr', hb2⟩
  by_cases hr1 : r' < 0
  · go_wp2
    go_ret
    exact ⟨rfl, by ((repeat (first | with_reducible exact Ext.refl _ | with_reducible exact hw | with_reducible exact hb9 | with_reducible exact hb8 | with_reducible exact hb7 | with_reducible exact hb6 | with_reducible exact hb5 | with_reducible exact hb4 | with_reducible exact hb3 | with_reducible exact hb2 | with_reducible exact hb1 | with_reducible refine Ext.alloc ?_ _ | with_reducible refine Ext.drew ?_ | ((with_reducible refine Ext.set ?_ ?_ _); focus (dsimp only; omega)) | with_reducible refine Ext.trans ?_ hb9 | with_reducible refine Ext.trans ?_ hb8 | with_reducible refine Ext.trans ?_ hb7 | with_reducible refine Ext.trans ?_ hb6 | with_reducible refine Ext.trans ?_ hb5 | with_reducible refine Ext.trans ?_ hb4 | with_reducible refine Ext.trans ?_ hb3 | with_reducible refine Ext.trans ?_ hb2 | with_reducible refine Ext.trans ?_ hb1 | with_reducible refine Ext.trans ?_ hw)))⟩
  obtain ⟨g3, g4, g5⟩ := hr'.resolve_left hr1
  have hn1 : xs.length ≤ 1048576 := by omega
  have hm1 : ys.length ≤ 1048576 := by omega
  clear hr hr' hok hok'
  have hw2 : Ext w w2 := by ((repeat (first | with_reducible exact Ext.refl _ | with_reducible exact hw | with_reducible exact hb9 | with_reducible exact hb8 | with_reducible exact hb7 | with_reducible exact hb6 | with_reducible exact hb5 | with_reducible exact hb4 | with_reducible exact hb3 | with_reducible exact hb2 | with_reducible exact hb1 | with_reducible refine Ext.alloc ?_ _ | with_reducible refine Ext.drew ?_ | ((with_reducible refine Ext.set ?_ ?_ _); focus (dsimp only; omega)) | with_reducible refine Ext.trans ?_ hb9 | with_reducible refine Ext.trans ?_ hb8 | with_reducible refine Ext.trans ?_ hb7 | with_reducible refine Ext.trans ?_ hb6 | with_reducible refine Ext.trans ?_ hb5 | with_reducible refine Ext.trans ?_ hb4 | with_reducible refine Ext.trans ?_ hb3 | with_reducible refine Ext.trans ?_ hb2 | with_reducible refine Ext.trans ?_ hb1 | with_reducible refine Ext.trans ?_ hw)))
  go_wp2_with fail
  refine Calls.mono (laws_toEntryS xs A cap _ (hR.ext hw2) hn1) ?_
  rintro e w3 ⟨v3, rfl, hO3, hb3⟩
  obtain ⟨A3, cap3, rfl, hle3, hR3⟩ := hO3.slice
  obtain ⟨hc3, hf3, hz3⟩ := bcell3 hb3
  try simp at hz3
  go_wp2_with fail
  refine Calls.mono (laws_toEntryS ys B cap' _ ((hS.ext hw2).ext hb3) hm1) ?_
  rintro e w4 ⟨v4, rfl, hO4, hb4⟩
  obtain ⟨A4, cap4, rfl, hle4, hR4⟩ := hO4.slice
  obtain ⟨hc4, hf4, hz4⟩ := bcell3 hb4
  try simp at hz4
  go_wp2_with fail
  refine Calls.mono (spec_SameCatalogue xs ys _ _ _ _ _ (hR3.ext hb4) hR4 hn1 hm1) ?_
  rintro e w5 ⟨rfl, hb5⟩
  have hw5 : Ext w w5 := by ((repeat (first | with_reducible exact Ext.refl _ | with_reducible exact hw | with_reducible exact hb9 | with_reducible exact hb8 | with_reducible exact hb7 | with_reducible exact hb6 | with_reducible exact hb5 | with_reducible exact hb4 | with_reducible exact hb3 | with_reducible exact hb2 | with_reducible exact hb1 | with_reducible refine Ext.alloc ?_ _ | with_reducible refine Ext.drew ?_ | ((with_reducible refine Ext.set ?_ ?_ _); focus (dsimp only; omega)) | with_reducible refine Ext.trans ?_ hb9 | with_reducible refine Ext.trans ?_ hb8 | with_reducible refine Ext.trans ?_ hb7 | with_reducible refine Ext.trans ?_ hb6 | with_reducible refine Ext.trans ?_ hb5 | with_reducible refine Ext.trans ?_ hb4 | with_reducible refine Ext.trans ?_ hb3 | with_reducible refine Ext.trans ?_ hb2 | with_reducible refine Ext.trans ?_ hb1 | with_reducible refine Ext.trans ?_ hw)))
  go_wp2_with fail
  refine Calls.mono (laws_toEntryS xs A cap _ (hR.ext hw5) hn1) ?_
  rintro e w6 ⟨v6, rfl, hO6, hb6⟩
  obtain ⟨A6, cap6, rfl, hle6, hR6⟩ := hO6.slice
  obtain ⟨hc6, hf6, hz6⟩ := bcell3 hb6
  try simp at hz6
  go_wp2_with fail
  refine Calls.mono (laws_toEntryS ys B cap' _ ((hS.ext hw5).ext hb6) hm1) ?_
  rintro e w7 ⟨v7, rfl, hO7, hb7⟩
  obtain ⟨A7, cap7, rfl, hle7, hR7⟩ := hO7.slice
  obtain ⟨hc7, hf7, hz7⟩ := bcell3 hb7
  try simp at hz7
  go_wp2_with fail
  refine Calls.mono (impl_SameCatalogue xs ys _ _ _ _ _ (hR6.ext hb7) hR7 hn1 hm1) ?_
  rintro e w8 ⟨rfl, hb8⟩
  have hw8 : Ext w w8 := by ((repeat (first | with_reducible exact Ext.refl _ | with_reducible exact hw | with_reducible exact hb9 | with_reducible exact hb8 | with_reducible exact hb7 | with_reducible exact hb6 | with_reducible exact hb5 | with_reducible exact hb4 | with_reducible exact hb3 | with_reducible exact hb2 | with_reducible exact hb1 | with_reducible refine Ext.alloc ?_ _ | with_reducible refine Ext.drew ?_ | ((with_reducible refine Ext.set ?_ ?_ _); focus (dsimp only; omega)) | with_reducible refine Ext.trans ?_ hb9 | with_reducible refine Ext.trans ?_ hb8 | with_reducible refine Ext.trans ?_ hb7 | with_reducible refine Ext.trans ?_ hb6 | with_reducible refine Ext.trans ?_ hb5 | with_reducible refine Ext.trans ?_ hb4 | with_reducible refine Ext.trans ?_ hb3 | with_reducible refine Ext.trans ?_ hb2 | with_reducible refine Ext.trans ?_ hb1 | with_reducible refine Ext.trans ?_ hw)))
  go_wp2_with fail
  refine Calls.mono (laws_toEntryS xs A cap _ (hR.ext hw8) hn1) ?_
  rintro e w9 ⟨v9, rfl, hO9, hb9⟩
  obtain ⟨A9, cap9, rfl, hle9, hR9⟩ := hO9.slice
  obtain ⟨hc9, hf9, hz9⟩ := bcell3 hb9
  try simp at hz9
  go_wp2_with fail
  refine Calls.mono (laws_eqEntryS xs xs _ _ _ _ _ (((hR6.ext hb7).ext hb8).ext hb9) hR9 hn1 hn1) ?_
  rintro e w10 ⟨rfl, hb10⟩
  have hw10 : Ext w w10 := by
    refine Ext.trans ?_ hb10
    (repeat (first | with_reducible exact Ext.refl _ | with_reducible exact hw | with_reducible exact hb9 | with_reducible exact hb8 | with_reducible exact hb7 | with_reducible exact hb6 | with_reducible exact hb5 | with_reducible exact hb4 | with_reducible exact hb3 | with_reducible exact hb2 | with_reducible exact hb1 | with_reducible refine Ext.alloc ?_ _ | with_reducible refine Ext.drew ?_ | ((with_reducible refine Ext.set ?_ ?_ _); focus (dsimp only; omega)) | with_reducible refine Ext.trans ?_ hb9 | with_reducible refine Ext.trans ?_ hb8 | with_reducible refine Ext.trans ?_ hb7 | with_reducible refine Ext.trans ?_ hb6 | with_reducible refine Ext.trans ?_ hb5 | with_reducible refine Ext.trans ?_ hb4 | with_reducible refine Ext.trans ?_ hb3 | with_reducible refine Ext.trans ?_ hb2 | with_reducible refine Ext.trans ?_ hb1 | with_reducible refine Ext.trans ?_ hw))
  have hb17 : Ext w7 w10 := by
    refine Ext.trans ?_ hb10
    (repeat (first | with_reducible exact Ext.refl _ | with_reducible exact hw | with_reducible exact hb9 | with_reducible exact hb8 | with_reducible exact hb7 | with_reducible exact hb6 | with_reducible exact hb5 | with_reducible exact hb4 | with_reducible exact hb3 | with_reducible exact hb2 | with_reducible exact hb1 | with_reducible refine Ext.alloc ?_ _ | with_reducible refine Ext.drew ?_ | ((with_reducible refine Ext.set ?_ ?_ _); focus (dsimp only; omega)) | with_reducible refine Ext.trans ?_ hb9 | with_reducible refine Ext.trans ?_ hb8 | with_reducible refine Ext.trans ?_ hb7 | with_reducible refine Ext.trans ?_ hb6 | with_reducible refine Ext.trans ?_ hb5 | with_reducible refine Ext.trans ?_ hb4 | with_reducible refine Ext.trans ?_ hb3 | with_reducible refine Ext.trans ?_ hb2 | with_reducible refine Ext.trans ?_ hb1 | with_reducible refine Ext.trans ?_ hw))
  go_wp2_with fail
  refine Calls.mono (laws_toEntryS ys B cap' _ (hS.ext hw10) hm1) ?_
  rintro e w11 ⟨v11, rfl, hO11, hb11⟩
  obtain ⟨A11, cap11, rfl, hle11, hR11⟩ := hO11.slice
  obtain ⟨hc11, hf11, hz11⟩ := bcell3 hb11
  try simp at hz11
  go_wp2_with fail
  refine Calls.mono (laws_eqEntryS ys ys _ _ _ _ _ ((hR7.ext hb17).ext hb11) hR11 hm1 hm1) ?_
  rintro e w12 ⟨rfl, hb12⟩
  go_wp2
  go_ret
  exact ⟨rfl, (hw10.trans hb11).trans hb12⟩
