/-
  Contracts of the functions that ask whether a list of fields is a valid scheme.
-/
import Derived.Test.YtciepjdacmjhlaaGreatDoorF18
import Derived.Test.YtciepjdacmjhlaaGreatDoorF12
set_option linter.unusedVariables false
set_option linter.unusedSimpArgs false
set_option maxRecDepth 100000
namespace Go.Proofs.YtciepjdacmjhlaaGreatDoor
open Go.RowKit
set_option maxHeartbeats 400000 in
theorem impl_isScheme1 (y : Fld) (nm : ByteArray) (bx : Nat) (w : World) (hx : w.cell? ⟨bx, 0, none⟩ = some (.string nm)) (hlt : bx < w.heap.size) :
    Calls Tryz.prog 78 #[.agg #[.string y.nm, .int .i8 y.kd, .int .i16 y.st, .int .i16 y.sz], .pointer (some ⟨bx, 0, none⟩)] w fun e w' => e = .returned (.bool (y.nm.toList == nm.toList)) ∧ Ext w w' := by
  cases h : (y.nm.toList == nm.toList)
  all_goals
    go_enter Tryz.func78, Tryz.ntmps78
    go_wp2
    go_ret
    exact ⟨by first | rfl | simp [h], by ((repeat (first | with_reducible exact Ext.refl _ | with_reducible exact hw | with_reducible exact hb9 | with_reducible exact hb8 | with_reducible exact hb7 | with_reducible exact hb6 | with_reducible exact hb5 | with_reducible exact hb4 | with_reducible exact hb3 | with_reducible exact hb2 | with_reducible exact hb1 | with_reducible refine Ext.alloc ?_ _ | with_reducible refine Ext.drew ?_ | ((with_reducible refine Ext.set ?_ ?_ _); focus (dsimp only; omega)) | with_reducible refine Ext.trans ?_ hb9 | with_reducible refine Ext.trans ?_ hb8 | with_reducible refine Ext.trans ?_ hb7 | with_reducible refine Ext.trans ?_ hb6 | with_reducible refine Ext.trans ?_ hb5 | with_reducible refine Ext.trans ?_ hb4 | with_reducible refine Ext.trans ?_ hb3 | with_reducible refine Ext.trans ?_ hb2 | with_reducible refine Ext.trans ?_ hb1 | with_reducible refine Ext.trans ?_ hw)))⟩
set_option maxHeartbeats 400000 in
theorem slices_IndexFunc_sameFld (xs : List Fld) (A : Option Addr) (n cap : Nat) (w : World) (hnx : n = xs.length) (hR : Rd encFld w A xs) (hn : n ≤ 1048576) (nm : ByteArray) (bx : Nat) (hx : w.cell? ⟨bx, 0, none⟩ = some (.string nm)) (hbx : bx < w.heap.size) :
    Calls Tryz.prog 112 #[.slice A n cap, .func (.func 78) #[] #[.pointer (some ⟨bx, 0, none⟩)]] w fun e w' => e = .returned (.int .i64 (fidx (fun y : Fld => y.nm.toList == nm.toList) xs)) ∧ Ext w w' := by
  subst hnx
  go_enter Tryz.func112, Tryz.ntmps112
  go_wp2
  go_loopg [8] xs.length (fun g i wr => ∃ k : Nat, g = xs.length - k ∧ k ≤ xs.length ∧ i = .int .i64 k ∧ Ext w wr ∧ (xs.take k).any (fun y : Fld => y.nm.toList == nm.toList) = false)
  case atStart => exact ⟨0, by omega, by omega, rfl, Ext.refl _, by rw [List.take_zero]; rfl⟩
  case round =>
    obtain ⟨k, hg, hk, rfl, hw, hQ⟩ := hrel
    by_cases hkl : k < xs.length
    · obtain ⟨b, off, hA, hlt, _⟩ := hR k hkl
      subst hA
      obtain ⟨m0, m1, m2, m3, m4⟩ := (hR.ext hw).fld k hkl
      have hs := any_take (fun y : Fld => y.nm.toList == nm.toList) xs k hkl
      rw [hQ, Bool.false_or] at hs
      cases hq : (fun y : Fld => y.nm.toList == nm.toList) xs[k] with
      | true =>
        have hM := fidx_hit (fun y : Fld => y.nm.toList == nm.toList) xs k hkl hq hQ
        try dsimp only at hq
        clear hs hQ
        go_wp2_with fail
        refine Calls.mono (impl_isScheme1 xs[k] nm bx _ (hw.cell hx) (Nat.lt_of_lt_of_le hbx hw.size)) ?_
        rintro e w1 ⟨rfl, hb1⟩
        simp only [hq]
        go_wp2
        go_ret
        exact ⟨by rw [hM]; rfl, by ((repeat (first | with_reducible exact Ext.refl _ | with_reducible exact hw | with_reducible exact hb9 | with_reducible exact hb8 | with_reducible exact hb7 | with_reducible exact hb6 | with_reducible exact hb5 | with_reducible exact hb4 | with_reducible exact hb3 | with_reducible exact hb2 | with_reducible exact hb1 | with_reducible refine Ext.alloc ?_ _ | with_reducible refine Ext.drew ?_ | ((with_reducible refine Ext.set ?_ ?_ _); focus (dsimp only; omega)) | with_reducible refine Ext.trans ?_ hb9 | with_reducible refine Ext.trans ?_ hb8 | with_reducible refine Ext.trans ?_ hb7 | with_reducible refine Ext.trans ?_ hb6 | with_reducible refine Ext.trans ?_ hb5 | with_reducible refine Ext.trans ?_ hb4 | with_reducible refine Ext.trans ?_ hb3 | with_reducible refine Ext.trans ?_ hb2 | with_reducible refine Ext.trans ?_ hb1 | with_reducible refine Ext.trans ?_ hw)))⟩
      | false =>
        have hs2 := hd (hs.trans hq)
        try dsimp only at hq
        clear hs hQ
        go_wp2_with fail
        refine Calls.mono (impl_isScheme1 xs[k] nm bx _ (hw.cell hx) (Nat.lt_of_lt_of_le hbx hw.size)) ?_
        rintro e w1 ⟨rfl, hb1⟩
        simp only [hq]
        go_wp2
        go_roundg (xs.length - (k + 1))
        case rel => exact ⟨k + 1, rfl, hkl, rfl, by ((repeat (first | with_reducible exact Ext.refl _ | with_reducible exact hw | with_reducible exact hb9 | with_reducible exact hb8 | with_reducible exact hb7 | with_reducible exact hb6 | with_reducible exact hb5 | with_reducible exact hb4 | with_reducible exact hb3 | with_reducible exact hb2 | with_reducible exact hb1 | with_reducible refine Ext.alloc ?_ _ | with_reducible refine Ext.drew ?_ | ((with_reducible refine Ext.set ?_ ?_ _); focus (dsimp only; omega)) | with_reducible refine Ext.trans ?_ hb9 | with_reducible refine Ext.trans ?_ hb8 | with_reducible refine Ext.trans ?_ hb7 | with_reducible refine Ext.trans ?_ hb6 | with_reducible refine Ext.trans ?_ hb5 | with_reducible refine Ext.trans ?_ hb4 | with_reducible refine Ext.trans ?_ hb3 | with_reducible refine Ext.trans ?_ hb2 | with_reducible refine Ext.trans ?_ hb1 | with_reducible refine Ext.trans ?_ hw))), hs2.out⟩
        case measure => omega
    · obtain rfl : k = xs.length := by omega
      rw [List.take_length] at hQ
      have hM := fidx_none (fun y : Fld => y.nm.toList == nm.toList) xs hQ
      go_wp2
      go_ret
      exact ⟨by rw [hM]; rfl, hw⟩

theorem hasFn_fidx (xs : List Fld) (nm : ByteArray) : hasFn xs nm = decide (fidx (fun y : Fld => y.nm.toList == nm.toList) xs ≥ 0) := by
  rw [Bool.eq_iff_iff, decide_eq_true_iff]
  exact (fidx_ge _ xs).symm
set_option maxHeartbeats 400000 in
theorem slices_ContainsFunc_sameFld (xs : List Fld) (A : Option Addr) (n cap : Nat) (w : World) (hnx : n = xs.length) (hR : Rd encFld w A xs) (hn : n ≤ 1048576) (nm : ByteArray) (bx : Nat) (hx : w.cell? ⟨bx, 0, none⟩ = some (.string nm)) (hbx : bx < w.heap.size) :
    Calls Tryz.prog 77 #[.slice A n cap, .func (.func 78) #[] #[.pointer (some ⟨bx, 0, none⟩)]] w fun e w' => e = .returned (.bool (hasFn xs nm)) ∧ Ext w w' := by
  subst hnx
  have hI := slices_IndexFunc_sameFld xs A _ cap w rfl hR hn nm bx hx hbx
  have hm := hasFn_fidx xs nm
  generalize fidx (fun y : Fld => y.nm.toList == nm.toList) xs = q at hm hI
  rw [hm]
  clear hm
  go_enter Tryz.func77, Tryz.ntmps77
  go_wp2_with fail
  refine Calls.mono (hI) ?_
  rintro e w1 ⟨rfl, hb1⟩
  go_wp2
  go_ret
  exact ⟨rfl, by ((repeat (first | with_reducible exact Ext.refl _ | with_reducible exact hw | with_reducible exact hb9 | with_reducible exact hb8 | with_reducible exact hb7 | with_reducible exact hb6 | with_reducible exact hb5 | with_reducible exact hb4 | with_reducible exact hb3 | with_reducible exact hb2 | with_reducible exact hb1 | with_reducible refine Ext.alloc ?_ _ | with_reducible refine Ext.drew ?_ | ((with_reducible refine Ext.set ?_ ?_ _); focus (dsimp only; omega)) | with_reducible refine Ext.trans ?_ hb9 | with_reducible refine Ext.trans ?_ hb8 | with_reducible refine Ext.trans ?_ hb7 | with_reducible refine Ext.trans ?_ hb6 | with_reducible refine Ext.trans ?_ hb5 | with_reducible refine Ext.trans ?_ hb4 | with_reducible refine Ext.trans ?_ hb3 | with_reducible refine Ext.trans ?_ hb2 | with_reducible refine Ext.trans ?_ hb1 | with_reducible refine Ext.trans ?_ hw)))⟩
theorem isField_in (f : Fld) (hf : FldIn f) (W : World) : Calls Tryz.prog 63 #[.agg #[.string f.nm, .int .i8 f.kd, .int .i16 f.st, .int .i16 f.sz]] W fun e w' => e = .returned (.bool (fldB f)) ∧ Ext W w' := by
  obtain ⟨⟨⟨a0, a1⟩, ⟨a2, a3⟩, a4, a5⟩, hx⟩ := hf
  exact impl_isField f.nm f.kd f.st f.sz a0 a1 a2 a3 a4 a5 hx W
theorem l01Field_in (f : Fld) (hf : FldIn f) (b o : Nat) (W : World) (hF : FldAt W b o f) : Calls Tryz.prog 42 #[.pointer (some ⟨b, o, none⟩)] W fun e w' => e = .returned (.bool (fldB f)) ∧ Ext W w' := by
  obtain ⟨⟨⟨a0, a1⟩, ⟨a2, a3⟩, a4, a5⟩, hx⟩ := hf
  exact spec_l01Field f.nm f.kd f.st f.sz b o a0 a1 a2 a3 a4 a5 hx W hF (World.block_lt_of_cell? W _ hF.1)
set_option maxHeartbeats 2000000 in
theorem impl_isScheme (xs : List Fld) (A : Option Addr) (cap : Nat) (w : World) (hR : Rd encFld w A xs) (hcap : xs.length ≤ cap) (hn : xs.length ≤ 1048576) (hok : ∀ x ∈ xs, FldIn x) :
    Calls Tryz.prog 36 #[.slice A xs.length cap] w fun e w' => e = .returned (.bool (schB xs)) ∧ Ext w w' := by
  have hx := @ExtOf.cell
  have e2 := eqA_Mask
  by_cases h12 : xs.length ≤ 12
  · have hv : schB xs = fitsTo xs xs.length := by unfold schB; rw [decide_eq_true h12, Bool.true_and]
    have hv := hd hv
    go_enter Tryz.func36, Tryz.ntmps36
    go_wp2
    go_loopg [12] xs.length (fun g i wr => ∃ k : Nat, g = xs.length - k ∧ k ≤ xs.length ∧ i = .int .i64 k ∧ Ext w wr ∧ Hd (fitsTo xs k = true) ∧ BoxAt wr w.heap.size #[.int .u64 (lo (allTo xs k)), .int .u64 (hi (allTo xs k))] 42)
    case atStart => exact ⟨0, by omega, by omega, rfl, by ((repeat (first | with_reducible exact Ext.refl _ | with_reducible exact hw | with_reducible exact hb9 | with_reducible exact hb8 | with_reducible exact hb7 | with_reducible exact hb6 | with_reducible exact hb5 | with_reducible exact hb4 | with_reducible exact hb3 | with_reducible exact hb2 | with_reducible exact hb1 | with_reducible refine Ext.alloc ?_ _ | with_reducible refine Ext.drew ?_ | ((with_reducible refine Ext.set ?_ ?_ _); focus (dsimp only; omega)) | with_reducible refine Ext.trans ?_ hb9 | with_reducible refine Ext.trans ?_ hb8 | with_reducible refine Ext.trans ?_ hb7 | with_reducible refine Ext.trans ?_ hb6 | with_reducible refine Ext.trans ?_ hb5 | with_reducible refine Ext.trans ?_ hb4 | with_reducible refine Ext.trans ?_ hb3 | with_reducible refine Ext.trans ?_ hb2 | with_reducible refine Ext.trans ?_ hb1 | with_reducible refine Ext.trans ?_ hw))), hd rfl, by rw [allTo_zero, lo_zero, hi_zero]; exact BoxAt.new' rfl⟩
    case round =>
      obtain ⟨k, hg, hk, rfl, hw, hQ, hB⟩ := hrel
      by_cases hkl : k < xs.length
      · obtain ⟨b, off, hA, hlt, _⟩ := hR k hkl
        subst hA
        obtain ⟨m0, m1, m2, m3, m4⟩ := (hR.ext hw).fld k hkl
        have hif := isField_in xs[k] (hok _ (List.getElem_mem hkl))
        have hsu := hd (allTo_succ xs k hkl)
        have hmiss := fun h => hd (sch_miss k hkl h)
        have hbad := fun h => hmiss (fit_bad hkl h)
        have hover := fun h => hmiss (fit_over hkl h)
        have hname := fun h => hmiss (fit_name hkl h)
        have hgood := fun h1 h2 h3 => hd (show fitsTo xs (k + 1) = true by rw [fitsTo_succ, hQ.out, fit_good hkl h1 h2 h3]; rfl)
        have hpa := fun (h : fldB xs[k] = true) (W : World) => impl_part xs[k].nm xs[k].kd xs[k].st xs[k].sz h W
        have c0 := hB.cell 0
        have c1 := hB.cell 1
        have l0 := hB.lt
        cases hf : fldB xs[k] with
        | false =>
          have hv2 := hbad hf
          rw [hf] at hif
          clear hQ hv hover hname hgood hpa hbad hmiss
          go_wp2
          refine wp_region_ext (by kernel_rfl) (by kernel_rfl) ?_
          repeat (first | go_big_quiet_step ((go_at_call 63; with_reducible exact Calls.ext_all (fun W _ => hif W))) | quiet_step ((go_at_call 63; with_reducible exact Calls.ext_all (fun W _ => hif W))))
          refine wpQuiet_nil ?_
          intro w1 hq1
          have hb1 := ext_of_class hq1
          clear hq1
          obtain ⟨hc1, hf1, hz1⟩ := bcell3 hb1
          try simp at hz1
          go_wp2
          go_ret
          exact ⟨by first | rfl | (rw [hv2.out]; rfl), by ((repeat (first | with_reducible exact Ext.refl _ | with_reducible exact hw | with_reducible exact hb9 | with_reducible exact hb8 | with_reducible exact hb7 | with_reducible exact hb6 | with_reducible exact hb5 | with_reducible exact hb4 | with_reducible exact hb3 | with_reducible exact hb2 | with_reducible exact hb1 | with_reducible refine Ext.alloc ?_ _ | with_reducible refine Ext.drew ?_ | ((with_reducible refine Ext.set ?_ ?_ _); focus (dsimp only; omega)) | with_reducible refine Ext.trans ?_ hb9 | with_reducible refine Ext.trans ?_ hb8 | with_reducible refine Ext.trans ?_ hb7 | with_reducible refine Ext.trans ?_ hb6 | with_reducible refine Ext.trans ?_ hb5 | with_reducible refine Ext.trans ?_ hb4 | with_reducible refine Ext.trans ?_ hb3 | with_reducible refine Ext.trans ?_ hb2 | with_reducible refine Ext.trans ?_ hb1 | with_reducible refine Ext.trans ?_ hw)))⟩
        | true =>
          rw [hf] at hif
          have hpa := hpa hf
          have hgood := hgood hf
          change ∀ W, Calls _ _ _ W fun e w' => e = .returned (.agg #[.int .u64 (lo (partF xs[k])), .int .u64 (hi (partF xs[k]))]) ∧ Ext W w' at hpa
          generalize partF xs[k] = p at hpa hsu hover hgood
          have e1 := lohi_zero (mmeet (allTo xs k) p)
          cases hz : mzero (mmeet (allTo xs k) p) with
          | false =>
            have hv2 := hover hz
            rw [hz] at e1
            clear hQ hv hover hname hgood hbad hmiss
            go_wp2
            refine wp_region_ext (by kernel_rfl) (by kernel_rfl) ?_
            repeat (first | go_big_quiet_step ((first | (go_at_call 63; with_reducible exact Calls.ext_all (fun W _ => hif W)) | (go_at_call 46; with_reducible exact Calls.ext_all (fun W _ => hpa W)) | (go_at_call 76; with_reducible exact Calls.ext_of (impl_MeetMasks _ _ _)))) | quiet_step ((first | (go_at_call 63; with_reducible exact Calls.ext_all (fun W _ => hif W)) | (go_at_call 46; with_reducible exact Calls.ext_all (fun W _ => hpa W)) | (go_at_call 76; with_reducible exact Calls.ext_of (impl_MeetMasks _ _ _)))))
            refine wpQuiet_nil ?_
            intro w1 hq1
            have hb1 := ext_of_class hq1
            clear hq1
            obtain ⟨hc1, hf1, hz1⟩ := bcell3 hb1
            try simp at hz1
            go_wp2
            go_ret
            exact ⟨by first | rfl | (rw [hv2.out]; rfl), by ((repeat (first | with_reducible exact Ext.refl _ | with_reducible exact hw | with_reducible exact hb9 | with_reducible exact hb8 | with_reducible exact hb7 | with_reducible exact hb6 | with_reducible exact hb5 | with_reducible exact hb4 | with_reducible exact hb3 | with_reducible exact hb2 | with_reducible exact hb1 | with_reducible refine Ext.alloc ?_ _ | with_reducible refine Ext.drew ?_ | ((with_reducible refine Ext.set ?_ ?_ _); focus (dsimp only; omega)) | with_reducible refine Ext.trans ?_ hb9 | with_reducible refine Ext.trans ?_ hb8 | with_reducible refine Ext.trans ?_ hb7 | with_reducible refine Ext.trans ?_ hb6 | with_reducible refine Ext.trans ?_ hb5 | with_reducible refine Ext.trans ?_ hb4 | with_reducible refine Ext.trans ?_ hb3 | with_reducible refine Ext.trans ?_ hb2 | with_reducible refine Ext.trans ?_ hb1 | with_reducible refine Ext.trans ?_ hw)))⟩
          | true =>
            have hgood := hgood hz
            rw [hz] at e1
            clear hover hbad hmiss
            go_wp2
            refine wp_region_ext (by kernel_rfl) (by kernel_rfl) ?_
            repeat (first | go_big_quiet_step ((first | (go_at_call 63; with_reducible exact Calls.ext_all (fun W _ => hif W)) | (go_at_call 46; with_reducible exact Calls.ext_all (fun W _ => hpa W)) | (go_at_call 76; with_reducible exact Calls.ext_of (impl_MeetMasks _ _ _)))) | quiet_step ((first | (go_at_call 63; with_reducible exact Calls.ext_all (fun W _ => hif W)) | (go_at_call 46; with_reducible exact Calls.ext_all (fun W _ => hpa W)) | (go_at_call 76; with_reducible exact Calls.ext_of (impl_MeetMasks _ _ _)))))
            refine wpQuiet_nil ?_
            intro w1 hq1
            have hb1 := ext_of_class hq1
            clear hq1
            obtain ⟨hc1, hf1, hz1⟩ := bcell3 hb1
            try simp at hz1
            have x0 : w1.cell? ⟨wr.heap.size, 0, none⟩ = some (.string xs[k].nm) := hb1.cell (by go_simp)
            have x1 : w1.cell? ⟨wr.heap.size, 1, none⟩ = some (.int .i8 xs[k].kd) := hb1.cell (by go_simp)
            have x2 : w1.cell? ⟨wr.heap.size, 2, none⟩ = some (.int .i16 xs[k].st) := hb1.cell (by go_simp)
            have x3 : w1.cell? ⟨wr.heap.size, 3, none⟩ = some (.int .i16 xs[k].sz) := hb1.cell (by go_simp)
            have hB1 := (hB.alloc _).ext hb1
            have hw1 : Ext w w1 := by ((repeat (first | with_reducible exact Ext.refl _ | with_reducible exact hw | with_reducible exact hb9 | with_reducible exact hb8 | with_reducible exact hb7 | with_reducible exact hb6 | with_reducible exact hb5 | with_reducible exact hb4 | with_reducible exact hb3 | with_reducible exact hb2 | with_reducible exact hb1 | with_reducible refine Ext.alloc ?_ _ | with_reducible refine Ext.drew ?_ | ((with_reducible refine Ext.set ?_ ?_ _); focus (dsimp only; omega)) | with_reducible refine Ext.trans ?_ hb9 | with_reducible refine Ext.trans ?_ hb8 | with_reducible refine Ext.trans ?_ hb7 | with_reducible refine Ext.trans ?_ hb6 | with_reducible refine Ext.trans ?_ hb5 | with_reducible refine Ext.trans ?_ hb4 | with_reducible refine Ext.trans ?_ hb3 | with_reducible refine Ext.trans ?_ hb2 | with_reducible refine Ext.trans ?_ hb1 | with_reducible refine Ext.trans ?_ hw)))
            have hR1 := hR.ext hw1
            have ne1 : ¬ wr.heap.size = w.heap.size := by have := hB.lt; omega
            have l1 := World.block_lt_of_cell? _ _ x0
            have l2 := hB1.lt
            dsimp only at l1
            have d0 := hB1.cell 0
            have d1 := hB1.cell 1
            have f0 := hB1.frozen 0
            have f1 := hB1.frozen 1
            clear hc1 hf1 hb1 hz1 hw hB c0 c1 m0 m1 m2 m3 m4 hlt l0 e1
            go_wp2
            refine wp_region_ext_tail 4 4 (by kernel_rfl) (by kernel_rfl) (by intro d _ _ _ _ h; cases d <;> exact h) ?_
            simp only [List.take_succ_cons, List.take_zero, List.drop_succ_cons, List.drop_zero]
            repeat (first | go_big_quiet_step ((first | (go_at_call 46; with_reducible exact Calls.ext_all (fun W _ => hpa W)) | (go_at_call 60; with_reducible exact Calls.ext_of (impl_JoinMasks _ _ _)))) | quiet_step ((first | (go_at_call 46; with_reducible exact Calls.ext_all (fun W _ => hpa W)) | (go_at_call 60; with_reducible exact Calls.ext_of (impl_JoinMasks _ _ _)))))
            refine wpQuiet_nil ?_
            intro w2 hq2
            have hb2 := ext_of_class hq2
            clear hq2
            obtain ⟨hc2, hf2, hz2⟩ := bcell3 hb2
            try simp at hz2
            have hB2 := hB1.ext hb2
            have g0 := hB2.frozen 0
            have g1 := hB2.frozen 1
            have k0 := hB2.cell 0
            have k1 := hB2.cell 1
            have y0 := hb2.cell x0
            have l3 := World.block_lt_of_cell? _ _ y0
            have l4 := hB2.lt
            dsimp only at l3
            have hw2 := hw1.trans hb2
            have hB3 := hd (show BoxAt ((w2.setCell ⟨w.heap.size, 0, none⟩ (.int .u64 (lo (mjoin (allTo xs k) p)))).setCell ⟨w.heap.size, 1, none⟩ (.int .u64 (hi (mjoin (allTo xs k) p)))) w.heap.size #[.int .u64 (lo (allTo xs (k + 1))), .int .u64 (hi (allTo xs (k + 1)))] 42 by rw [hsu.out]; exact (hB2.set 0 _).set 1 _)
            have hw3 : Ext w ((w2.setCell ⟨w.heap.size, 0, none⟩ (.int .u64 (lo (mjoin (allTo xs k) p)))).setCell ⟨w.heap.size, 1, none⟩ (.int .u64 (hi (mjoin (allTo xs k) p)))) := Ext.set (by dsimp only; omega) (Ext.set (by dsimp only; omega) hw2 _) _
            have z0 : ((w2.setCell ⟨w.heap.size, 0, none⟩ (.int .u64 (lo (mjoin (allTo xs k) p)))).setCell ⟨w.heap.size, 1, none⟩ (.int .u64 (hi (mjoin (allTo xs k) p)))).cell? ⟨wr.heap.size, 0, none⟩ = some (.string xs[k].nm) := by go_simp
            have hco := slices_ContainsFunc_sameFld (xs.take k) (some ⟨b, off, none⟩) k cap _ (by rw [List.length_take]; omega) ((hR.ext hw3).take k) (by omega) xs[k].nm wr.heap.size z0 (World.block_lt_of_cell? _ _ z0)
            clear hB1 hB2 hc2 hf2 x0 x1 x2 x3 d0 d1 f0 f1 hR1 hw1 hsu hpa hif y0 hw2
            cases hh : hasFn (xs.take k) xs[k].nm with
            | true =>
              have hv2 := hname hh
              rw [hh] at hco
              clear hQ hv hname hgood
              go_wp2_with fail
              refine Calls.mono (hco) ?_
              rintro e w4 ⟨rfl, hb4⟩
              go_wp2
              go_ret
              exact ⟨by first | rfl | (rw [hv2.out]; rfl), hw3.trans hb4⟩
            | false =>
              have hQ2 := hgood hh
              rw [hh] at hco
              clear hgood hname
              go_wp2_with fail
              refine Calls.mono (hco) ?_
              rintro e w4 ⟨rfl, hb4⟩
              go_wp2
              go_roundg (xs.length - (k + 1))
              case rel => exact ⟨k + 1, rfl, hkl, by simp, hw3.trans hb4, hQ2, hB3.out.ext hb4⟩
              case measure => omega
      · obtain rfl : k = xs.length := by omega
        have hv2 := hd (hv.out.trans hQ.out)
        go_wp2
        go_ret
        exact ⟨by rw [hv2.out]; rfl, hw⟩
  · have hv := hd (sch_long h12)
    go_enter Tryz.func36, Tryz.ntmps36
    go_wp2
    go_ret
    exact ⟨by rw [hv.out]; rfl, Ext.refl _⟩
set_option maxHeartbeats 2000000 in
theorem spec_l01Scheme (xs : List Fld) (A : Option Addr) (cap : Nat) (w : World) (hR : Rd encFld w A xs) (hn : xs.length ≤ 1048576) (hok : ∀ x ∈ xs, FldIn x) :
    Calls Tryz.prog 31 #[.slice A xs.length cap] w fun e w' => e = .returned (.bool (schB xs)) ∧ Ext w w' := by
  have hx := @ExtOf.cell
  have e2 := eqA_Mask
  by_cases h12 : xs.length ≤ 12
  · have hv : schB xs = fitsTo xs xs.length := by unfold schB; rw [decide_eq_true h12, Bool.true_and]
    have hv := hd hv
    go_enter Tryz.func31, Tryz.ntmps31
    go_wp2
    go_loopg [4] xs.length (fun g i wr => ∃ k : Nat, g = xs.length - k ∧ k ≤ xs.length ∧ i = .int .i64 k ∧ Ext w wr ∧ Hd (fitsTo xs k = true) ∧ BoxAt wr w.heap.size #[.int .u64 (lo (allTo xs k)), .int .u64 (hi (allTo xs k))] 42)
    case atStart => exact ⟨0, by omega, by omega, rfl, by ((repeat (first | with_reducible exact Ext.refl _ | with_reducible exact hw | with_reducible exact hb9 | with_reducible exact hb8 | with_reducible exact hb7 | with_reducible exact hb6 | with_reducible exact hb5 | with_reducible exact hb4 | with_reducible exact hb3 | with_reducible exact hb2 | with_reducible exact hb1 | with_reducible refine Ext.alloc ?_ _ | with_reducible refine Ext.drew ?_ | ((with_reducible refine Ext.set ?_ ?_ _); focus (dsimp only; omega)) | with_reducible refine Ext.trans ?_ hb9 | with_reducible refine Ext.trans ?_ hb8 | with_reducible refine Ext.trans ?_ hb7 | with_reducible refine Ext.trans ?_ hb6 | with_reducible refine Ext.trans ?_ hb5 | with_reducible refine Ext.trans ?_ hb4 | with_reducible refine Ext.trans ?_ hb3 | with_reducible refine Ext.trans ?_ hb2 | with_reducible refine Ext.trans ?_ hb1 | with_reducible refine Ext.trans ?_ hw))), hd rfl, by rw [allTo_zero, lo_zero, hi_zero]; exact BoxAt.new' rfl⟩
    case round =>
      obtain ⟨k, hg, hk, rfl, hw, hQ, hB⟩ := hrel
      by_cases hkl : k < xs.length
      · obtain ⟨b, off, hA, hlt, _⟩ := hR k hkl
        subst hA
        have hF := (hR.ext hw).fldAt k hkl
        have hif := l01Field_in xs[k] (hok _ (List.getElem_mem hkl)) b (off + k * 4) wr hF
        have hsu := hd (allTo_succ xs k hkl)
        have hmiss := fun h => hd (sch_miss k hkl h)
        have hbad := fun h => hmiss (fit_bad hkl h)
        have hover := fun h => hmiss (fit_over hkl h)
        have hname := fun h => hmiss (fit_name hkl h)
        have hgood := fun h1 h2 h3 => hd (show fitsTo xs (k + 1) = true by rw [fitsTo_succ, hQ.out, fit_good hkl h1 h2 h3]; rfl)
        have hpa := fun (h : fldB xs[k] = true) (W : World) (hh : FldAt W b (off + k * 4) xs[k]) => spec_l01Part xs[k] h b (off + k * 4) W hh
        have l0 := hB.lt
        cases hf : fldB xs[k] with
        | false =>
          have hv2 := hbad hf
          rw [hf] at hif
          clear hQ hv hover hname hgood hpa hbad hmiss
          go_wp2_with fail
          refine Calls.mono (hif) ?_
          rintro e w1 ⟨rfl, hb1⟩
          go_wp2
          go_ret
          exact ⟨by first | rfl | (rw [hv2.out]; rfl), by ((repeat (first | with_reducible exact Ext.refl _ | with_reducible exact hw | with_reducible exact hb9 | with_reducible exact hb8 | with_reducible exact hb7 | with_reducible exact hb6 | with_reducible exact hb5 | with_reducible exact hb4 | with_reducible exact hb3 | with_reducible exact hb2 | with_reducible exact hb1 | with_reducible refine Ext.alloc ?_ _ | with_reducible refine Ext.drew ?_ | ((with_reducible refine Ext.set ?_ ?_ _); focus (dsimp only; omega)) | with_reducible refine Ext.trans ?_ hb9 | with_reducible refine Ext.trans ?_ hb8 | with_reducible refine Ext.trans ?_ hb7 | with_reducible refine Ext.trans ?_ hb6 | with_reducible refine Ext.trans ?_ hb5 | with_reducible refine Ext.trans ?_ hb4 | with_reducible refine Ext.trans ?_ hb3 | with_reducible refine Ext.trans ?_ hb2 | with_reducible refine Ext.trans ?_ hb1 | with_reducible refine Ext.trans ?_ hw)))⟩
        | true =>
          rw [hf] at hif
          have hpa := hpa hf
          have hgood := hgood hf
          generalize partF xs[k] = p at hpa hsu hover hgood
          have e1 := lohi_zero (mmeet (allTo xs k) p)
          go_wp2_with fail
          refine Calls.mono (hif) ?_
          rintro e w1 ⟨rfl, hb1⟩
          go_wp2_with fail
          refine Calls.mono (hpa _ (hF.ext hb1)) ?_
          rintro e w2 ⟨rfl, hb2⟩
          have hb12 := hb1.trans hb2
          have hB := hB.ext hb12
          have hw := hw.trans hb12
          have ne1 : w.heap.size < w2.heap.size := hB.lt
          have bP : BoxAt (w2.alloc (.cells #[.int .u64 (lo p), .int .u64 (hi p)] 42)) w2.heap.size #[.int .u64 (lo p), .int .u64 (hi p)] 42 := BoxAt.new' rfl
          have bA := hB.alloc (.cells #[.int .u64 (lo p), .int .u64 (hi p)] 42)
          have hwA : Ext w (w2.alloc (.cells #[.int .u64 (lo p), .int .u64 (hi p)] 42)) := hw.alloc _
          have c0 := hB.cell 0
          have c1 := hB.cell 1
          go_wp2_with fail
          clear hb1 hb2 hb12 hB hw c0 c1 hF l0 hif hpa
          generalize w2.alloc (.cells #[.int .u64 (lo p), .int .u64 (hi p)] 42) = W3 at bP bA hwA
          refine Calls.mono (spec_l01Meet _ _ _) ?_
          rintro e w4 ⟨rfl, hb4⟩
          have bP := bP.ext hb4
          have bA := bA.ext hb4
          have hw := hwA.trans hb4
          have p0 := bP.cell 0
          have p1 := bP.cell 1
          have a0 := bA.cell 0
          have a1 := bA.cell 1
          have lP := bP.lt
          have lA := bA.lt
          cases hz : mzero (mmeet (allTo xs k) p) with
          | false =>
            have hv2 := hover hz
            rw [hz] at e1
            clear hQ hv hover hname hgood hbad hmiss
            go_wp2
            go_ret
            exact ⟨by first | rfl | (rw [hv2.out]; rfl), by ((repeat (first | with_reducible exact Ext.refl _ | with_reducible exact hw | with_reducible exact hb9 | with_reducible exact hb8 | with_reducible exact hb7 | with_reducible exact hb6 | with_reducible exact hb5 | with_reducible exact hb4 | with_reducible exact hb3 | with_reducible exact hb2 | with_reducible exact hb1 | with_reducible refine Ext.alloc ?_ _ | with_reducible refine Ext.drew ?_ | ((with_reducible refine Ext.set ?_ ?_ _); focus (dsimp only; omega)) | with_reducible refine Ext.trans ?_ hb9 | with_reducible refine Ext.trans ?_ hb8 | with_reducible refine Ext.trans ?_ hb7 | with_reducible refine Ext.trans ?_ hb6 | with_reducible refine Ext.trans ?_ hb5 | with_reducible refine Ext.trans ?_ hb4 | with_reducible refine Ext.trans ?_ hb3 | with_reducible refine Ext.trans ?_ hb2 | with_reducible refine Ext.trans ?_ hb1 | with_reducible refine Ext.trans ?_ hw)))⟩
          | true =>
            have hgood := hgood hz
            rw [hz] at e1
            clear hover hbad hmiss
            go_wp2_with fail
            refine Calls.mono (spec_l01Join _ _ _) ?_
            rintro e w5 ⟨rfl, hb5⟩
            have bA := bA.ext hb5
            have hw := hw.trans hb5
            have g0 := bA.frozen 0
            have g1 := bA.frozen 1
            have y0 := bA.cell 0
            have y1 := bA.cell 1
            have lA := bA.lt
            have hB3 := hd (show BoxAt ((w5.setCell ⟨w.heap.size, 0, none⟩ (.int .u64 (lo (mjoin (allTo xs k) p)))).setCell ⟨w.heap.size, 1, none⟩ (.int .u64 (hi (mjoin (allTo xs k) p)))) w.heap.size #[.int .u64 (lo (allTo xs (k + 1))), .int .u64 (hi (allTo xs (k + 1)))] 42 by rw [hsu.out]; exact (bA.set 0 _).set 1 _)
            have hw3 : Ext w ((w5.setCell ⟨w.heap.size, 0, none⟩ (.int .u64 (lo (mjoin (allTo xs k) p)))).setCell ⟨w.heap.size, 1, none⟩ (.int .u64 (hi (mjoin (allTo xs k) p)))) := Ext.set (by dsimp only; omega) (Ext.set (by dsimp only; omega) hw _) _
            clear hb4 hb5 bP p0 p1 a0 a1 lP e1 hwA hw
            go_wp2
            clear y0 y1 g0 g1 bA lA
            generalize (w5.setCell ⟨w.heap.size, 0, none⟩ (.int .u64 (lo (mjoin (allTo xs k) p)))).setCell ⟨w.heap.size, 1, none⟩ (.int .u64 (hi (mjoin (allTo xs k) p))) = W5 at hB3 hw3
            have hB3 := hB3.out
            have hnm0 := hd (show hasFn (xs.take 0) xs[k].nm = false from rfl)
            go_loopg [6] k (fun g i wr => ∃ j : Nat, g = k - j ∧ j ≤ k ∧ i = .int .i64 j ∧ Ext W5 wr ∧ Hd (hasFn (xs.take j) xs[k].nm = false))
            case atStart => exact ⟨0, by omega, by omega, rfl, Ext.refl _, hnm0⟩
            case round =>
              obtain ⟨j, hg2, hj, rfl, hw5, hN⟩ := hrel
              have hww := hw3.trans hw5
              by_cases hjk : j < k
              · have hjl : j < xs.length := by omega
                obtain ⟨m0, _, _, _, m4⟩ := (hR.ext hww).fld j hjl
                obtain ⟨n0, _, _, _, n4⟩ := (hR.ext hww).fld k hkl
                have hs := any_take (fun g : Fld => g.nm.toList == xs[k].nm.toList) xs j hjl
                have hN2 : (xs.take j).any (fun g : Fld => g.nm.toList == xs[k].nm.toList) = false := hN.out
                rw [hN2, Bool.false_or] at hs
                cases hq : (xs[j].nm.toList == xs[k].nm.toList) with
                | true =>
                  have hh : hasFn (xs.take k) xs[k].nm = true := by
                    unfold hasFn
                    rw [List.any_eq_true]
                    exact ⟨xs[j], List.mem_take_iff_getElem.2 ⟨j, by omega, rfl⟩, hq⟩
                  have hv2 := hname hh
                  clear hs hN2 hN hQ hv hname hgood hh hnm0
                  go_wp2
                  refine wp_region_ext (by kernel_rfl) (by kernel_rfl) ?_
                  repeat (first | go_big_quiet_step (fail) | quiet_step (fail))
                  refine wpQuiet_nil ?_
                  intro w1 hq1
                  have hb1 := ext_of_class hq1
                  clear hq1
                  obtain ⟨hc1, hf1, hz1⟩ := bcell3 hb1
                  try simp at hz1
                  go_wp2
                  go_ret
                  exact ⟨by first | rfl | (rw [hv2.out]; rfl), hww.trans hb1⟩
                | false =>
                  have hN3 := hd (show hasFn (xs.take (j + 1)) xs[k].nm = false from hs.trans hq)
                  clear hs hN2
                  go_wp2
                  refine wp_region_ext (by kernel_rfl) (by kernel_rfl) ?_
                  repeat (first | go_big_quiet_step (fail) | quiet_step (fail))
                  refine wpQuiet_nil ?_
                  intro w1 hq1
                  have hb1 := ext_of_class hq1
                  clear hq1
                  obtain ⟨hc1, hf1, hz1⟩ := bcell3 hb1
                  try simp at hz1
                  go_wp2
                  go_roundg (k - (j + 1))
                  case rel => exact ⟨j + 1, rfl, hjk, by simp, hw5.trans hb1, hN3⟩
                  case measure => omega
              · obtain rfl : j = k := by omega
                have hQ2 := hgood hN.out
                go_wp2
                go_roundg (xs.length - (j + 1))
                case rel => exact ⟨j + 1, rfl, hkl, by simp, hww, hQ2, hB3.ext hw5⟩
                case measure => omega
      · obtain rfl : k = xs.length := by omega
        have hv2 := hd (hv.out.trans hQ.out)
        go_wp2
        go_ret
        exact ⟨by rw [hv2.out]; rfl, hw⟩
  · have hv := hd (sch_long h12)
    go_enter Tryz.func31, Tryz.ntmps31
    go_wp2
    go_ret
    exact ⟨by rw [hv.out]; rfl, Ext.refl _⟩
end Go.Proofs.YtciepjdacmjhlaaGreatDoor
