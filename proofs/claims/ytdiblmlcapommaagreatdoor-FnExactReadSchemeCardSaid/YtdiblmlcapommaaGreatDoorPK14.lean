/-
  PK14: the texts F12 F19 Q2 WN WG Q3 in one (written by pack.py).
-/
import Derived.Test.YtdiblmlcapommaaGreatDoorPK13
import Derived.Test.YtdiblmlcapommaaGreatDoorPK1
import Derived.Test.YtdiblmlcapommaaGreatDoorPK10
import Derived.Test.YtdiblmlcapommaaGreatDoorPK11
import Derived.Test.YtdiblmlcapommaaGreatDoorPK2
import Derived.Test.YtdiblmlcapommaaGreatDoorPK8
set_option linter.unusedVariables false
set_option linter.unusedSimpArgs false
set_option maxRecDepth 100000
namespace Go.Proofs.YtdiblmlcapommaaGreatDoor
open Go.RowKit
theorem ExtOf.prop {w : World} (x : ExtOf w) : Ext w x.val := x.2
end Go.Proofs.YtdiblmlcapommaaGreatDoor
set_option linter.unusedVariables false
set_option linter.unusedSimpArgs false
set_option maxRecDepth 100000
namespace Go.Proofs.YtdiblmlcapommaaGreatDoor
open Go.RowKit
set_option maxHeartbeats 400000 in
theorem impl_isScheme1 (y : Fld) (nm : ByteArray) (bx : Nat) (w : World) (hx : w.cell? ⟨bx, 0, none⟩ = some (.string nm)) (hlt : bx < w.heap.size) :
    Calls Tryz.prog 34 #[.agg #[.string y.nm, .int .i8 y.kd, .int .i16 y.st, .int .i16 y.sz], .pointer (some ⟨bx, 0, none⟩)] w fun e w' => e = .returned (.bool (y.nm.toList == nm.toList)) ∧ Ext w w' := by
  cases h : (y.nm.toList == nm.toList)
  all_goals
    go_enter Tryz.func34, Tryz.ntmps34
    go_wp2
    go_ret
    exact ⟨by first | rfl | simp [h], by ((repeat (first | with_reducible exact Ext.refl _ | with_reducible exact hw | with_reducible exact hb9 | with_reducible exact hb8 | with_reducible exact hb7 | with_reducible exact hb6 | with_reducible exact hb5 | with_reducible exact hb4 | with_reducible exact hb3 | with_reducible exact hb2 | with_reducible exact hb1 | with_reducible refine Ext.alloc ?_ _ | with_reducible refine Ext.drew ?_ | ((with_reducible refine Ext.set ?_ ?_ _); focus (dsimp only; omega)) | with_reducible refine Ext.trans ?_ hb9 | with_reducible refine Ext.trans ?_ hb8 | with_reducible refine Ext.trans ?_ hb7 | with_reducible refine Ext.trans ?_ hb6 | with_reducible refine Ext.trans ?_ hb5 | with_reducible refine Ext.trans ?_ hb4 | with_reducible refine Ext.trans ?_ hb3 | with_reducible refine Ext.trans ?_ hb2 | with_reducible refine Ext.trans ?_ hb1 | with_reducible refine Ext.trans ?_ hw)))⟩
set_option maxHeartbeats 400000 in
theorem slices_IndexFunc_sameFld (xs : List Fld) (A : Option Addr) (n cap : Nat) (w : World) (hnx : n = xs.length) (hR : Rd encFld w A xs) (hn : n ≤ 1048576) (nm : ByteArray) (bx : Nat) (hx : w.cell? ⟨bx, 0, none⟩ = some (.string nm)) (hbx : bx < w.heap.size) :
    Calls Tryz.prog 49 #[.slice A n cap, .func (.func 34) #[] #[.pointer (some ⟨bx, 0, none⟩)]] w fun e w' => e = .returned (.int .i64 (fidx (fun y : Fld => y.nm.toList == nm.toList) xs)) ∧ Ext w w' := by
  subst hnx
  go_enter Tryz.func49, Tryz.ntmps49
  go_wp2
  go_loopg [8] xs.length (fun g i wr => ∃ k : Nat, g = xs.length - k ∧ k ≤ xs.length ∧ i = .int .i64 k ∧ Ext w wr ∧ (xs.take k).any (fun y : Fld => y.nm.toList == nm.toList) = false)
  case atStart => exact ⟨0, by omega, by omega, rfl, Ext.refl _, by rw [List.take_zero]; rfl⟩
  case round =>
    obtain ⟨k, hg, hk, rfl, hw, hQ⟩ := hrel
    by_cases hkl : k < xs.length
    · obtain ⟨b, off, hA, hlt, _⟩ := hR k hkl
      subst hA
      obtain ⟨m0, m1, m2, m3, m4⟩ := (hR.ext hw).fld k hkl
      have hs := any_take (fun y : Fld => y.nm.toList == nm.toList) xs k hkl
      rw [hQ, Bool.false_or] at hs
      cases hq : (fun y : Fld => y.nm.toList == nm.toList) xs[k] with
      | true =>
        have hM := fidx_hit (fun y : Fld => y.nm.toList == nm.toList) xs k hkl hq hQ
        try dsimp only at hq
        clear hs hQ
        go_wp2_with fail
        refine Calls.mono (impl_isScheme1 xs[k] nm bx _ (hw.cell hx) (Nat.lt_of_lt_of_le hbx hw.size)) ?_
        rintro e w1 ⟨rfl, hb1⟩
        simp only [hq]
        go_wp2
        go_ret
        exact ⟨by rw [hM]; rfl, by ((repeat (first | with_reducible exact Ext.refl _ | with_reducible exact hw | with_reducible exact hb9 | with_reducible exact hb8 | with_reducible exact hb7 | with_reducible exact hb6 | with_reducible exact hb5 | with_reducible exact hb4 | with_reducible exact hb3 | with_reducible exact hb2 | with_reducible exact hb1 | with_reducible refine Ext.alloc ?_ _ | with_reducible refine Ext.drew ?_ | ((with_reducible refine Ext.set ?_ ?_ _); focus (dsimp only; omega)) | with_reducible refine Ext.trans ?_ hb9 | with_reducible refine Ext.trans ?_ hb8 | with_reducible refine Ext.trans ?_ hb7 | with_reducible refine Ext.trans ?_ hb6 | with_reducible refine Ext.trans ?_ hb5 | with_reducible refine Ext.trans ?_ hb4 | with_reducible refine Ext.trans ?_ hb3 | with_reducible refine Ext.trans ?_ hb2 | with_reducible refine Ext.trans ?_ hb1 | with_reducible refine Ext.trans ?_ hw)))⟩
      | false =>
        have hs2 := hd (hs.trans hq)
        try dsimp only at hq
        clear hs hQ
        go_wp2_with fail
        refine Calls.mono (impl_isScheme1 xs[k] nm bx _ (hw.cell hx) (Nat.lt_of_lt_of_le hbx hw.size)) ?_
        rintro e w1 ⟨rfl, hb1⟩
        simp only [hq]
        go_wp2
        go_roundg (xs.length - (k + 1))
        case rel => exact ⟨k + 1, rfl, hkl, rfl, by ((repeat (first | with_reducible exact Ext.refl _ | with_reducible exact hw | with_reducible exact hb9 | with_reducible exact hb8 | with_reducible exact hb7 | with_reducible exact hb6 | with_reducible exact hb5 | with_reducible exact hb4 | with_reducible exact hb3 | with_reducible exact hb2 | with_reducible exact hb1 | with_reducible refine Ext.alloc ?_ _ | with_reducible refine Ext.drew ?_ | ((with_reducible refine Ext.set ?_ ?_ _); focus (dsimp only; omega)) | with_reducible refine Ext.trans ?_ hb9 | with_reducible refine Ext.trans ?_ hb8 | with_reducible refine Ext.trans ?_ hb7 | with_reducible refine Ext.trans ?_ hb6 | with_reducible refine Ext.trans ?_ hb5 | with_reducible refine Ext.trans ?_ hb4 | with_reducible refine Ext.trans ?_ hb3 | with_reducible refine Ext.trans ?_ hb2 | with_reducible refine Ext.trans ?_ hb1 | with_reducible refine Ext.trans ?_ hw))), hs2.out⟩
        case measure => omega
    · obtain rfl : k = xs.length := by omega
      rw [List.take_length] at hQ
      have hM := fidx_none (fun y : Fld => y.nm.toList == nm.toList) xs hQ
      go_wp2
      go_ret
      exact ⟨by rw [hM]; rfl, hw⟩

theorem hasFn_fidx (xs : List Fld) (nm : ByteArray) : hasFn xs nm = decide (fidx (fun y : Fld => y.nm.toList == nm.toList) xs ≥ 0) := by
  rw [Bool.eq_iff_iff, decide_eq_true_iff]
  exact (fidx_ge _ xs).symm
set_option maxHeartbeats 400000 in
theorem slices_ContainsFunc_sameFld (xs : List Fld) (A : Option Addr) (n cap : Nat) (w : World) (hnx : n = xs.length) (hR : Rd encFld w A xs) (hn : n ≤ 1048576) (nm : ByteArray) (bx : Nat) (hx : w.cell? ⟨bx, 0, none⟩ = some (.string nm)) (hbx : bx < w.heap.size) :
    Calls Tryz.prog 33 #[.slice A n cap, .func (.func 34) #[] #[.pointer (some ⟨bx, 0, none⟩)]] w fun e w' => e = .returned (.bool (hasFn xs nm)) ∧ Ext w w' := by
  subst hnx
  have hI := slices_IndexFunc_sameFld xs A _ cap w rfl hR hn nm bx hx hbx
  have hm := hasFn_fidx xs nm
  generalize fidx (fun y : Fld => y.nm.toList == nm.toList) xs = q at hm hI
  rw [hm]
  clear hm
  go_enter Tryz.func33, Tryz.ntmps33
  go_wp2_with fail
  refine Calls.mono (hI) ?_
  rintro e w1 ⟨rfl, hb1⟩
  go_wp2
  go_ret
  exact ⟨rfl, by ((repeat (first | with_reducible exact Ext.refl _ | with_reducible exact hw | with_reducible exact hb9 | with_reducible exact hb8 | with_reducible exact hb7 | with_reducible exact hb6 | with_reducible exact hb5 | with_reducible exact hb4 | with_reducible exact hb3 | with_reducible exact hb2 | with_reducible exact hb1 | with_reducible refine Ext.alloc ?_ _ | with_reducible refine Ext.drew ?_ | ((with_reducible refine Ext.set ?_ ?_ _); focus (dsimp only; omega)) | with_reducible refine Ext.trans ?_ hb9 | with_reducible refine Ext.trans ?_ hb8 | with_reducible refine Ext.trans ?_ hb7 | with_reducible refine Ext.trans ?_ hb6 | with_reducible refine Ext.trans ?_ hb5 | with_reducible refine Ext.trans ?_ hb4 | with_reducible refine Ext.trans ?_ hb3 | with_reducible refine Ext.trans ?_ hb2 | with_reducible refine Ext.trans ?_ hb1 | with_reducible refine Ext.trans ?_ hw)))⟩
theorem isField_in (f : Fld) (hf : FldIn f) (W : World) : Calls Tryz.prog 29 #[.agg #[.string f.nm, .int .i8 f.kd, .int .i16 f.st, .int .i16 f.sz]] W fun e w' => e = .returned (.bool (fldB f)) ∧ Ext W w' := by
  obtain ⟨⟨⟨a0, a1⟩, ⟨a2, a3⟩, a4, a5⟩, hx⟩ := hf
  exact impl_isField f.nm f.kd f.st f.sz a0 a1 a2 a3 a4 a5 hx W
theorem l01Field_in (f : Fld) (hf : FldIn f) (b o : Nat) (W : World) (hF : FldAt W b o f) : Calls Tryz.prog 21 #[.pointer (some ⟨b, o, none⟩)] W fun e w' => e = .returned (.bool (fldB f)) ∧ Ext W w' := by
  obtain ⟨⟨⟨a0, a1⟩, ⟨a2, a3⟩, a4, a5⟩, hx⟩ := hf
  exact spec_l01Field f.nm f.kd f.st f.sz b o a0 a1 a2 a3 a4 a5 hx W hF (World.block_lt_of_cell? W _ hF.1)
set_option maxHeartbeats 2000000 in
theorem impl_isScheme (xs : List Fld) (A : Option Addr) (cap : Nat) (w : World) (hR : Rd encFld w A xs) (hcap : xs.length ≤ cap) (hn : xs.length ≤ 1048576) (hok : ∀ x ∈ xs, FldIn x) :
    Calls Tryz.prog 16 #[.slice A xs.length cap] w fun e w' => e = .returned (.bool (schB xs)) ∧ Ext w w' := by
  have hx := @ExtOf.cell
  have e2 := eqA_Mask
  by_cases h12 : xs.length ≤ 12
  · have hv : schB xs = fitsTo xs xs.length := by unfold schB; rw [decide_eq_true h12, Bool.true_and]
    have hv := hd hv
    go_enter Tryz.func16, Tryz.ntmps16
    go_wp2
    go_loopg [12] xs.length (fun g i wr => ∃ k : Nat, g = xs.length - k ∧ k ≤ xs.length ∧ i = .int .i64 k ∧ Ext w wr ∧ Hd (fitsTo xs k = true) ∧ BoxAt wr w.heap.size #[.int .u64 (lo (allTo xs k)), .int .u64 (hi (allTo xs k))] 49)
    case atStart => exact ⟨0, by omega, by omega, rfl, by ((repeat (first | with_reducible exact Ext.refl _ | with_reducible exact hw | with_reducible exact hb9 | with_reducible exact hb8 | with_reducible exact hb7 | with_reducible exact hb6 | with_reducible exact hb5 | with_reducible exact hb4 | with_reducible exact hb3 | with_reducible exact hb2 | with_reducible exact hb1 | with_reducible refine Ext.alloc ?_ _ | with_reducible refine Ext.drew ?_ | ((with_reducible refine Ext.set ?_ ?_ _); focus (dsimp only; omega)) | with_reducible refine Ext.trans ?_ hb9 | with_reducible refine Ext.trans ?_ hb8 | with_reducible refine Ext.trans ?_ hb7 | with_reducible refine Ext.trans ?_ hb6 | with_reducible refine Ext.trans ?_ hb5 | with_reducible refine Ext.trans ?_ hb4 | with_reducible refine Ext.trans ?_ hb3 | with_reducible refine Ext.trans ?_ hb2 | with_reducible refine Ext.trans ?_ hb1 | with_reducible refine Ext.trans ?_ hw))), hd rfl, by rw [allTo_zero, lo_zero, hi_zero]; exact BoxAt.new' rfl⟩
    case round =>
      obtain ⟨k, hg, hk, rfl, hw, hQ, hB⟩ := hrel
      by_cases hkl : k < xs.length
      · obtain ⟨b, off, hA, hlt, _⟩ := hR k hkl
        subst hA
        obtain ⟨m0, m1, m2, m3, m4⟩ := (hR.ext hw).fld k hkl
        have hif := isField_in xs[k] (hok _ (List.getElem_mem hkl))
        have hsu := hd (allTo_succ xs k hkl)
        have hmiss := fun h => hd (sch_miss k hkl h)
        have hbad := fun h => hmiss (fit_bad hkl h)
        have hover := fun h => hmiss (fit_over hkl h)
        have hname := fun h => hmiss (fit_name hkl h)
        have hgood := fun h1 h2 h3 => hd (show fitsTo xs (k + 1) = true by rw [fitsTo_succ, hQ.out, fit_good hkl h1 h2 h3]; rfl)
        have hpa := fun (h : fldB xs[k] = true) (W : World) => impl_part xs[k].nm xs[k].kd xs[k].st xs[k].sz h W
        have c0 := hB.cell 0
        have c1 := hB.cell 1
        have l0 := hB.lt
        cases hf : fldB xs[k] with
        | false =>
          have hv2 := hbad hf
          rw [hf] at hif
          clear hQ hv hover hname hgood hpa hbad hmiss
          go_wp2
          refine wp_region_ext (by kernel_rfl) (by kernel_rfl) ?_
          repeat (first | go_big_quiet_step ((go_at_call 29; with_reducible exact Calls.ext_all (fun W _ => hif W))) | quiet_step ((go_at_call 29; with_reducible exact Calls.ext_all (fun W _ => hif W))))
          refine wpQuiet_nil ?_
          intro w1 hq1
          have hb1 := ext_of_class hq1
          clear hq1
          obtain ⟨hc1, hf1, hz1⟩ := bcell3 hb1
          try simp at hz1
          go_wp2
          go_ret
          exact ⟨by first | rfl | (rw [hv2.out]; rfl), by ((repeat (first | with_reducible exact Ext.refl _ | with_reducible exact hw | with_reducible exact hb9 | with_reducible exact hb8 | with_reducible exact hb7 | with_reducible exact hb6 | with_reducible exact hb5 | with_reducible exact hb4 | with_reducible exact hb3 | with_reducible exact hb2 | with_reducible exact hb1 | with_reducible refine Ext.alloc ?_ _ | with_reducible refine Ext.drew ?_ | ((with_reducible refine Ext.set ?_ ?_ _); focus (dsimp only; omega)) | with_reducible refine Ext.trans ?_ hb9 | with_reducible refine Ext.trans ?_ hb8 | with_reducible refine Ext.trans ?_ hb7 | with_reducible refine Ext.trans ?_ hb6 | with_reducible refine Ext.trans ?_ hb5 | with_reducible refine Ext.trans ?_ hb4 | with_reducible refine Ext.trans ?_ hb3 | with_reducible refine Ext.trans ?_ hb2 | with_reducible refine Ext.trans ?_ hb1 | with_reducible refine Ext.trans ?_ hw)))⟩
        | true =>
          rw [hf] at hif
          have hpa := hpa hf
          have hgood := hgood hf
          change ∀ W, Calls _ _ _ W fun e w' => e = .returned (.agg #[.int .u64 (lo (partF xs[k])), .int .u64 (hi (partF xs[k]))]) ∧ Ext W w' at hpa
          generalize partF xs[k] = p at hpa hsu hover hgood
          have e1 := lohi_zero (mmeet (allTo xs k) p)
          cases hz : mzero (mmeet (allTo xs k) p) with
          | false =>
            have hv2 := hover hz
            rw [hz] at e1
            clear hQ hv hover hname hgood hbad hmiss
            go_wp2
            refine wp_region_ext (by kernel_rfl) (by kernel_rfl) ?_
            repeat (first | go_big_quiet_step ((first | (go_at_call 29; with_reducible exact Calls.ext_all (fun W _ => hif W)) | (go_at_call 31; with_reducible exact Calls.ext_all (fun W _ => hpa W)) | (go_at_call 30; with_reducible exact Calls.ext_of (impl_MeetMasks _ _ _)))) | quiet_step ((first | (go_at_call 29; with_reducible exact Calls.ext_all (fun W _ => hif W)) | (go_at_call 31; with_reducible exact Calls.ext_all (fun W _ => hpa W)) | (go_at_call 30; with_reducible exact Calls.ext_of (impl_MeetMasks _ _ _)))))
            refine wpQuiet_nil ?_
            intro w1 hq1
            have hb1 := ext_of_class hq1
            clear hq1
            obtain ⟨hc1, hf1, hz1⟩ := bcell3 hb1
            try simp at hz1
            go_wp2
            go_ret
            exact ⟨by first | rfl | (rw [hv2.out]; rfl), by ((repeat (first | with_reducible exact Ext.refl _ | with_reducible exact hw | with_reducible exact hb9 | with_reducible exact hb8 | with_reducible exact hb7 | with_reducible exact hb6 | with_reducible exact hb5 | with_reducible exact hb4 | with_reducible exact hb3 | with_reducible exact hb2 | with_reducible exact hb1 | with_reducible refine Ext.alloc ?_ _ | with_reducible refine Ext.drew ?_ | ((with_reducible refine Ext.set ?_ ?_ _); focus (dsimp only; omega)) | with_reducible refine Ext.trans ?_ hb9 | with_reducible refine Ext.trans ?_ hb8 | with_reducible refine Ext.trans ?_ hb7 | with_reducible refine Ext.trans ?_ hb6 | with_reducible refine Ext.trans ?_ hb5 | with_reducible refine Ext.trans ?_ hb4 | with_reducible refine Ext.trans ?_ hb3 | with_reducible refine Ext.trans ?_ hb2 | with_reducible refine Ext.trans ?_ hb1 | with_reducible refine Ext.trans ?_ hw)))⟩
          | true =>
            have hgood := hgood hz
            rw [hz] at e1
            clear hover hbad hmiss
            go_wp2
            refine wp_region_ext (by kernel_rfl) (by kernel_rfl) ?_
            repeat (first | go_big_quiet_step ((first | (go_at_call 29; with_reducible exact Calls.ext_all (fun W _ => hif W)) | (go_at_call 31; with_reducible exact Calls.ext_all (fun W _ => hpa W)) | (go_at_call 30; with_reducible exact Calls.ext_of (impl_MeetMasks _ _ _)))) | quiet_step ((first | (go_at_call 29; with_reducible exact Calls.ext_all (fun W _ => hif W)) | (go_at_call 31; with_reducible exact Calls.ext_all (fun W _ => hpa W)) | (go_at_call 30; with_reducible exact Calls.ext_of (impl_MeetMasks _ _ _)))))
            refine wpQuiet_nil ?_
            intro w1 hq1
            have hb1 := ext_of_class hq1
            clear hq1
            obtain ⟨hc1, hf1, hz1⟩ := bcell3 hb1
            try simp at hz1
            have x0 : w1.cell? ⟨wr.heap.size, 0, none⟩ = some (.string xs[k].nm) := hb1.cell (by go_simp)
            have x1 : w1.cell? ⟨wr.heap.size, 1, none⟩ = some (.int .i8 xs[k].kd) := hb1.cell (by go_simp)
            have x2 : w1.cell? ⟨wr.heap.size, 2, none⟩ = some (.int .i16 xs[k].st) := hb1.cell (by go_simp)
            have x3 : w1.cell? ⟨wr.heap.size, 3, none⟩ = some (.int .i16 xs[k].sz) := hb1.cell (by go_simp)
            have hB1 := (hB.alloc _).ext hb1
            have hw1 : Ext w w1 := by ((repeat (first | with_reducible exact Ext.refl _ | with_reducible exact hw | with_reducible exact hb9 | with_reducible exact hb8 | with_reducible exact hb7 | with_reducible exact hb6 | with_reducible exact hb5 | with_reducible exact hb4 | with_reducible exact hb3 | with_reducible exact hb2 | with_reducible exact hb1 | with_reducible refine Ext.alloc ?_ _ | with_reducible refine Ext.drew ?_ | ((with_reducible refine Ext.set ?_ ?_ _); focus (dsimp only; omega)) | with_reducible refine Ext.trans ?_ hb9 | with_reducible refine Ext.trans ?_ hb8 | with_reducible refine Ext.trans ?_ hb7 | with_reducible refine Ext.trans ?_ hb6 | with_reducible refine Ext.trans ?_ hb5 | with_reducible refine Ext.trans ?_ hb4 | with_reducible refine Ext.trans ?_ hb3 | with_reducible refine Ext.trans ?_ hb2 | with_reducible refine Ext.trans ?_ hb1 | with_reducible refine Ext.trans ?_ hw)))
            have hR1 := hR.ext hw1
            have ne1 : ¬ wr.heap.size = w.heap.size := by have := hB.lt; omega
            have l1 := World.block_lt_of_cell? _ _ x0
            have l2 := hB1.lt
            dsimp only at l1
            have d0 := hB1.cell 0
            have d1 := hB1.cell 1
            have f0 := hB1.frozen 0
            have f1 := hB1.frozen 1
            clear hc1 hf1 hb1 hz1 hw hB c0 c1 m0 m1 m2 m3 m4 hlt l0 e1
            go_wp2
            refine wp_region_ext_tail 4 4 (by kernel_rfl) (by kernel_rfl) (by intro d _ _ _ _ h; cases d <;> exact h) ?_
            simp only [List.take_succ_cons, List.take_zero, List.drop_succ_cons, List.drop_zero]
            repeat (first | go_big_quiet_step ((first | (go_at_call 31; with_reducible exact Calls.ext_all (fun W _ => hpa W)) | (go_at_call 32; with_reducible exact Calls.ext_of (impl_JoinMasks _ _ _)))) | quiet_step ((first | (go_at_call 31; with_reducible exact Calls.ext_all (fun W _ => hpa W)) | (go_at_call 32; with_reducible exact Calls.ext_of (impl_JoinMasks _ _ _)))))
            refine wpQuiet_nil ?_
            intro w2 hq2
            have hb2 := ext_of_class hq2
            clear hq2
            obtain ⟨hc2, hf2, hz2⟩ := bcell3 hb2
            try simp at hz2
            have hB2 := hB1.ext hb2
            have g0 := hB2.frozen 0
            have g1 := hB2.frozen 1
            have k0 := hB2.cell 0
            have k1 := hB2.cell 1
            have y0 := hb2.cell x0
            have l3 := World.block_lt_of_cell? _ _ y0
            have l4 := hB2.lt
            dsimp only at l3
            have hw2 := hw1.trans hb2
            have hB3 := hd (show BoxAt ((w2.setCell ⟨w.heap.size, 0, none⟩ (.int .u64 (lo (mjoin (allTo xs k) p)))).setCell ⟨w.heap.size, 1, none⟩ (.int .u64 (hi (mjoin (allTo xs k) p)))) w.heap.size #[.int .u64 (lo (allTo xs (k + 1))), .int .u64 (hi (allTo xs (k + 1)))] 49 by rw [hsu.out]; exact (hB2.set 0 _).set 1 _)
            have hw3 : Ext w ((w2.setCell ⟨w.heap.size, 0, none⟩ (.int .u64 (lo (mjoin (allTo xs k) p)))).setCell ⟨w.heap.size, 1, none⟩ (.int .u64 (hi (mjoin (allTo xs k) p)))) := Ext.set (by dsimp only; omega) (Ext.set (by dsimp only; omega) hw2 _) _
            have z0 : ((w2.setCell ⟨w.heap.size, 0, none⟩ (.int .u64 (lo (mjoin (allTo xs k) p)))).setCell ⟨w.heap.size, 1, none⟩ (.int .u64 (hi (mjoin (allTo xs k) p)))).cell? ⟨wr.heap.size, 0, none⟩ = some (.string xs[k].nm) := by go_simp
            have hco := slices_ContainsFunc_sameFld (xs.take k) (some ⟨b, off, none⟩) k cap _ (by rw [List.length_take]; omega) ((hR.ext hw3).take k) (by omega) xs[k].nm wr.heap.size z0 (World.block_lt_of_cell? _ _ z0)
            clear hB1 hB2 hc2 hf2 x0 x1 x2 x3 d0 d1 f0 f1 hR1 hw1 hsu hpa hif y0 hw2
            cases hh : hasFn (xs.take k) xs[k].nm with
            | true =>
              have hv2 := hname hh
              rw [hh] at hco
              clear hQ hv hname hgood
              go_wp2_with fail
              refine Calls.mono (hco) ?_
              rintro e w4 ⟨rfl, hb4⟩
              go_wp2
              go_ret
              exact ⟨by first | rfl | (rw [hv2.out]; rfl), hw3.trans hb4⟩
            | false =>
              have hQ2 := hgood hh
              rw [hh] at hco
              clear hgood hname
              go_wp2_with fail
              refine Calls.mono (hco) ?_
              rintro e w4 ⟨rfl, hb4⟩
              go_wp2
              go_roundg (xs.length - (k + 1))
              case rel => exact ⟨k + 1, rfl, hkl, by simp, hw3.trans hb4, hQ2, hB3.out.ext hb4⟩
              case measure => omega
      · obtain rfl : k = xs.length := by omega
        have hv2 := hd (hv.out.trans hQ.out)
        go_wp2
        go_ret
        exact ⟨by rw [hv2.out]; rfl, hw⟩
  · have hv := hd (sch_long h12)
    go_enter Tryz.func16, Tryz.ntmps16
    go_wp2
    go_ret
    exact ⟨by rw [hv.out]; rfl, Ext.refl _⟩
set_option maxHeartbeats 2000000 in
theorem spec_l01Scheme (xs : List Fld) (A : Option Addr) (cap : Nat) (w : World) (hR : Rd encFld w A xs) (hn : xs.length ≤ 1048576) (hok : ∀ x ∈ xs, FldIn x) :
    Calls Tryz.prog 11 #[.slice A xs.length cap] w fun e w' => e = .returned (.bool (schB xs)) ∧ Ext w w' := by
  have hx := @ExtOf.cell
  have e2 := eqA_Mask
  by_cases h12 : xs.length ≤ 12
  · have hv : schB xs = fitsTo xs xs.length := by unfold schB; rw [decide_eq_true h12, Bool.true_and]
    have hv := hd hv
    go_enter Tryz.func11, Tryz.ntmps11
    go_wp2
    go_loopg [4] xs.length (fun g i wr => ∃ k : Nat, g = xs.length - k ∧ k ≤ xs.length ∧ i = .int .i64 k ∧ Ext w wr ∧ Hd (fitsTo xs k = true) ∧ BoxAt wr w.heap.size #[.int .u64 (lo (allTo xs k)), .int .u64 (hi (allTo xs k))] 49)
    case atStart => exact ⟨0, by omega, by omega, rfl, by ((repeat (first | with_reducible exact Ext.refl _ | with_reducible exact hw | with_reducible exact hb9 | with_reducible exact hb8 | with_reducible exact hb7 | with_reducible exact hb6 | with_reducible exact hb5 | with_reducible exact hb4 | with_reducible exact hb3 | with_reducible exact hb2 | with_reducible exact hb1 | with_reducible refine Ext.alloc ?_ _ | with_reducible refine Ext.drew ?_ | ((with_reducible refine Ext.set ?_ ?_ _); focus (dsimp only; omega)) | with_reducible refine Ext.trans ?_ hb9 | with_reducible refine Ext.trans ?_ hb8 | with_reducible refine Ext.trans ?_ hb7 | with_reducible refine Ext.trans ?_ hb6 | with_reducible refine Ext.trans ?_ hb5 | with_reducible refine Ext.trans ?_ hb4 | with_reducible refine Ext.trans ?_ hb3 | with_reducible refine Ext.trans ?_ hb2 | with_reducible refine Ext.trans ?_ hb1 | with_reducible refine Ext.trans ?_ hw))), hd rfl, by rw [allTo_zero, lo_zero, hi_zero]; exact BoxAt.new' rfl⟩
    case round =>
      obtain ⟨k, hg, hk, rfl, hw, hQ, hB⟩ := hrel
      by_cases hkl : k < xs.length
      · obtain ⟨b, off, hA, hlt, _⟩ := hR k hkl
        subst hA
        have hF := (hR.ext hw).fldAt k hkl
        have hif := l01Field_in xs[k] (hok _ (List.getElem_mem hkl)) b (off + k * 4) wr hF
        have hsu := hd (allTo_succ xs k hkl)
        have hmiss := fun h => hd (sch_miss k hkl h)
        have hbad := fun h => hmiss (fit_bad hkl h)
        have hover := fun h => hmiss (fit_over hkl h)
        have hname := fun h => hmiss (fit_name hkl h)
        have hgood := fun h1 h2 h3 => hd (show fitsTo xs (k + 1) = true by rw [fitsTo_succ, hQ.out, fit_good hkl h1 h2 h3]; rfl)
        have hpa := fun (h : fldB xs[k] = true) (W : World) (hh : FldAt W b (off + k * 4) xs[k]) => spec_l01Part xs[k] h b (off + k * 4) W hh
        have l0 := hB.lt
        cases hf : fldB xs[k] with
        | false =>
          have hv2 := hbad hf
          rw [hf] at hif
          clear hQ hv hover hname hgood hpa hbad hmiss
          go_wp2_with fail
          refine Calls.mono (hif) ?_
          rintro e w1 ⟨rfl, hb1⟩
          go_wp2
          go_ret
          exact ⟨by first | rfl | (rw [hv2.out]; rfl), by ((repeat (first | with_reducible exact Ext.refl _ | with_reducible exact hw | with_reducible exact hb9 | with_reducible exact hb8 | with_reducible exact hb7 | with_reducible exact hb6 | with_reducible exact hb5 | with_reducible exact hb4 | with_reducible exact hb3 | with_reducible exact hb2 | with_reducible exact hb1 | with_reducible refine Ext.alloc ?_ _ | with_reducible refine Ext.drew ?_ | ((with_reducible refine Ext.set ?_ ?_ _); focus (dsimp only; omega)) | with_reducible refine Ext.trans ?_ hb9 | with_reducible refine Ext.trans ?_ hb8 | with_reducible refine Ext.trans ?_ hb7 | with_reducible refine Ext.trans ?_ hb6 | with_reducible refine Ext.trans ?_ hb5 | with_reducible refine Ext.trans ?_ hb4 | with_reducible refine Ext.trans ?_ hb3 | with_reducible refine Ext.trans ?_ hb2 | with_reducible refine Ext.trans ?_ hb1 | with_reducible refine Ext.trans ?_ hw)))⟩
        | true =>
          rw [hf] at hif
          have hpa := hpa hf
          have hgood := hgood hf
          generalize partF xs[k] = p at hpa hsu hover hgood
          have e1 := lohi_zero (mmeet (allTo xs k) p)
          go_wp2_with fail
          refine Calls.mono (hif) ?_
          rintro e w1 ⟨rfl, hb1⟩
          go_wp2_with fail
          refine Calls.mono (hpa _ (hF.ext hb1)) ?_
          rintro e w2 ⟨rfl, hb2⟩
          have hb12 := hb1.trans hb2
          have hB := hB.ext hb12
          have hw := hw.trans hb12
          have ne1 : w.heap.size < w2.heap.size := hB.lt
          have bP : BoxAt (w2.alloc (.cells #[.int .u64 (lo p), .int .u64 (hi p)] 49)) w2.heap.size #[.int .u64 (lo p), .int .u64 (hi p)] 49 := BoxAt.new' rfl
          have bA := hB.alloc (.cells #[.int .u64 (lo p), .int .u64 (hi p)] 49)
          have hwA : Ext w (w2.alloc (.cells #[.int .u64 (lo p), .int .u64 (hi p)] 49)) := hw.alloc _
          have c0 := hB.cell 0
          have c1 := hB.cell 1
          go_wp2_with fail
          clear hb1 hb2 hb12 hB hw c0 c1 hF l0 hif hpa
          generalize w2.alloc (.cells #[.int .u64 (lo p), .int .u64 (hi p)] 49) = W3 at bP bA hwA
          refine Calls.mono (spec_l01Meet _ _ _) ?_
          rintro e w4 ⟨rfl, hb4⟩
          have bP := bP.ext hb4
          have bA := bA.ext hb4
          have hw := hwA.trans hb4
          have p0 := bP.cell 0
          have p1 := bP.cell 1
          have a0 := bA.cell 0
          have a1 := bA.cell 1
          have lP := bP.lt
          have lA := bA.lt
          cases hz : mzero (mmeet (allTo xs k) p) with
          | false =>
            have hv2 := hover hz
            rw [hz] at e1
            clear hQ hv hover hname hgood hbad hmiss
            go_wp2
            go_ret
            exact ⟨by first | rfl | (rw [hv2.out]; rfl), by ((repeat (first | with_reducible exact Ext.refl _ | with_reducible exact hw | with_reducible exact hb9 | with_reducible exact hb8 | with_reducible exact hb7 | with_reducible exact hb6 | with_reducible exact hb5 | with_reducible exact hb4 | with_reducible exact hb3 | with_reducible exact hb2 | with_reducible exact hb1 | with_reducible refine Ext.alloc ?_ _ | with_reducible refine Ext.drew ?_ | ((with_reducible refine Ext.set ?_ ?_ _); focus (dsimp only; omega)) | with_reducible refine Ext.trans ?_ hb9 | with_reducible refine Ext.trans ?_ hb8 | with_reducible refine Ext.trans ?_ hb7 | with_reducible refine Ext.trans ?_ hb6 | with_reducible refine Ext.trans ?_ hb5 | with_reducible refine Ext.trans ?_ hb4 | with_reducible refine Ext.trans ?_ hb3 | with_reducible refine Ext.trans ?_ hb2 | with_reducible refine Ext.trans ?_ hb1 | with_reducible refine Ext.trans ?_ hw)))⟩
          | true =>
            have hgood := hgood hz
            rw [hz] at e1
            clear hover hbad hmiss
            go_wp2_with fail
            refine Calls.mono (spec_l01Join _ _ _) ?_
            rintro e w5 ⟨rfl, hb5⟩
            have bA := bA.ext hb5
            have hw := hw.trans hb5
            have g0 := bA.frozen 0
            have g1 := bA.frozen 1
            have y0 := bA.cell 0
            have y1 := bA.cell 1
            have lA := bA.lt
            have hB3 := hd (show BoxAt ((w5.setCell ⟨w.heap.size, 0, none⟩ (.int .u64 (lo (mjoin (allTo xs k) p)))).setCell ⟨w.heap.size, 1, none⟩ (.int .u64 (hi (mjoin (allTo xs k) p)))) w.heap.size #[.int .u64 (lo (allTo xs (k + 1))), .int .u64 (hi (allTo xs (k + 1)))] 49 by rw [hsu.out]; exact (bA.set 0 _).set 1 _)
            have hw3 : Ext w ((w5.setCell ⟨w.heap.size, 0, none⟩ (.int .u64 (lo (mjoin (allTo xs k) p)))).setCell ⟨w.heap.size, 1, none⟩ (.int .u64 (hi (mjoin (allTo xs k) p)))) := Ext.set (by dsimp only; omega) (Ext.set (by dsimp only; omega) hw _) _
            clear hb4 hb5 bP p0 p1 a0 a1 lP e1 hwA hw
            go_wp2
            clear y0 y1 g0 g1 bA lA
            generalize (w5.setCell ⟨w.heap.size, 0, none⟩ (.int .u64 (lo (mjoin (allTo xs k) p)))).setCell ⟨w.heap.size, 1, none⟩ (.int .u64 (hi (mjoin (allTo xs k) p))) = W5 at hB3 hw3
            have hB3 := hB3.out
            have hnm0 := hd (show hasFn (xs.take 0) xs[k].nm = false from rfl)
            go_loopg [6] k (fun g i wr => ∃ j : Nat, g = k - j ∧ j ≤ k ∧ i = .int .i64 j ∧ Ext W5 wr ∧ Hd (hasFn (xs.take j) xs[k].nm = false))
            case atStart => exact ⟨0, by omega, by omega, rfl, Ext.refl _, hnm0⟩
            case round =>
              obtain ⟨j, hg2, hj, rfl, hw5, hN⟩ := hrel
              have hww := hw3.trans hw5
              by_cases hjk : j < k
              · have hjl : j < xs.length := by omega
                obtain ⟨m0, _, _, _, m4⟩ := (hR.ext hww).fld j hjl
                obtain ⟨n0, _, _, _, n4⟩ := (hR.ext hww).fld k hkl
                have hs := any_take (fun g : Fld => g.nm.toList == xs[k].nm.toList) xs j hjl
                have hN2 : (xs.take j).any (fun g : Fld => g.nm.toList == xs[k].nm.toList) = false := hN.out
                rw [hN2, Bool.false_or] at hs
                cases hq : (xs[j].nm.toList == xs[k].nm.toList) with
                | true =>
                  have hh : hasFn (xs.take k) xs[k].nm = true := by
                    unfold hasFn
                    rw [List.any_eq_true]
                    exact ⟨xs[j], List.mem_take_iff_getElem.2 ⟨j, by omega, rfl⟩, hq⟩
                  have hv2 := hname hh
                  clear hs hN2 hN hQ hv hname hgood hh hnm0
                  go_wp2
                  refine wp_region_ext (by kernel_rfl) (by kernel_rfl) ?_
                  repeat (first | go_big_quiet_step (fail) | quiet_step (fail))
                  refine wpQuiet_nil ?_
                  intro w1 hq1
                  have hb1 := ext_of_class hq1
                  clear hq1
                  obtain ⟨hc1, hf1, hz1⟩ := bcell3 hb1
                  try simp at hz1
                  go_wp2
                  go_ret
                  exact ⟨by first | rfl | (rw [hv2.out]; rfl), hww.trans hb1⟩
                | false =>
                  have hN3 := hd (show hasFn (xs.take (j + 1)) xs[k].nm = false from hs.trans hq)
                  clear hs hN2
                  go_wp2
                  refine wp_region_ext (by kernel_rfl) (by kernel_rfl) ?_
                  repeat (first | go_big_quiet_step (fail) | quiet_step (fail))
                  refine wpQuiet_nil ?_
                  intro w1 hq1
                  have hb1 := ext_of_class hq1
                  clear hq1
                  obtain ⟨hc1, hf1, hz1⟩ := bcell3 hb1
                  try simp at hz1
                  go_wp2
                  go_roundg (k - (j + 1))
                  case rel => exact ⟨j + 1, rfl, hjk, by simp, hw5.trans hb1, hN3⟩
                  case measure => omega
              · obtain rfl : j = k := by omega
                have hQ2 := hgood hN.out
                go_wp2
                go_roundg (xs.length - (j + 1))
                case rel => exact ⟨j + 1, rfl, hkl, by simp, hww, hQ2, hB3.ext hw5⟩
                case measure => omega
      · obtain rfl : k = xs.length := by omega
        have hv2 := hd (hv.out.trans hQ.out)
        go_wp2
        go_ret
        exact ⟨by rw [hv2.out]; rfl, hw⟩
  · have hv := hd (sch_long h12)
    go_enter Tryz.func11, Tryz.ntmps11
    go_wp2
    go_ret
    exact ⟨by rw [hv.out]; rfl, Ext.refl _⟩
end Go.Proofs.YtdiblmlcapommaaGreatDoor
set_option linter.unusedVariables false
set_option linter.unusedSimpArgs false
set_option maxRecDepth 100000
namespace Go.Proofs.YtdiblmlcapommaaGreatDoor
open Go.RowKit
theorem info_FldQ : (Tryz.prog.info? 33).map (fun i => (i.zero, i.size, i.bytes)) = some (some (.agg #[.string ⟨#[]⟩, .int .i8 0, .int .i16 0, .int .i16 0]), encFld.sz, 24) := by kernel_rfl
theorem RSP.len {text : ByteArray} {xs : List Fld} {c : Int} (h : RSP text xs c) : xs.length ≤ 12 := by
  rcases h with ⟨_, _, h⟩ | ⟨_, rfl, _⟩
  · exact (sch_all h).1
  · simp
set_option maxHeartbeats 4000000 in
theorem spec_ReadScheme (text : ByteArray) (hs : text.size ≤ 1048576) (w : World) :
    Calls Tryz.prog 4 #[.string text] w fun e w' => ∃ (xs : List Fld) (c : Int) (v : Value), e = .returned (.tuple #[v, .int .i64 c]) ∧ Ow encFld 33 w' w.heap.size v xs ∧ RSP text xs c ∧ Ext w w' := by
  have hle := splitC_le text 10
  have hne := split_ne10 10 text
  have hpl := piece_le 10 1048576 text hs
  have hsp := fun W => spec_l01Split text 10 (by omega) W
  obtain ⟨ls, hls⟩ : ∃ ls, splitC 10 text = ls := ⟨_, rfl⟩
  rw [hls] at hsp hpl hle hne
  have hlast := hd (split_last_eq (c := 10) (s := text) hls hne)
  have hno := hd (fun k (hk : k < ls.dropLast.length) (e : splitC 10 text = ls.dropLast ++ [⟨#[]⟩]) => no_bad e hk)
  have hend := hd (no_end (text := text))
  have hsof := hd (fun (e : splitC 10 text = ls.dropLast ++ [⟨#[]⟩]) (xs : List Fld) => says_of e (xs := xs))
  have hdl : ls.dropLast.length = ls.length - 1 := List.length_dropLast
  have hdg : ∀ k (h : k < ls.dropLast.length), ls.dropLast[k] = ls[k]'(by omega) := fun k h => List.getElem_dropLast h
  clear hls
  have hdg := hd hdg
  have hdl := hd hdl
  go_enter Tryz.func4, Tryz.ntmps4
  go_wp2_with fail
  refine Calls.mono (hsp _) ?_
  rintro e w1 ⟨v, rfl, hO, hb1⟩
  obtain ⟨A, cap, rfl, hcap, hR⟩ := hO.slice
  obtain ⟨bL, oL, hA, hlL, hjunk⟩ := hR 0 (by omega)
  subst hA
  have mL := hR.str (ls.length - 1) (by omega)
  have hwr1 : IntKind.i64.wrap ((ls.length : Int) - 1) = (ls.length : Int) - 1 := IntWalk.i64_in _ (by omega)
  clear hO hjunk hsp
  go_wp2
  obtain ⟨ok0, hok0⟩ : ∃ ok0, ls[ls.length - 1].toList.isEmpty = ok0 := ⟨_, rfl⟩
  have hst : Hd ((ok0 = true → splitC 10 text = ls.dropLast ++ [⟨#[]⟩]) ∧ (ok0 = false → ∀ ys, schB ys = true → ¬ saysF text ys)) := by
    refine hd ⟨fun h => hlast.out.1 ?_, fun h => hend.out (hlast.out.2 ?_)⟩
    · rw [h, List.isEmpty_iff] at hok0
      exact ext_ba (by rw [← Lib.toList_data, hok0])
    · intro h2
      rw [h, h2, Lib.toList_data] at hok0
      cases hok0
  rw [hok0]
  clear mL hwr1 hok0 hlast hend
  go_loopg [5, 6, 7] ls.length (fun g v ok i wr => ∃ (k : Nat) (xs : List Fld) (b : Bool), g = ls.length - k ∧ k ≤ ls.length ∧ i = .int .i64 k ∧ ok = .bool b ∧ Ext w1 wr ∧ Ow encFld 33 wr w1.heap.size v xs ∧ xs.length = k ∧ Hd (∀ f ∈ xs, FldIn f) ∧ Hd (b = true → k ≤ ls.length - 1 ∧ splitC 10 text = ls.dropLast ++ [⟨#[]⟩] ∧ saysTo ls.dropLast xs) ∧ Hd (b = false → ∀ ys, schB ys = true → ¬ saysF text ys))
  case atStart => exact ⟨0, [], ok0, by omega, by omega, rfl, rfl, (Ext.refl _).alloc _, Ow.made0 rfl (Nat.le_refl _), rfl, hd (fun f hf => absurd hf (by simp)), hd (fun h => ⟨Nat.zero_le _, hst.out.1 h, saysTo_nil _⟩), hd hst.out.2⟩
  case round =>
    obtain ⟨k, xs, b, hg, hk, rfl, rfl, hwr, hO, hxl, hin, hyes, hnoo⟩ := hrel
    have hw3 := hb1.trans hwr
    cases b with
    | false =>
      have hrs := hd (RSP.no (hnoo.out rfl))
      have hlw := hb1.size
      have hlw2 := hwr.size
      clear hyes hnoo hin hO
      by_cases hkl : (k : Int) + 1 < ls.length
      all_goals
        go_wp2
        refine bodyPost_ret (v := .tuple #[.slice (some ⟨wr.heap.size, 0, none⟩) 0 0, .int .i64 5]) (by simp [results, Tryz.results4, go_sem]) rfl ⟨[], 5, _, rfl, Ow.made0 rfl (by omega), hrs.out, hw3.alloc _⟩
    | true =>
      obtain ⟨hk1, hsp, hsy⟩ := hyes.out rfl
      have hsp := hd hsp
      have hsy := hd hsy
      clear hyes hnoo
      by_cases hkl : k + 1 < ls.length
      · have i1 : ((k : Int) + 1 < ls.length) = True := eq_true (by omega)
        have m0 := (hR.ext hwr).str k (by omega)
        have hkd : k < ls.dropLast.length := by have := hdl.out; omega
        have hnok := hd (hno.out k hkd hsp.out)
        rw [hdg.out k hkd] at hnok
        have hge : ls.dropLast[xs.length]'(by omega) = ls[k] := by subst hxl; exact hdg.out _ _
        have hpush := hd (fun (f : Fld) (h : fits ls[k] f) => saysTo_push hsy.out (by omega) (by rw [hge]; exact h))
        have hz1 := hpl _ (List.getElem_mem (show k < ls.length by omega))
        have hck := fun W => spec_l01ReadField ls[k] hz1 W
        clear hge
        generalize ls[k]'(by omega) = line at m0 hnok hpush hz1 hck
        go_wp2_with fail
        refine Calls.mono (hck _) ?_
        rintro e w2 ⟨⟨nm, kd, st, sz⟩, good, rfl, hfit, hbad, hFi, hb2⟩
        dsimp only
        have hfit := hd (fun h => hpush.out _ (hfit h))
        have hbad := hd (fun h => hnok.out (hbad h))
        have hFi := hd hFi
        have hwA : Ext w1 (w2.alloc (.cells #[.string nm, .int .i8 kd, .int .i16 st, .int .i16 sz] 33)) := (hwr.trans hb2).alloc _
        have hOA : Ow encFld 33 (w2.alloc (.cells #[.string nm, .int .i8 kd, .int .i16 st, .int .i16 sz] 33)) w1.heap.size u5 xs := hO.ext (hb2.alloc _)
        clear hO hnok hpush hz1 hck m0 hb2 hwr hw3
        go_wp2_with (at_builtin; refine wpList_push2 (w0 := w1) (base := w1.heap.size) (xs := xs) encFld (by rfl) _ _ 22 (.agg #[.string ⟨#[]⟩, .int .i8 0, .int .i16 0, .int .i16 0]) 24 (by rfl) Tryz.underlying22 info_FldQ (by rfl) (⟨nm, kd, st, sz⟩ : Fld) (by rfl) (by rfl) (by simp) hOA hwA.size (Nat.le_refl _) hwA (by omega) (by omega) ?_)
        intro v9 w9 hO9 hb9 hg9 _
        have hin9 : Hd (∀ f ∈ xs ++ [(⟨nm, kd, st, sz⟩ : Fld)], FldIn f) := hd (fun f hf => by
          rcases List.mem_append.1 hf with hf | hf
          · exact hin.out f hf
          · rw [List.mem_singleton.1 hf]; exact hFi.out)
        clear hOA hwA hg9
        go_wp2
        go_roundg (ls.length - (k + 1))
        case rel => exact ⟨k + 1, xs ++ [⟨nm, kd, st, sz⟩], good, rfl, by omega, by simp, rfl, hb9, hO9, by rw [List.length_append, List.length_singleton, hxl], hin9, hd (fun h => ⟨by omega, hsp.out, hfit.out h⟩), hbad⟩
        case measure => omega
      · have i1 : ((k : Int) + 1 < ls.length) = False := eq_false (by omega)
        have hsf := hd (hsof.out hsp.out xs hsy.out (by rw [hxl, hdl.out]; omega))
        subst hxl
        obtain ⟨B, capB, rfl, hcapB, hRB⟩ := hO.slice
        have hck := fun W (h : Ext wr W) => spec_l01Scheme xs B capB W (hRB.ext h) (by omega) hin.out
        have hlw := hb1.size
        have hl3 := hw3.size
        clear hsy hsp hsof hno hin
        cases hc : schB xs with
        | false =>
          have hrs := hd (RSP.no (no_sch hsf.out hc))
          rw [hc] at hck
          clear hsf
          go_wp2_with fail
          refine Calls.mono (hck _ (Ext.refl _)) ?_
          rintro e w4 ⟨rfl, hb4⟩
          have hl4 := hb4.size
          have hw4 := hw3.trans hb4
          clear hck
          go_wp2
          refine bodyPost_ret (v := .tuple #[.slice (some ⟨w4.heap.size, 0, none⟩) 0 0, .int .i64 5]) (by simp [results, Tryz.results4, go_sem]) rfl ⟨[], 5, _, rfl, Ow.made0 rfl (by omega), hrs.out, hw4.alloc _⟩
        | true =>
          have hrs := hd (RSP.ok hsf.out hc)
          rw [hc] at hck
          clear hsf
          go_wp2_with fail
          refine Calls.mono (hck _ (Ext.refl _)) ?_
          rintro e w4 ⟨rfl, hb4⟩
          have hw4 := hw3.trans hb4
          have hO4 := (hO.ext hb4).lower hlw
          clear hck
          go_wp2
          refine bodyPost_ret (v := .tuple #[.slice B xs.length capB, .int .i64 0]) (by simp [results, Tryz.results4, go_sem]) rfl ⟨xs, 0, _, rfl, hO4, hrs.out, hw4⟩
end Go.Proofs.YtdiblmlcapommaaGreatDoor
set_option linter.unusedVariables false
set_option linter.unusedSimpArgs false
set_option maxRecDepth 100000
namespace Go.Proofs.YtdiblmlcapommaaGreatDoor
open Go.RowKit
variable {α : Type}
/-- Blocks from lo up to hi alone have turned. -/
structure Win (lo hi : Nat) (w w' : World) : Prop where
  os : w'.os = w.os
  tape : w'.tape = w.tape
  output : w'.output = w.output
  size : w.heap.size ≤ w'.heap.size
  block : ∀ b, b < w.heap.size → (b < lo ∨ hi ≤ b) → w'.heap[b]? = w.heap[b]?
theorem Win.refl (lo hi : Nat) (w : World) : Win lo hi w w := ⟨rfl, rfl, rfl, Nat.le_refl _, fun _ _ _ => rfl⟩
theorem Win.ext {lo hi : Nat} {w w' w'' : World} (h : Win lo hi w w') (hb : Ext w' w'') : Win lo hi w w'' :=
  ⟨hb.os.trans h.os, hb.tape.trans h.tape, hb.output.trans h.output, Nat.le_trans h.size hb.size, fun b hb1 hb2 => (hb.block b (Nat.lt_of_lt_of_le hb1 h.size)).trans (h.block b hb1 hb2)⟩
theorem Win.grown {lo hi : Nat} {w w' w'' : World} {row : Option Nat} (h : Win lo hi w w') (hg : w'.grownBy w'' row) (hr : ∀ k, row = some k → lo ≤ k ∧ k < hi) : Win lo hi w w'' :=
  ⟨hg.os.trans h.os, hg.tape.trans h.tape, hg.output.trans h.output, Nat.le_trans h.size hg.size, fun b hb1 hb2 => (hg.block b (Nat.lt_of_lt_of_le hb1 h.size) (fun e => by have := hr b e.symm; omega)).trans (h.block b hb1 hb2)⟩
theorem Ow.win {α : Type} {e : Enc α} {T : TypeId} {w w' : World} {base lo hi : Nat} {v : Value} {xs : List α} (h : Ow e T w base v xs) (hW : Win lo hi w w') (hb : ∀ b, v.ownBlock = some b → b < lo ∨ hi ≤ b) : Ow e T w' base v xs :=
  h.keep fun k hk => hW.block k (h.lt k hk).2 (hb k hk)
theorem Ext.win {w0 w w' : World} {lo hi : Nat} (h : Ext w0 w) (hW : Win lo hi w w') (hb : w0.heap.size ≤ lo) : Ext w0 w' :=
  ⟨hW.os.trans h.os, hW.tape.trans h.tape, hW.output.trans h.output, Nat.le_trans h.size hW.size, fun k hk => (hW.block k (Nat.lt_of_lt_of_le hk h.size) (.inl (by omega))).trans (h.block k hk)⟩
theorem Win.trans {lo hi : Nat} {w w' w'' : World} (h : Win lo hi w w') (k : Win lo hi w' w'') : Win lo hi w w'' :=
  ⟨k.os.trans h.os, k.tape.trans h.tape, k.output.trans h.output, Nat.le_trans h.size k.size, fun b hb hn => (k.block b (Nat.lt_of_lt_of_le hb h.size) hn).trans (h.block b hb hn)⟩
theorem Win.of {lo hi : Nat} {w w' : World} (h : Ext w w') : Win lo hi w w' := (Win.refl lo hi w).ext h
theorem Win.set {lo hi : Nat} {w w' : World} {p : Addr} (h : Win lo hi w w') (h1 : lo ≤ p.block) (h2 : p.block < hi) (v : Value) : Win lo hi w (w'.setCell p v) :=
  have k : Below lo w' (w'.setCell p v) := Below.setCell (Below.refl _ _) h1 v
  ⟨k.os.trans h.os, k.tape.trans h.tape, k.output.trans h.output, Nat.le_trans h.size k.size, fun b hb hn => (Below.heap_setCell w' p v b (fun e => by subst e; omega)).trans (h.block b hb hn)⟩
theorem Win.set1 {b i : Nat} {w w' : World} (h : Win b (b + 1) w w') (v : Value) : Win b (b + 1) w (w'.setCell ⟨b, i, none⟩ v) := h.set (Nat.le_refl _) (Nat.lt_succ_self _) v
theorem BoxAt.win {lo hi : Nat} {w w' : World} {b : Nat} {cs : Array Value} {t : TypeId} (h : BoxAt w b cs t) (hW : Win lo hi w w') (hb : b < lo ∨ hi ≤ b) : BoxAt w' b cs t := (hW.block b h.lt hb).trans h
theorem cell_blockW {w w' : World} {a : Addr} (h : w'.heap[a.block]? = w.heap[a.block]?) : w'.cell? a = w.cell? a := by unfold World.cell?; rw [h]
theorem Rd.win {α : Type} {e : Enc α} {w w' : World} {lo hi : Nat} {A : Option Addr} {xs : List α} (h : Rd e w A xs) (hW : Win lo hi w w') (hb : ∀ p, A = some p → p.block < lo ∨ hi ≤ p.block) : Rd e w' A xs := fun k hk => by
  obtain ⟨b, off, hA, hlt, hc⟩ := h k hk
  exact ⟨b, off, hA, Nat.lt_of_lt_of_le hlt hW.size, fun j u hu => (cell_blockW (hW.block b hlt (hb _ hA))).trans (hc j u hu)⟩
theorem Win.setOut {lo hi : Nat} {w w' : World} (h : Win lo hi w w') {p : Addr} (hp : w.heap.size ≤ p.block) (v : Value) : Win lo hi w (w'.setCell p v) :=
  have k : Below w.heap.size w' (w'.setCell p v) := Below.setCell (Below.refl _ _) hp v
  ⟨k.os.trans h.os, k.tape.trans h.tape, k.output.trans h.output, Nat.le_trans h.size k.size, fun b hb hn => (k.block b hb).trans (h.block b hb hn)⟩
end Go.Proofs.YtdiblmlcapommaaGreatDoor
set_option linter.unusedVariables false
set_option linter.unusedSimpArgs false
set_option maxRecDepth 100000
namespace Go.Proofs.YtdiblmlcapommaaGreatDoor
open Go.RowKit
theorem Win.grownOut {lo hi : Nat} {w w' w'' : World} {row : Option Nat} (h : Win lo hi w w') (hg : w'.grownBy w'' row) (hr : ∀ k, row = some k → w.heap.size ≤ k) : Win lo hi w w'' :=
  ⟨hg.os.trans h.os, hg.tape.trans h.tape, hg.output.trans h.output, Nat.le_trans h.size hg.size, fun b hb1 hb2 => (hg.block b (Nat.lt_of_lt_of_le hb1 h.size) (fun e => by have := hr b e.symm; omega)).trans (h.block b hb1 hb2)⟩
theorem Rd.grown {α : Type} {e : Enc α} {w w' : World} {A : Option Addr} {xs : List α} (h : Rd e w A xs) {row : Option Nat} (hg : w.grownBy w' row) (hne : ∀ p, A = some p → row ≠ some p.block) : Rd e w' A xs := fun k hk => by
  obtain ⟨b, off, hA, hlt, hc⟩ := h k hk
  exact ⟨b, off, hA, Nat.lt_of_lt_of_le hlt hg.size, fun j u hu => (cell_blockW (hg.block b hlt (fun e => hne _ hA e.symm))).trans (hc j u hu)⟩
theorem BoxAt.grown {w w' : World} {b : Nat} {cs : Array Value} {t : TypeId} (h : BoxAt w b cs t) {row : Option Nat} (hg : w.grownBy w' row) (hne : row ≠ some b) : BoxAt w' b cs t := (hg.block b h.lt (fun e => hne e.symm)).trans h
section
variable {α : Type} {e : Enc α} {xs : List α} {T : TypeId} {base : Nat} {v : Value}
/-- Append of one element, in a world of which nothing else is told. -/
theorem wpList_pushW {P : Program} {ops : Array Oper} {rest : List Oper} {o : Oper} {a : Act} {Q : Exit → Act → World → Prop} (e : Enc α) {W : World} {bk : Nat} (hgd : o.guard = none) (s y : Operand) (t : TypeId) (z : Value) (bytes : Nat)
    (ho : o.op = .call { callee := .builtin .append, args := #[s, y], argTypes := #[t, t] })
    (ht : P.underlying t = some (.slice T)) (hinfo : (P.info? T).map (fun i => (i.zero, i.size, i.bytes)) = some (some z, e.sz, bytes)) (hz : z.cells.size = e.sz)
    (x : α) (hs : a.eval s = v) (hy : a.eval y = .slice (some ⟨bk, 0, none⟩) 1 1) (hbk : bk = W.heap.size) (HO : Ow e T W base v xs) (hbase : base ≤ W.heap.size)
    (hl : (xs.length + 1) * bytes ≤ 140737488355328) (hl2 : xs.length + 1 ≤ 9223372036854775807)
    (h : ∀ v1 w1, Ow e T w1 base v1 (xs ++ [x]) → W.grownBy w1 v.ownBlock → (v1.ownBlock = v.ownBlock ∨ ∃ b, v1.ownBlock = some b ∧ W.heap.size ≤ b) → wpList P ops Q rest (a.put o.dst v1) w1) :
    wpList P ops Q (o :: rest) a (W.alloc (.cells (e.enc x).toArray T)) :=
  wpList_push2 (w0 := { W with heap := #[] }) e hgd s y t z bytes ho ht hinfo hz x hs hy hbk HO hbase (Nat.zero_le _) ⟨rfl, rfl, rfl, Nat.zero_le _, fun b hb => absurd hb (Nat.not_lt_zero b)⟩ hl hl2 (fun v1 w1 h1 _ h3 h4 => h v1 w1 h1 h3 h4)
end
theorem Conv.convBR {G C : Nat → Int → World → Prop} {T : Prop} (ht : ∀ b r W, C b r W → G b r W) (h : (∀ b r W, C b r W → G b r W) → T) : T := h ht
theorem Conv.convR {G C : Int → World → Prop} {T : Prop} (ht : ∀ r W, C r W → G r W) (h : (∀ r W, C r W → G r W) → T) : T := h ht
end Go.Proofs.YtdiblmlcapommaaGreatDoor
set_option linter.unusedVariables false
set_option linter.unusedSimpArgs false
set_option maxRecDepth 100000
namespace Go.Proofs.YtdiblmlcapommaaGreatDoor
open Go.RowKit
/-- The names of the kinds lie in their place. -/
def Kn (w : World) : Prop := Rd encStr w (some ⟨0, 0, none⟩) kindsL
theorem Kn.ext {w w' : World} (h : Kn w) (hb : Ext w w') : Kn w' := Rd.ext h hb
theorem kindR_idx (q : ByteArray) : KindR q (idxI kindsL q) := by
  have hne : ∀ {j : Nat}, eqS (kindS j) q = false → kindS j ≠ q := fun {j} h e => by
    rw [e] at h
    unfold eqS at h
    simp at h
  have hall : (∀ j < 4, eqS (kindS j) q = false) ∨ ∃ j < 4, eqS (kindS j) q = true ∧ ∀ i < j, eqS (kindS i) q = false := by
    by_cases h0 : eqS (kindS 0) q = true
    · exact .inr ⟨0, by omega, h0, fun i hi => absurd hi (Nat.not_lt_zero i)⟩
    by_cases h1 : eqS (kindS 1) q = true
    · exact .inr ⟨1, by omega, h1, fun i hi => by
        obtain rfl : i = 0 := by omega
        simpa using h0⟩
    by_cases h2 : eqS (kindS 2) q = true
    · exact .inr ⟨2, by omega, h2, fun i hi => by
        rcases (by omega : i = 0 ∨ i = 1) with rfl | rfl
        · simpa using h0
        · simpa using h1⟩
    by_cases h3 : eqS (kindS 3) q = true
    · exact .inr ⟨3, by omega, h3, fun i hi => by
        rcases (by omega : i = 0 ∨ i = 1 ∨ i = 2) with rfl | rfl | rfl
        · simpa using h0
        · simpa using h1
        · simpa using h2⟩
    refine .inl (fun j hj => ?_)
    rcases (by omega : j = 0 ∨ j = 1 ∨ j = 2 ∨ j = 3) with rfl | rfl | rfl | rfl
    · simpa using h0
    · simpa using h1
    · simpa using h2
    · simpa using h3
  have hk : kindsL.length = 4 := rfl
  rcases hall with h | ⟨j, hj, h1, h2⟩
  · refine .inl ⟨fidx_none _ _ ?_, fun j hj => hne (h j hj)⟩
    rw [List.any_eq_false]
    intro y hy
    obtain ⟨i, hi, rfl⟩ := List.mem_iff_getElem.1 hy
    rw [kindsL_at hi, h i (by omega)]
    simp
  · refine .inr ⟨j, hj, fidx_hit _ _ j (by omega) (by rw [kindsL_at (by omega)]; exact h1) ?_, eqS_eq h1⟩
    rw [List.any_eq_false]
    intro y hy
    obtain ⟨i, hi, rfl⟩ := List.mem_take_iff_getElem.1 hy
    rw [kindsL_at (by omega), h2 i (by omega)]
    simp
theorem info_FldI : (Tryz.prog.info? 33).map (fun i => (i.zero, i.size, i.bytes)) = some (some (.agg #[.string ⟨#[]⟩, .int .i8 0, .int .i16 0, .int .i16 0]), encFld.sz, 24) := by kernel_rfl
theorem linesF_lenQ (s : ByteArray) (h : s.size ≤ 1048576) : (linesF s).1.length ≤ 1048577 ∧ ∀ l ∈ (linesF s).1, l.size ≤ 1048576 := by
  unfold linesF
  split
  · exact ⟨by simp, fun l hl => absurd hl (by simp)⟩
  · have h1 := bodyT_le s
    have h2 := splitC_le (bodyT s) 10
    exact ⟨by show (splitC 10 (bodyT s)).length ≤ _; omega, piece_le 10 1048576 _ (by omega)⟩
set_option maxHeartbeats 4000000 in
theorem impl_ReadScheme (text : ByteArray) (hs : text.size ≤ 1048576) (w : World) (hG : Glob w) (hE : Env w) (hK : Kn w) :
    Calls Tryz.prog 5 #[.string text] w fun e w' => ∃ (xs : List Fld) (c : Int) (v : Value), e = .returned (.tuple #[v, .int .i64 c]) ∧ Ow encFld 33 w' w.heap.size v xs ∧ RSP text xs c ∧ Ext w w' := by
  obtain ⟨hll, hlz⟩ := linesF_lenQ text hs
  obtain ⟨hle1, hle2⟩ := lines_end text
  have hx := @ExtOf.cell
  go_enter Tryz.func5, Tryz.ntmps5
  go_wp2_with fail
  refine Calls.mono (impl_linesOf text _ hs (hG.ext ((Ext.refl w).alloc _))) ?_
  rintro e w1 ⟨A, rfl, hR, hb1⟩
  have hw1 : Ext w w1 := by ((repeat (first | with_reducible exact Ext.refl _ | with_reducible exact hw | with_reducible exact hb9 | with_reducible exact hb8 | with_reducible exact hb7 | with_reducible exact hb6 | with_reducible exact hb5 | with_reducible exact hb4 | with_reducible exact hb3 | with_reducible exact hb2 | with_reducible exact hb1 | with_reducible refine Ext.alloc ?_ _ | with_reducible refine Ext.drew ?_ | ((with_reducible refine Ext.set ?_ ?_ _); focus (dsimp only; omega)) | with_reducible refine Ext.trans ?_ hb9 | with_reducible refine Ext.trans ?_ hb8 | with_reducible refine Ext.trans ?_ hb7 | with_reducible refine Ext.trans ?_ hb6 | with_reducible refine Ext.trans ?_ hb5 | with_reducible refine Ext.trans ?_ hb4 | with_reducible refine Ext.trans ?_ hb3 | with_reducible refine Ext.trans ?_ hb2 | with_reducible refine Ext.trans ?_ hb1 | with_reducible refine Ext.trans ?_ hw)))
  have hB1 : BoxAt w1 w.heap.size #[] 33 := (BoxAt.new' rfl).ext hb1
  have hO1 : Ow encFld 33 w1 w.heap.size (.slice (some ⟨w.heap.size, 0, none⟩) 0 0) [] := (Ow.made0 rfl (Nat.le_refl _)).ext hb1
  clear hb1
  obtain ⟨ls, ok, hL⟩ : ∃ ls ok, linesF text = (ls, ok) := ⟨_, _, rfl⟩
  rw [hL] at hR hll hlz hle1 hle2 ⊢
  dsimp only at hR hll hlz hle1 hle2 ⊢
  clear hL
  have hsof := hd (fun (e : splitC 10 text = ls ++ [⟨#[]⟩]) (xs : List Fld) => says_of e (xs := xs))
  have hno := hd (fun k (hk : k < ls.length) (e : splitC 10 text = ls ++ [⟨#[]⟩]) => no_bad e hk)
  cases ok with
  | false =>
    have hrs := hd (RSP.no (no_end (hle2 rfl)))
    clear hle1 hle2 hsof hno hB1 hO1
    go_wp2
    refine bodyPost_ret (v := .tuple #[.slice none 0 0, .int .i64 5]) (by simp [results, Tryz.results5, go_sem]) rfl ⟨[], 5, _, rfl, Ow.nil _ _ _ _, hrs.out, hw1⟩
  | true =>
    have hsp := hd (hle1 rfl)
    have hll2 : ls.length ≤ 1048576 := by
      have h1 := splitC_le text 10
      rw [hle1 rfl, List.length_append, List.length_singleton] at h1
      omega
    have hne1 : Hd (0 < ls.length → ∀ p, A = some p → (Value.slice (some ⟨w.heap.size, 0, none⟩) 0 0).ownBlock ≠ some p.block) := hd (fun h0 p hp hown => by
      obtain ⟨b, off, hA, hlt, hc⟩ := hR 0 h0
      rw [hp] at hA
      cases hA
      have h1 : w.heap.size = b := by simpa [Value.ownBlock] using hown
      subst h1
      have h2 := hB1.cell off
      have h3 := hc 0 _ rfl
      rw [show off + 0 * encStr.sz + 0 = off by omega, h2] at h3
      cases h3)
    clear hle1 hle2 hB1
    go_wp2
    go_loopg [4, 25] ls.length (fun g v i wr => ∃ (k : Nat) (xs : List Fld), g = ls.length - k ∧ k ≤ ls.length ∧ i = .int .i64 k ∧ Ext w wr ∧ Rd encStr wr A ls ∧ Ow encFld 33 wr w.heap.size v xs ∧ Hd (0 < ls.length → ∀ p, A = some p → v.ownBlock ≠ some p.block) ∧ xs.length = k ∧ Hd (∀ f ∈ xs, FldIn f) ∧ Hd (saysTo ls xs))
    case atStart => exact ⟨0, [], by omega, by omega, rfl, hw1, hR, hO1, hne1, rfl, hd (fun f hf => absurd hf (by simp)), hd (saysTo_nil _)⟩
    case round =>
      obtain ⟨k, xs, hg, hk, rfl, hwr, hRr, hO, hne, hxl, hin, hsy⟩ := hrel
      clear hR hO1 hne1 hw1
      by_cases hkl : k < ls.length
      · obtain ⟨bA, oA, hA, hlA, hjunk⟩ := hRr k hkl
        subst hA
        clear hjunk
        have hneA := hd (hne.out (by omega) _ rfl)
        have m0 := hRr.str k hkl
        have hz1 := hlz _ (List.getElem_mem hkl)
        have hbad := hd (fun h => RSP.no (hno.out k hkl hsp.out h))
        have hge : ls[xs.length]'(by omega) = ls[k] := by subst hxl; rfl
        have hpush := hd (fun (f : Fld) (h : fits ls[k] f) => saysTo_push hsy.out (by omega) (by rw [hge]; exact h))
        clear hge
        have hpl := piece_le 32 1048576 ls[k] hz1
        have hbl := hd (bad_len (line := ls[k]))
        have hlb := hd (fun (n q1 q2 q3 : ByteArray) (hw : splitC 32 ls[k] = [n, q1, q2, q3]) => @line_bad ls[k] n q1 q2 q3 hw)
        have hlf := hd (fun (n q1 q2 q3 : ByteArray) (hw : splitC 32 ls[k] = [n, q1, q2, q3]) => @line_fits ls[k] n q1 q2 q3 hw)
        generalize ls[k]'hkl = line at m0 hz1 hbad hpush hpl hbl hlb hlf
        clear hne hsof hno
        go_wp2_with fail
        refine Calls.mono (strings_Split line 32 _ (by omega) (hG.ext hwr)) ?_
        rintro e w2 ⟨rfl, hRw, hb2⟩
        by_cases h4 : (splitC 32 line).length = 4
        · obtain ⟨n, q1, q2, q3, hw4⟩ := four_of h4
          have hlb := fun {n1 n2 c ok1 ok2} a b d e => hd (hlb.out n q1 q2 q3 hw4 (n1 := n1) (n2 := n2) (c := c) (ok1 := ok1) (ok2 := ok2) a b d e)
          have hlf := fun {n1 n2 c ok1 ok2} a b d e f g h i => hd (hlf.out n q1 q2 q3 hw4 (n1 := n1) (n2 := n2) (c := c) (ok1 := ok1) (ok2 := ok2) a b d e f g h i)
          have hnz : n.size ≤ 1048576 := hpl n (by rw [hw4]; simp)
          have hz2 : q2.size ≤ 1048576 := hpl q2 (by rw [hw4]; simp)
          have hz3 : q3.size ≤ 1048576 := hpl q3 (by rw [hw4]; simp)
          rw [hw4] at hRw ⊢
          clear hpl hbl h4 hw4
          have m0 : w2.cell? ⟨wr.heap.size, 0, none⟩ = some (.string n) := hRw.str 0 (by simp)
          have m1 : w2.cell? ⟨wr.heap.size, 1, none⟩ = some (.string q1) := hRw.str 1 (by simp)
          have m2 : w2.cell? ⟨wr.heap.size, 2, none⟩ = some (.string q2) := hRw.str 2 (by simp)
          have m3 : w2.cell? ⟨wr.heap.size, 3, none⟩ = some (.string q3) := hRw.str 3 (by simp)
          have l2 := World.block_lt_of_cell? _ _ m1
          dsimp only at l2
          clear hRw
          have hwr2 := hwr.trans hb2
          have hkr := hd (kindR_idx q1)
          have hix := fun W (h : Ext w2 W) => slices_Index_str kindsL _ 4 4 q1 W rfl (hK.ext (hwr2.trans h)) (by omega)
          generalize idxI kindsL q1 = c at hkr hix
          go_wp2
          refine wp_region_ext (by kernel_rfl) (by kernel_rfl) ?_
          repeat (first | go_big_quiet_step (((go_at_call 14; with_reducible exact Calls.ext_all (fun W hE => hix W hE)))) | quiet_step (((go_at_call 14; with_reducible exact Calls.ext_all (fun W hE => hix W hE)))))
          refine wpQuiet_nil ?_
          intro w11 hq11
          have hb11 := ext_of_class hq11
          clear hq11
          obtain ⟨hc11, hf11, hz11⟩ := bcell3 hb11
          try simp at hz11
          have hw11 := hwr2.trans hb11
          have m0 := hb11.cell m0
          have m2 := hb11.cell m2
          have m3 := hb11.cell m3
          clear hc11 hf11 hz11 m1 l2 hix
          go_wp2_with fail
          refine Calls.mono (impl_readNumber q2 hz2 _ (hE.ext hw11)) ?_
          rintro e w3 ⟨n1, ok1, rfl, h1a, h1b, hb3⟩
          have hr1 : Hd (NumR q2 n1 ok1) := hd ⟨h1a, h1b⟩
          have m0 := hb3.cell m0
          have m3 := hb3.cell m3
          clear h1a h1b m2
          go_wp2_with fail
          refine Calls.mono (impl_readNumber q3 hz3 _ (hE.ext (hw11.trans hb3))) ?_
          rintro e w4 ⟨n2, ok2, rfl, h2a, h2b, hb4⟩
          have hr2 : Hd (NumR q3 n2 ok2) := hd ⟨h2a, h2b⟩
          have m0 := hb4.cell m0
          have hr4 : Ext wr w4 := hb2.trans (hb11.trans (hb3.trans hb4))
          have hw4 := hwr.trans hr4
          clear h2a h2b m3 hb2 hb11 hb3 hb4 hw11 hwr2
          have hbd := fun h => (hlb hr1.out hr2.out hkr.out h).out
          have hlf := hd (fun a b c d e => (hlf hr1.out hr2.out hkr.out a b c d e).out)
          have hbd := hd hbd
          clear hlb hr1 hr2 hkr
          by_cases hc0 : c < 0
          · have i1 : (c < (0 : Int)) = True := eq_true hc0
            have hrs := hd (hbad.out (hbd.out (.inl hc0)))
            clear hbd hlf hbad hpush
            go_wp2
            refine bodyPost_ret (v := .tuple #[.slice none 0 0, .int .i64 5]) (by simp [results, Tryz.results5, go_sem]) rfl ⟨[], 5, _, rfl, Ow.nil _ _ _ _, hrs.out, hw4⟩
          have i1 : (c < (0 : Int)) = False := eq_false hc0
          cases ok1 with
          | false =>
            have hrs := hd (hbad.out (hbd.out (.inr (.inl rfl))))
            clear hbd hlf hbad hpush
            go_wp2
            refine bodyPost_ret (v := .tuple #[.slice none 0 0, .int .i64 5]) (by simp [results, Tryz.results5, go_sem]) rfl ⟨[], 5, _, rfl, Ow.nil _ _ _ _, hrs.out, hw4⟩
          | true =>
          cases ok2 with
          | false =>
            have hrs := hd (hbad.out (hbd.out (.inr (.inr (.inl rfl)))))
            clear hbd hlf hbad hpush
            go_wp2
            refine bodyPost_ret (v := .tuple #[.slice none 0 0, .int .i64 5]) (by simp [results, Tryz.results5, go_sem]) rfl ⟨[], 5, _, rfl, Ow.nil _ _ _ _, hrs.out, hw4⟩
          | true =>
          by_cases h96 : 96 < n1
          · have i2 : ((96 : Int) < n1) = True := eq_true h96
            have hrs := hd (hbad.out (hbd.out (.inr (.inr (.inr (.inl h96))))))
            clear hbd hlf hbad hpush
            go_wp2
            refine bodyPost_ret (v := .tuple #[.slice none 0 0, .int .i64 5]) (by simp [results, Tryz.results5, go_sem]) rfl ⟨[], 5, _, rfl, Ow.nil _ _ _ _, hrs.out, hw4⟩
          have i2 : ((96 : Int) < n1) = False := eq_false h96
          by_cases h97 : 96 < n2
          · have i3 : ((96 : Int) < n2) = True := eq_true h97
            have hrs := hd (hbad.out (hbd.out (.inr (.inr (.inr (.inr h97))))))
            clear hbd hlf hbad hpush
            go_wp2
            refine bodyPost_ret (v := .tuple #[.slice none 0 0, .int .i64 5]) (by simp [results, Tryz.results5, go_sem]) rfl ⟨[], 5, _, rfl, Ow.nil _ _ _ _, hrs.out, hw4⟩
          have i3 : ((96 : Int) < n2) = False := eq_false h97
          obtain ⟨hfi, hc3, hn10, hn20⟩ := hlf.out (by omega) rfl rfl (by omega) (by omega)
          have hsy2 := hd (hpush.out _ hfi)
          have k1 : IntKind.i8.wrap c = c := IntWalk.i8_in _ (by omega)
          have k2 : IntKind.i16.wrap n1 = n1 := IntWalk.i16_in _ (by omega)
          have k3 : IntKind.i16.wrap n2 = n2 := IntWalk.i16_in _ (by omega)
          have hFi : Hd (FldIn ⟨n, c, n1, n2⟩) := hd ⟨⟨⟨by show -128 ≤ c; omega, by show c < 128; omega⟩, ⟨by show -32768 ≤ n1; omega, by show n1 < 32768; omega⟩, ⟨by show -32768 ≤ n2; omega, by show n2 < 32768; omega⟩⟩, by show n.size ≤ _; omega⟩
          clear hbd hlf hbad hpush hfi
          have hR4 := hRr.ext hr4
          have hO4 := hO.ext hr4
          have hlr := hr4.size
          clear hO hRr
          go_wp2_with (at_builtin; refine wpList_push2 (w0 := w) (base := w.heap.size) (xs := xs) encFld (by rfl) _ _ 22 (.agg #[.string ⟨#[]⟩, .int .i8 0, .int .i16 0, .int .i16 0]) 24 (by rfl) Tryz.underlying22 info_FldI (by rfl) (⟨n, c, n1, n2⟩ : Fld) (by rfl) (by rfl) (by simp) hO4 hw4.size (Nat.le_refl _) hw4 (by omega) (by omega) ?_)
          intro v9 w9 hO9 hb9 hg9 hown
          have hR9 := hR4.grown hg9 (fun p hp => by cases hp; exact hneA.out)
          have hne9 : Hd (0 < ls.length → ∀ p, some (⟨bA, oA, none⟩ : Addr) = some p → v9.ownBlock ≠ some p.block) := hd (fun _ p hp => by
            cases hp
            rcases hown with h | ⟨b, h1, h2⟩
            · rw [h]; exact hneA.out
            · rw [h1]
              intro h3
              have h4 : b = bA := Option.some.inj h3
              omega)
          have hin9 : Hd (∀ f ∈ xs ++ [(⟨n, c, n1, n2⟩ : Fld)], FldIn f) := hd (fun f hf => by
            rcases List.mem_append.1 hf with hf | hf
            · exact hin.out f hf
            · rw [List.mem_singleton.1 hf]; exact hFi.out)
          clear hR4 hO4 hg9 hown m0 hneA
          go_wp2
          go_roundg (ls.length - (k + 1))
          case rel => exact ⟨k + 1, xs ++ [⟨n, c, n1, n2⟩], rfl, by omega, by simp, hb9, hR9, hO9, hne9, by rw [List.length_append, List.length_singleton, hxl], hin9, hsy2⟩
          case measure => omega
        · have hrs := hd (hbad.out (hbl.out h4))
          have h4' : ¬ (((splitC 32 line).length : Int) = 4) := fun h => h4 (by omega)
          have hw4 := hwr.trans hb2
          clear hlb hlf hbl hpl hbad hpush hRw
          generalize splitC 32 line = ws at h4 h4'
          go_wp2
          refine bodyPost_ret (v := .tuple #[.slice none 0 0, .int .i64 5]) (by simp [results, Tryz.results5, go_sem]) rfl ⟨[], 5, _, rfl, Ow.nil _ _ _ _, hrs.out, hw4⟩
      · obtain rfl : k = ls.length := by omega
        have hsf := hd (hsof.out hsp.out xs hsy.out hxl)
        obtain ⟨B, capB, rfl, hcapB, hRB⟩ := hO.slice
        have hlong : xs.length ≤ 1048576 := by omega
        clear hno hne hsy hsp hsof hRr hg hk hkl
        · have hck := fun W (h : Ext wr W) => impl_isScheme xs B capB W (hRB.ext h) hcapB hlong hin.out
          clear hin hRB
          cases hc : schB xs with
          | false =>
            have hrs := hd (RSP.no (no_sch hsf.out hc))
            rw [hc] at hck
            clear hsf hxl
            go_wp2_with fail
            refine Calls.mono (hck _ (Ext.refl _)) ?_
            rintro e w4 ⟨rfl, hb4⟩
            have hw4 := hwr.trans hb4
            clear hck
            go_wp2
            refine bodyPost_ret (v := .tuple #[.slice none 0 0, .int .i64 5]) (by simp [results, Tryz.results5, go_sem]) rfl ⟨[], 5, _, rfl, Ow.nil _ _ _ _, hrs.out, hw4⟩
          | true =>
            have hrs := hd (RSP.ok hsf.out hc)
            rw [hc] at hck
            clear hsf hxl
            go_wp2_with fail
            refine Calls.mono (hck _ (Ext.refl _)) ?_
            rintro e w4 ⟨rfl, hb4⟩
            have hw4 := hwr.trans hb4
            have hO4 := hO.ext hb4
            clear hck
            go_wp2
            refine bodyPost_ret (v := .tuple #[.slice B xs.length capB, .int .i64 0]) (by simp [results, Tryz.results5, go_sem]) rfl ⟨xs, 0, _, rfl, hO4, hrs.out, hw4⟩
end Go.Proofs.YtdiblmlcapommaaGreatDoor
