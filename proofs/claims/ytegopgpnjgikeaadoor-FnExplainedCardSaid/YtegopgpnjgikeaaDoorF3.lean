/-
  Contracts of the reference's function that asks whether a field is valid.
-/
import Derived.Test.YtegopgpnjgikeaaDoorF2
set_option linter.unusedVariables false
set_option linter.unusedSimpArgs false
set_option maxRecDepth 100000
namespace Go.Proofs.YtegopgpnjgikeaaDoor
open Go.RowKit
set_option maxHeartbeats 1000000 in
theorem spec_l01Field (nm : ByteArray) (kd st sz : Int) (b o : Nat) (hk0 : -128 ≤ kd) (hk1 : kd < 128) (ht0 : -32768 ≤ st) (ht1 : st < 32768) (hs0 : -32768 ≤ sz) (hs1 : sz < 32768) (hnmx : nm.size ≤ 9223372036854775807) (w : World) (hA : FldAt w b o ⟨nm, kd, st, sz⟩) (hlt : b < w.heap.size) :
    Calls Tryd.prog 65 #[.pointer (some ⟨b, o, none⟩)] w fun e w' => e = .returned (.bool (fldB ⟨nm, kd, st, sz⟩)) ∧ Ext w w' := by
  have hx := @ExtOf.cell
  cases hN : isNameB nm with
  | false =>
    have hv := hd (fldB_false (f := ⟨nm, kd, st, sz⟩) (fun h => by have := h.1; dsimp only at this; rw [hN] at this; cases this))
    have hnm2 := fun W => spec_l01Name nm W hnmx
    rw [hN] at hnm2
    obtain ⟨c0, c1, c2, c3⟩ := hA
    dsimp only at c0 c1 c2 c3
    rcases (show kd = 0 ∨ kd = 1 ∨ kd = 2 ∨ kd = 3 ∨ (¬ kd = 0 ∧ ¬ kd = 1 ∧ ¬ kd = 2 ∧ ¬ kd = 3) by omega) with rfl | rfl | rfl | rfl | ⟨k0, k1, k2, k3⟩
    all_goals
      go_enter Tryd.func65, Tryd.ntmps65
      go_wp2
      refine wp_region_ext (by kernel_rfl) (by kernel_rfl) ?_
      repeat (first | go_big_quiet_step ((go_at_call 105; with_reducible exact Calls.ext_all (fun W _ => hnm2 W))) | quiet_step ((go_at_call 105; with_reducible exact Calls.ext_all (fun W _ => hnm2 W))))
      refine wpQuiet_nil ?_
      intro w4 hq4
      have hb4 := ext_of_class hq4
      clear hq4
      obtain ⟨hc4, hf4, hz4⟩ := bcell3 hb4
      try simp at hz4
      go_wp2
      go_ret
      exact ⟨by rw [hv.out]; rfl, by ((repeat (first | with_reducible exact Ext.refl _ | with_reducible exact hw | with_reducible exact hb9 | with_reducible exact hb8 | with_reducible exact hb7 | with_reducible exact hb6 | with_reducible exact hb5 | with_reducible exact hb4 | with_reducible exact hb3 | with_reducible exact hb2 | with_reducible exact hb1 | with_reducible refine Ext.alloc ?_ _ | with_reducible refine Ext.drew ?_ | ((with_reducible refine Ext.set ?_ ?_ _); focus (dsimp only; omega)) | with_reducible refine Ext.trans ?_ hb9 | with_reducible refine Ext.trans ?_ hb8 | with_reducible refine Ext.trans ?_ hb7 | with_reducible refine Ext.trans ?_ hb6 | with_reducible refine Ext.trans ?_ hb5 | with_reducible refine Ext.trans ?_ hb4 | with_reducible refine Ext.trans ?_ hb3 | with_reducible refine Ext.trans ?_ hb2 | with_reducible refine Ext.trans ?_ hb1 | with_reducible refine Ext.trans ?_ hw)))⟩
  | true =>
    rcases (show kd = 0 ∨ kd = 1 ∨ kd = 2 ∨ kd = 3 ∨ (¬ kd = 0 ∧ ¬ kd = 1 ∧ ¬ kd = 2 ∧ ¬ kd = 3) by omega) with rfl | rfl | rfl | rfl | ⟨k0, k1, k2, k3⟩
    · have hk9 : (0 : Int) ≤ 0 := by decide
      have wr1 : IntKind.i64.wrap st = st := IntWalk.i64_in _ (by omega)
      have wr3 : IntKind.i64.wrap sz = sz := IntWalk.i64_in _ (by omega)
      have hnm2 := fun W => spec_l01Name nm W hnmx
      rw [hN] at hnm2
      have hF := hA
      obtain ⟨c0, c1, c2, c3⟩ := hA
      dsimp only at c0 c1 c2 c3
      by_cases z1 : 1 ≤ sz ∧ sz ≤ 24
      · have z2 := z1.1
        have z3 := z1.2
        have hmv := manyF_bd 0 sz (by omega) (by omega)
        have hwid := fun W (hW : FldAt W b o ⟨nm, 0, st, sz⟩) => spec_l01Width b o ⟨nm, 0, st, sz⟩ (by first | omega | (dsimp only; omega)) (by first | omega | (dsimp only; omega)) W hW
        dsimp only at hwid
        generalize hmm : manyF 0 sz = mv at hmv hwid
        have hmm2 := hd hmm
        clear hmm
        have wr2 : IntKind.i64.wrap (96 - mv) = 96 - mv := IntWalk.i64_in _ (by omega)
        have hi1 := fun W => spec_l00In sz 1 24 W
        rw [show inB sz 1 24 = true by simp [inB, z1.1, z1.2]] at hi1
        have hi2 := fun W => spec_l00In st 0 (96 - mv) W
        have hv := hd (show fldB ⟨nm, 0, st, sz⟩ = inB st 0 (96 - mv) by
          unfold fldB inB
          rw [hN, Bool.true_and, ← Bool.decide_and, decide_eq_decide]
          dsimp only
          rw [hmm2.out, show mostSz 0 = 24 from rfl]
          omega)
        generalize inB st 0 (96 - mv) = q at hi2 hv
        go_enter Tryd.func65, Tryd.ntmps65
        go_wp2
        refine wp_region_ext (by kernel_rfl) (by kernel_rfl) ?_
        repeat (first | go_big_quiet_step ((first | (go_at_call 105; with_reducible exact Calls.ext_all (fun W _ => hnm2 W)) | (go_at_call 56; with_reducible exact Calls.ext_all (fun W _ => hi1 W)) | (go_at_call 56; with_reducible exact Calls.ext_all (fun W _ => hi2 W)) | (go_at_call 62; with_reducible exact Calls.ext_all (fun W hW => hwid W (hF.ext hW))))) | quiet_step ((first | (go_at_call 105; with_reducible exact Calls.ext_all (fun W _ => hnm2 W)) | (go_at_call 56; with_reducible exact Calls.ext_all (fun W _ => hi1 W)) | (go_at_call 56; with_reducible exact Calls.ext_all (fun W _ => hi2 W)) | (go_at_call 62; with_reducible exact Calls.ext_all (fun W hW => hwid W (hF.ext hW))))))
        refine wpQuiet_nil ?_
        intro w4 hq4
        have hb4 := ext_of_class hq4
        clear hq4
        obtain ⟨hc4, hf4, hz4⟩ := bcell3 hb4
        try simp at hz4
        go_wp2
        go_ret
        exact ⟨by rw [hv.out]; rfl, by ((repeat (first | with_reducible exact Ext.refl _ | with_reducible exact hw | with_reducible exact hb9 | with_reducible exact hb8 | with_reducible exact hb7 | with_reducible exact hb6 | with_reducible exact hb5 | with_reducible exact hb4 | with_reducible exact hb3 | with_reducible exact hb2 | with_reducible exact hb1 | with_reducible refine Ext.alloc ?_ _ | with_reducible refine Ext.drew ?_ | ((with_reducible refine Ext.set ?_ ?_ _); focus (dsimp only; omega)) | with_reducible refine Ext.trans ?_ hb9 | with_reducible refine Ext.trans ?_ hb8 | with_reducible refine Ext.trans ?_ hb7 | with_reducible refine Ext.trans ?_ hb6 | with_reducible refine Ext.trans ?_ hb5 | with_reducible refine Ext.trans ?_ hb4 | with_reducible refine Ext.trans ?_ hb3 | with_reducible refine Ext.trans ?_ hb2 | with_reducible refine Ext.trans ?_ hb1 | with_reducible refine Ext.trans ?_ hw)))⟩
      · have hi1 := fun W => spec_l00In sz 1 24 W
        rw [show inB sz 1 24 = false by simp only [inB, Bool.and_eq_false_iff, decide_eq_false_iff_not]; omega] at hi1
        have hv := hd (fldB_false (f := ⟨nm, 0, st, sz⟩) (fun h => z1 ⟨h.2.2.2.2.1, h.2.2.2.2.2.1⟩))
        go_enter Tryd.func65, Tryd.ntmps65
        go_wp2
        refine wp_region_ext (by kernel_rfl) (by kernel_rfl) ?_
        repeat (first | go_big_quiet_step ((first | (go_at_call 105; with_reducible exact Calls.ext_all (fun W _ => hnm2 W)) | (go_at_call 56; with_reducible exact Calls.ext_all (fun W _ => hi1 W)))) | quiet_step ((first | (go_at_call 105; with_reducible exact Calls.ext_all (fun W _ => hnm2 W)) | (go_at_call 56; with_reducible exact Calls.ext_all (fun W _ => hi1 W)))))
        refine wpQuiet_nil ?_
        intro w4 hq4
        have hb4 := ext_of_class hq4
        clear hq4
        obtain ⟨hc4, hf4, hz4⟩ := bcell3 hb4
        try simp at hz4
        go_wp2
        go_ret
        exact ⟨by rw [hv.out]; rfl, by ((repeat (first | with_reducible exact Ext.refl _ | with_reducible exact hw | with_reducible exact hb9 | with_reducible exact hb8 | with_reducible exact hb7 | with_reducible exact hb6 | with_reducible exact hb5 | with_reducible exact hb4 | with_reducible exact hb3 | with_reducible exact hb2 | with_reducible exact hb1 | with_reducible refine Ext.alloc ?_ _ | with_reducible refine Ext.drew ?_ | ((with_reducible refine Ext.set ?_ ?_ _); focus (dsimp only; omega)) | with_reducible refine Ext.trans ?_ hb9 | with_reducible refine Ext.trans ?_ hb8 | with_reducible refine Ext.trans ?_ hb7 | with_reducible refine Ext.trans ?_ hb6 | with_reducible refine Ext.trans ?_ hb5 | with_reducible refine Ext.trans ?_ hb4 | with_reducible refine Ext.trans ?_ hb3 | with_reducible refine Ext.trans ?_ hb2 | with_reducible refine Ext.trans ?_ hb1 | with_reducible refine Ext.trans ?_ hw)))⟩
    · have hk9 : (0 : Int) ≤ 1 := by decide
      have wr1 : IntKind.i64.wrap st = st := IntWalk.i64_in _ (by omega)
      have wr3 : IntKind.i64.wrap sz = sz := IntWalk.i64_in _ (by omega)
      have hnm2 := fun W => spec_l01Name nm W hnmx
      rw [hN] at hnm2
      have hF := hA
      obtain ⟨c0, c1, c2, c3⟩ := hA
      dsimp only at c0 c1 c2 c3
      by_cases z1 : 1 ≤ sz ∧ sz ≤ 4
      · have z2 := z1.1
        have z3 := z1.2
        have hmv := manyF_bd 1 sz (by omega) (by omega)
        have hwid := fun W (hW : FldAt W b o ⟨nm, 1, st, sz⟩) => spec_l01Width b o ⟨nm, 1, st, sz⟩ (by first | omega | (dsimp only; omega)) (by first | omega | (dsimp only; omega)) W hW
        dsimp only at hwid
        generalize hmm : manyF 1 sz = mv at hmv hwid
        have hmm2 := hd hmm
        clear hmm
        have wr2 : IntKind.i64.wrap (96 - mv) = 96 - mv := IntWalk.i64_in _ (by omega)
        have hi1 := fun W => spec_l00In sz 1 4 W
        rw [show inB sz 1 4 = true by simp [inB, z1.1, z1.2]] at hi1
        have hi2 := fun W => spec_l00In st 0 (96 - mv) W
        have hv := hd (show fldB ⟨nm, 1, st, sz⟩ = inB st 0 (96 - mv) by
          unfold fldB inB
          rw [hN, Bool.true_and, ← Bool.decide_and, decide_eq_decide]
          dsimp only
          rw [hmm2.out, show mostSz 1 = 4 from rfl]
          omega)
        generalize inB st 0 (96 - mv) = q at hi2 hv
        go_enter Tryd.func65, Tryd.ntmps65
        go_wp2
        refine wp_region_ext (by kernel_rfl) (by kernel_rfl) ?_
        repeat (first | go_big_quiet_step ((first | (go_at_call 105; with_reducible exact Calls.ext_all (fun W _ => hnm2 W)) | (go_at_call 56; with_reducible exact Calls.ext_all (fun W _ => hi1 W)) | (go_at_call 56; with_reducible exact Calls.ext_all (fun W _ => hi2 W)) | (go_at_call 62; with_reducible exact Calls.ext_all (fun W hW => hwid W (hF.ext hW))))) | quiet_step ((first | (go_at_call 105; with_reducible exact Calls.ext_all (fun W _ => hnm2 W)) | (go_at_call 56; with_reducible exact Calls.ext_all (fun W _ => hi1 W)) | (go_at_call 56; with_reducible exact Calls.ext_all (fun W _ => hi2 W)) | (go_at_call 62; with_reducible exact Calls.ext_all (fun W hW => hwid W (hF.ext hW))))))
        refine wpQuiet_nil ?_
        intro w4 hq4
        have hb4 := ext_of_class hq4
        clear hq4
        obtain ⟨hc4, hf4, hz4⟩ := bcell3 hb4
        try simp at hz4
        go_wp2
        go_ret
        exact ⟨by rw [hv.out]; rfl, by ((repeat (first | with_reducible exact Ext.refl _ | with_reducible exact hw | with_reducible exact hb9 | with_reducible exact hb8 | with_reducible exact hb7 | with_reducible exact hb6 | with_reducible exact hb5 | with_reducible exact hb4 | with_reducible exact hb3 | with_reducible exact hb2 | with_reducible exact hb1 | with_reducible refine Ext.alloc ?_ _ | with_reducible refine Ext.drew ?_ | ((with_reducible refine Ext.set ?_ ?_ _); focus (dsimp only; omega)) | with_reducible refine Ext.trans ?_ hb9 | with_reducible refine Ext.trans ?_ hb8 | with_reducible refine Ext.trans ?_ hb7 | with_reducible refine Ext.trans ?_ hb6 | with_reducible refine Ext.trans ?_ hb5 | with_reducible refine Ext.trans ?_ hb4 | with_reducible refine Ext.trans ?_ hb3 | with_reducible refine Ext.trans ?_ hb2 | with_reducible refine Ext.trans ?_ hb1 | with_reducible refine Ext.trans ?_ hw)))⟩
      · have hi1 := fun W => spec_l00In sz 1 4 W
        rw [show inB sz 1 4 = false by simp only [inB, Bool.and_eq_false_iff, decide_eq_false_iff_not]; omega] at hi1
        have hv := hd (fldB_false (f := ⟨nm, 1, st, sz⟩) (fun h => z1 ⟨h.2.2.2.2.1, h.2.2.2.2.2.1⟩))
        go_enter Tryd.func65, Tryd.ntmps65
        go_wp2
        refine wp_region_ext (by kernel_rfl) (by kernel_rfl) ?_
        repeat (first | go_big_quiet_step ((first | (go_at_call 105; with_reducible exact Calls.ext_all (fun W _ => hnm2 W)) | (go_at_call 56; with_reducible exact Calls.ext_all (fun W _ => hi1 W)))) | quiet_step ((first | (go_at_call 105; with_reducible exact Calls.ext_all (fun W _ => hnm2 W)) | (go_at_call 56; with_reducible exact Calls.ext_all (fun W _ => hi1 W)))))
        refine wpQuiet_nil ?_
        intro w4 hq4
        have hb4 := ext_of_class hq4
        clear hq4
        obtain ⟨hc4, hf4, hz4⟩ := bcell3 hb4
        try simp at hz4
        go_wp2
        go_ret
        exact ⟨by rw [hv.out]; rfl, by ((repeat (first | with_reducible exact Ext.refl _ | with_reducible exact hw | with_reducible exact hb9 | with_reducible exact hb8 | with_reducible exact hb7 | with_reducible exact hb6 | with_reducible exact hb5 | with_reducible exact hb4 | with_reducible exact hb3 | with_reducible exact hb2 | with_reducible exact hb1 | with_reducible refine Ext.alloc ?_ _ | with_reducible refine Ext.drew ?_ | ((with_reducible refine Ext.set ?_ ?_ _); focus (dsimp only; omega)) | with_reducible refine Ext.trans ?_ hb9 | with_reducible refine Ext.trans ?_ hb8 | with_reducible refine Ext.trans ?_ hb7 | with_reducible refine Ext.trans ?_ hb6 | with_reducible refine Ext.trans ?_ hb5 | with_reducible refine Ext.trans ?_ hb4 | with_reducible refine Ext.trans ?_ hb3 | with_reducible refine Ext.trans ?_ hb2 | with_reducible refine Ext.trans ?_ hb1 | with_reducible refine Ext.trans ?_ hw)))⟩
    · have hk9 : (0 : Int) ≤ 2 := by decide
      have wr1 : IntKind.i64.wrap st = st := IntWalk.i64_in _ (by omega)
      have wr3 : IntKind.i64.wrap sz = sz := IntWalk.i64_in _ (by omega)
      have hnm2 := fun W => spec_l01Name nm W hnmx
      rw [hN] at hnm2
      have hF := hA
      obtain ⟨c0, c1, c2, c3⟩ := hA
      dsimp only at c0 c1 c2 c3
      by_cases z1 : 1 ≤ sz ∧ sz ≤ 4
      · have z2 := z1.1
        have z3 := z1.2
        have hmv := manyF_bd 2 sz (by omega) (by omega)
        have hwid := fun W (hW : FldAt W b o ⟨nm, 2, st, sz⟩) => spec_l01Width b o ⟨nm, 2, st, sz⟩ (by first | omega | (dsimp only; omega)) (by first | omega | (dsimp only; omega)) W hW
        dsimp only at hwid
        generalize hmm : manyF 2 sz = mv at hmv hwid
        have hmm2 := hd hmm
        clear hmm
        have wr2 : IntKind.i64.wrap (96 - mv) = 96 - mv := IntWalk.i64_in _ (by omega)
        have hi1 := fun W => spec_l00In sz 1 4 W
        rw [show inB sz 1 4 = true by simp [inB, z1.1, z1.2]] at hi1
        have hi2 := fun W => spec_l00In st 0 (96 - mv) W
        have hv := hd (show fldB ⟨nm, 2, st, sz⟩ = inB st 0 (96 - mv) by
          unfold fldB inB
          rw [hN, Bool.true_and, ← Bool.decide_and, decide_eq_decide]
          dsimp only
          rw [hmm2.out, show mostSz 2 = 4 from rfl]
          omega)
        generalize inB st 0 (96 - mv) = q at hi2 hv
        go_enter Tryd.func65, Tryd.ntmps65
        go_wp2
        refine wp_region_ext (by kernel_rfl) (by kernel_rfl) ?_
        repeat (first | go_big_quiet_step ((first | (go_at_call 105; with_reducible exact Calls.ext_all (fun W _ => hnm2 W)) | (go_at_call 56; with_reducible exact Calls.ext_all (fun W _ => hi1 W)) | (go_at_call 56; with_reducible exact Calls.ext_all (fun W _ => hi2 W)) | (go_at_call 62; with_reducible exact Calls.ext_all (fun W hW => hwid W (hF.ext hW))))) | quiet_step ((first | (go_at_call 105; with_reducible exact Calls.ext_all (fun W _ => hnm2 W)) | (go_at_call 56; with_reducible exact Calls.ext_all (fun W _ => hi1 W)) | (go_at_call 56; with_reducible exact Calls.ext_all (fun W _ => hi2 W)) | (go_at_call 62; with_reducible exact Calls.ext_all (fun W hW => hwid W (hF.ext hW))))))
        refine wpQuiet_nil ?_
        intro w4 hq4
        have hb4 := ext_of_class hq4
        clear hq4
        obtain ⟨hc4, hf4, hz4⟩ := bcell3 hb4
        try simp at hz4
        go_wp2
        go_ret
        exact ⟨by rw [hv.out]; rfl, by ((repeat (first | with_reducible exact Ext.refl _ | with_reducible exact hw | with_reducible exact hb9 | with_reducible exact hb8 | with_reducible exact hb7 | with_reducible exact hb6 | with_reducible exact hb5 | with_reducible exact hb4 | with_reducible exact hb3 | with_reducible exact hb2 | with_reducible exact hb1 | with_reducible refine Ext.alloc ?_ _ | with_reducible refine Ext.drew ?_ | ((with_reducible refine Ext.set ?_ ?_ _); focus (dsimp only; omega)) | with_reducible refine Ext.trans ?_ hb9 | with_reducible refine Ext.trans ?_ hb8 | with_reducible refine Ext.trans ?_ hb7 | with_reducible refine Ext.trans ?_ hb6 | with_reducible refine Ext.trans ?_ hb5 | with_reducible refine Ext.trans ?_ hb4 | with_reducible refine Ext.trans ?_ hb3 | with_reducible refine Ext.trans ?_ hb2 | with_reducible refine Ext.trans ?_ hb1 | with_reducible refine Ext.trans ?_ hw)))⟩
      · have hi1 := fun W => spec_l00In sz 1 4 W
        rw [show inB sz 1 4 = false by simp only [inB, Bool.and_eq_false_iff, decide_eq_false_iff_not]; omega] at hi1
        have hv := hd (fldB_false (f := ⟨nm, 2, st, sz⟩) (fun h => z1 ⟨h.2.2.2.2.1, h.2.2.2.2.2.1⟩))
        go_enter Tryd.func65, Tryd.ntmps65
        go_wp2
        refine wp_region_ext (by kernel_rfl) (by kernel_rfl) ?_
        repeat (first | go_big_quiet_step ((first | (go_at_call 105; with_reducible exact Calls.ext_all (fun W _ => hnm2 W)) | (go_at_call 56; with_reducible exact Calls.ext_all (fun W _ => hi1 W)))) | quiet_step ((first | (go_at_call 105; with_reducible exact Calls.ext_all (fun W _ => hnm2 W)) | (go_at_call 56; with_reducible exact Calls.ext_all (fun W _ => hi1 W)))))
        refine wpQuiet_nil ?_
        intro w4 hq4
        have hb4 := ext_of_class hq4
        clear hq4
        obtain ⟨hc4, hf4, hz4⟩ := bcell3 hb4
        try simp at hz4
        go_wp2
        go_ret
        exact ⟨by rw [hv.out]; rfl, by ((repeat (first | with_reducible exact Ext.refl _ | with_reducible exact hw | with_reducible exact hb9 | with_reducible exact hb8 | with_reducible exact hb7 | with_reducible exact hb6 | with_reducible exact hb5 | with_reducible exact hb4 | with_reducible exact hb3 | with_reducible exact hb2 | with_reducible exact hb1 | with_reducible refine Ext.alloc ?_ _ | with_reducible refine Ext.drew ?_ | ((with_reducible refine Ext.set ?_ ?_ _); focus (dsimp only; omega)) | with_reducible refine Ext.trans ?_ hb9 | with_reducible refine Ext.trans ?_ hb8 | with_reducible refine Ext.trans ?_ hb7 | with_reducible refine Ext.trans ?_ hb6 | with_reducible refine Ext.trans ?_ hb5 | with_reducible refine Ext.trans ?_ hb4 | with_reducible refine Ext.trans ?_ hb3 | with_reducible refine Ext.trans ?_ hb2 | with_reducible refine Ext.trans ?_ hb1 | with_reducible refine Ext.trans ?_ hw)))⟩
    · have hk9 : (0 : Int) ≤ 3 := by decide
      have wr1 : IntKind.i64.wrap st = st := IntWalk.i64_in _ (by omega)
      have wr3 : IntKind.i64.wrap sz = sz := IntWalk.i64_in _ (by omega)
      have hnm2 := fun W => spec_l01Name nm W hnmx
      rw [hN] at hnm2
      have hF := hA
      obtain ⟨c0, c1, c2, c3⟩ := hA
      dsimp only at c0 c1 c2 c3
      by_cases z1 : 1 ≤ sz ∧ sz ≤ 12
      · have z2 := z1.1
        have z3 := z1.2
        have hmv := manyF_bd 3 sz (by omega) (by omega)
        have hwid := fun W (hW : FldAt W b o ⟨nm, 3, st, sz⟩) => spec_l01Width b o ⟨nm, 3, st, sz⟩ (by first | omega | (dsimp only; omega)) (by first | omega | (dsimp only; omega)) W hW
        dsimp only at hwid
        generalize hmm : manyF 3 sz = mv at hmv hwid
        have hmm2 := hd hmm
        clear hmm
        have wr2 : IntKind.i64.wrap (96 - mv) = 96 - mv := IntWalk.i64_in _ (by omega)
        have hi1 := fun W => spec_l00In sz 1 12 W
        rw [show inB sz 1 12 = true by simp [inB, z1.1, z1.2]] at hi1
        have hi2 := fun W => spec_l00In st 0 (96 - mv) W
        have hv := hd (show fldB ⟨nm, 3, st, sz⟩ = inB st 0 (96 - mv) by
          unfold fldB inB
          rw [hN, Bool.true_and, ← Bool.decide_and, decide_eq_decide]
          dsimp only
          rw [hmm2.out, show mostSz 3 = 12 from rfl]
          omega)
        generalize inB st 0 (96 - mv) = q at hi2 hv
        go_enter Tryd.func65, Tryd.ntmps65
        go_wp2
        refine wp_region_ext (by kernel_rfl) (by kernel_rfl) ?_
        repeat (first | go_big_quiet_step ((first | (go_at_call 105; with_reducible exact Calls.ext_all (fun W _ => hnm2 W)) | (go_at_call 56; with_reducible exact Calls.ext_all (fun W _ => hi1 W)) | (go_at_call 56; with_reducible exact Calls.ext_all (fun W _ => hi2 W)) | (go_at_call 62; with_reducible exact Calls.ext_all (fun W hW => hwid W (hF.ext hW))))) | quiet_step ((first | (go_at_call 105; with_reducible exact Calls.ext_all (fun W _ => hnm2 W)) | (go_at_call 56; with_reducible exact Calls.ext_all (fun W _ => hi1 W)) | (go_at_call 56; with_reducible exact Calls.ext_all (fun W _ => hi2 W)) | (go_at_call 62; with_reducible exact Calls.ext_all (fun W hW => hwid W (hF.ext hW))))))
        refine wpQuiet_nil ?_
        intro w4 hq4
        have hb4 := ext_of_class hq4
        clear hq4
        obtain ⟨hc4, hf4, hz4⟩ := bcell3 hb4
        try simp at hz4
        go_wp2
        go_ret
        exact ⟨by rw [hv.out]; rfl, by ((repeat (first | with_reducible exact Ext.refl _ | with_reducible exact hw | with_reducible exact hb9 | with_reducible exact hb8 | with_reducible exact hb7 | with_reducible exact hb6 | with_reducible exact hb5 | with_reducible exact hb4 | with_reducible exact hb3 | with_reducible exact hb2 | with_reducible exact hb1 | with_reducible refine Ext.alloc ?_ _ | with_reducible refine Ext.drew ?_ | ((with_reducible refine Ext.set ?_ ?_ _); focus (dsimp only; omega)) | with_reducible refine Ext.trans ?_ hb9 | with_reducible refine Ext.trans ?_ hb8 | with_reducible refine Ext.trans ?_ hb7 | with_reducible refine Ext.trans ?_ hb6 | with_reducible refine Ext.trans ?_ hb5 | with_reducible refine Ext.trans ?_ hb4 | with_reducible refine Ext.trans ?_ hb3 | with_reducible refine Ext.trans ?_ hb2 | with_reducible refine Ext.trans ?_ hb1 | with_reducible refine Ext.trans ?_ hw)))⟩
      · have hi1 := fun W => spec_l00In sz 1 12 W
        rw [show inB sz 1 12 = false by simp only [inB, Bool.and_eq_false_iff, decide_eq_false_iff_not]; omega] at hi1
        have hv := hd (fldB_false (f := ⟨nm, 3, st, sz⟩) (fun h => z1 ⟨h.2.2.2.2.1, h.2.2.2.2.2.1⟩))
        go_enter Tryd.func65, Tryd.ntmps65
        go_wp2
        refine wp_region_ext (by kernel_rfl) (by kernel_rfl) ?_
        repeat (first | go_big_quiet_step ((first | (go_at_call 105; with_reducible exact Calls.ext_all (fun W _ => hnm2 W)) | (go_at_call 56; with_reducible exact Calls.ext_all (fun W _ => hi1 W)))) | quiet_step ((first | (go_at_call 105; with_reducible exact Calls.ext_all (fun W _ => hnm2 W)) | (go_at_call 56; with_reducible exact Calls.ext_all (fun W _ => hi1 W)))))
        refine wpQuiet_nil ?_
        intro w4 hq4
        have hb4 := ext_of_class hq4
        clear hq4
        obtain ⟨hc4, hf4, hz4⟩ := bcell3 hb4
        try simp at hz4
        go_wp2
        go_ret
        exact ⟨by rw [hv.out]; rfl, by ((repeat (first | with_reducible exact Ext.refl _ | with_reducible exact hw | with_reducible exact hb9 | with_reducible exact hb8 | with_reducible exact hb7 | with_reducible exact hb6 | with_reducible exact hb5 | with_reducible exact hb4 | with_reducible exact hb3 | with_reducible exact hb2 | with_reducible exact hb1 | with_reducible refine Ext.alloc ?_ _ | with_reducible refine Ext.drew ?_ | ((with_reducible refine Ext.set ?_ ?_ _); focus (dsimp only; omega)) | with_reducible refine Ext.trans ?_ hb9 | with_reducible refine Ext.trans ?_ hb8 | with_reducible refine Ext.trans ?_ hb7 | with_reducible refine Ext.trans ?_ hb6 | with_reducible refine Ext.trans ?_ hb5 | with_reducible refine Ext.trans ?_ hb4 | with_reducible refine Ext.trans ?_ hb3 | with_reducible refine Ext.trans ?_ hb2 | with_reducible refine Ext.trans ?_ hb1 | with_reducible refine Ext.trans ?_ hw)))⟩
    · have hv := hd (fldB_false (f := ⟨nm, kd, st, sz⟩) (fun h => by have h1 := h.2.1; have h2 := h.2.2.1; dsimp only at h1 h2; omega))
      have hnm2 := fun W => spec_l01Name nm W hnmx
      rw [hN] at hnm2
      have hi1 := fun W => spec_l00In sz 1 0 W
      rw [show inB sz 1 0 = false by simp only [inB, Bool.and_eq_false_iff, decide_eq_false_iff_not]; omega] at hi1
      have wr3 : IntKind.i64.wrap sz = sz := IntWalk.i64_in _ (by omega)
      obtain ⟨c0, c1, c2, c3⟩ := hA
      dsimp only at c0 c1 c2 c3
      go_enter Tryd.func65, Tryd.ntmps65
      go_wp2
      refine wp_region_ext (by kernel_rfl) (by kernel_rfl) ?_
      repeat (first | go_big_quiet_step ((first | (go_at_call 105; with_reducible exact Calls.ext_all (fun W _ => hnm2 W)) | (go_at_call 56; with_reducible exact Calls.ext_all (fun W _ => hi1 W)))) | quiet_step ((first | (go_at_call 105; with_reducible exact Calls.ext_all (fun W _ => hnm2 W)) | (go_at_call 56; with_reducible exact Calls.ext_all (fun W _ => hi1 W)))))
      refine wpQuiet_nil ?_
      intro w4 hq4
      have hb4 := ext_of_class hq4
      clear hq4
      obtain ⟨hc4, hf4, hz4⟩ := bcell3 hb4
      try simp at hz4
      go_wp2
      go_ret
      exact ⟨by rw [hv.out]; rfl, by ((repeat (first | with_reducible exact Ext.refl _ | with_reducible exact hw | with_reducible exact hb9 | with_reducible exact hb8 | with_reducible exact hb7 | with_reducible exact hb6 | with_reducible exact hb5 | with_reducible exact hb4 | with_reducible exact hb3 | with_reducible exact hb2 | with_reducible exact hb1 | with_reducible refine Ext.alloc ?_ _ | with_reducible refine Ext.drew ?_ | ((with_reducible refine Ext.set ?_ ?_ _); focus (dsimp only; omega)) | with_reducible refine Ext.trans ?_ hb9 | with_reducible refine Ext.trans ?_ hb8 | with_reducible refine Ext.trans ?_ hb7 | with_reducible refine Ext.trans ?_ hb6 | with_reducible refine Ext.trans ?_ hb5 | with_reducible refine Ext.trans ?_ hb4 | with_reducible refine Ext.trans ?_ hb3 | with_reducible refine Ext.trans ?_ hb2 | with_reducible refine Ext.trans ?_ hb1 | with_reducible refine Ext.trans ?_ hw)))⟩
