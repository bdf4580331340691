/-
  Contracts of the functions that ask whether a field is valid.
-/
import Derived.Test.YtegopgpnjgikeaaDoorF1
set_option linter.unusedVariables false
set_option linter.unusedSimpArgs false
set_option maxRecDepth 100000
namespace Go.Proofs.YtegopgpnjgikeaaDoor
open Go.RowKit
theorem Calls.ext_all {P : Program} {f : FuncId} {args : Array Value} {w : World} {x : ExtOf w} {v : Value}
    (h : ∀ W, Ext w W → Calls P f args W fun e w' => e = .returned v ∧ Ext W w') : Calls P f args x.val fun e w'' => e = .returned v ∧ ∃ y : ExtOf w, w'' = y.val := Calls.ext_of (h _ x.2)
set_option maxHeartbeats 1000000 in
theorem impl_isField (nm : ByteArray) (kd st sz : Int) (hk0 : -128 ≤ kd) (hk1 : kd < 128) (ht0 : -32768 ≤ st) (ht1 : st < 32768) (hs0 : -32768 ≤ sz) (hs1 : sz < 32768) (hnmx : nm.size ≤ 9223372036854775807) (w : World) :
    Calls Tryd.prog 63 #[.agg #[.string nm, .int .i8 kd, .int .i16 st, .int .i16 sz]] w fun e w' => e = .returned (.bool (fldB ⟨nm, kd, st, sz⟩)) ∧ Ext w w' := by
  have hx := @ExtOf.cell
  by_cases hbad : isNameB nm = false ∨ kd < 0 ∨ 3 < kd ∨ st < 0 ∨ sz < 1
  · have hv := hd (fldB_false (f := ⟨nm, kd, st, sz⟩) (fun h => by
      obtain ⟨h0, h1, h2, h3, h4, _⟩ := h
      dsimp only at h0 h1 h2 h3 h4
      rcases hbad with h | h | h | h | h
      · rw [h0] at h; cases h
      all_goals omega))
    cases hN : isNameB nm with
    | false =>
      clear hbad
      go_enter Tryd.func63, Tryd.ntmps63
      go_wp2_with fail
      refine Calls.mono (impl_isName nm _ hnmx) ?_
      rintro e w1 ⟨rfl, hb1⟩
      rw [hN]
      go_wp2
      go_ret
      exact ⟨by rw [hv.out]; rfl, by ((repeat (first | with_reducible exact Ext.refl _ | with_reducible exact hw | with_reducible exact hb9 | with_reducible exact hb8 | with_reducible exact hb7 | with_reducible exact hb6 | with_reducible exact hb5 | with_reducible exact hb4 | with_reducible exact hb3 | with_reducible exact hb2 | with_reducible exact hb1 | with_reducible refine Ext.alloc ?_ _ | with_reducible refine Ext.drew ?_ | ((with_reducible refine Ext.set ?_ ?_ _); focus (dsimp only; omega)) | with_reducible refine Ext.trans ?_ hb9 | with_reducible refine Ext.trans ?_ hb8 | with_reducible refine Ext.trans ?_ hb7 | with_reducible refine Ext.trans ?_ hb6 | with_reducible refine Ext.trans ?_ hb5 | with_reducible refine Ext.trans ?_ hb4 | with_reducible refine Ext.trans ?_ hb3 | with_reducible refine Ext.trans ?_ hb2 | with_reducible refine Ext.trans ?_ hb1 | with_reducible refine Ext.trans ?_ hw)))⟩
    | true =>
      have hbad2 := hd (hbad.resolve_left (by rw [hN]; simp))
      clear hbad
      go_enter Tryd.func63, Tryd.ntmps63
      go_wp2_with fail
      refine Calls.mono (impl_isName nm _ hnmx) ?_
      rintro e w1 ⟨rfl, hb1⟩
      rw [hN]
      have c0 : w1.cell? ⟨w.heap.size, 0, none⟩ = some (.string nm) := hb1.cell (by go_simp)
      have c1 : w1.cell? ⟨w.heap.size, 1, none⟩ = some (.int .i8 kd) := hb1.cell (by go_simp)
      have c2 : w1.cell? ⟨w.heap.size, 2, none⟩ = some (.int .i16 st) := hb1.cell (by go_simp)
      have c3 : w1.cell? ⟨w.heap.size, 3, none⟩ = some (.int .i16 sz) := hb1.cell (by go_simp)
      have hw1 : Ext w w1 := by ((repeat (first | with_reducible exact Ext.refl _ | with_reducible exact hw | with_reducible exact hb9 | with_reducible exact hb8 | with_reducible exact hb7 | with_reducible exact hb6 | with_reducible exact hb5 | with_reducible exact hb4 | with_reducible exact hb3 | with_reducible exact hb2 | with_reducible exact hb1 | with_reducible refine Ext.alloc ?_ _ | with_reducible refine Ext.drew ?_ | ((with_reducible refine Ext.set ?_ ?_ _); focus (dsimp only; omega)) | with_reducible refine Ext.trans ?_ hb9 | with_reducible refine Ext.trans ?_ hb8 | with_reducible refine Ext.trans ?_ hb7 | with_reducible refine Ext.trans ?_ hb6 | with_reducible refine Ext.trans ?_ hb5 | with_reducible refine Ext.trans ?_ hb4 | with_reducible refine Ext.trans ?_ hb3 | with_reducible refine Ext.trans ?_ hb2 | with_reducible refine Ext.trans ?_ hb1 | with_reducible refine Ext.trans ?_ hw)))
      by_cases k0 : kd < 0
      · go_wp2
        go_ret
        exact ⟨by rw [hv.out]; rfl, hw1⟩
      · by_cases k3 : 3 < kd
        · go_wp2
          go_ret
          exact ⟨by rw [hv.out]; rfl, hw1⟩
        · by_cases s0 : st < 0
          · go_wp2
            go_ret
            exact ⟨by rw [hv.out]; rfl, hw1⟩
          · have z1 : sz < 1 := by have := hbad2.out; omega
            go_wp2
            go_ret
            exact ⟨by rw [hv.out]; rfl, hw1⟩
  · have hN : isNameB nm = true := by
      cases h : isNameB nm with
      | true => rfl
      | false => exact absurd (.inl h) hbad
    have hk : 0 ≤ kd ∧ kd ≤ 3 ∧ 0 ≤ st ∧ 1 ≤ sz := by
      refine ⟨?_, ?_, ?_, ?_⟩ <;> (apply Decidable.byContradiction; intro h; exact hbad (by omega))
    clear hbad
    obtain ⟨k0, k3, s0, z0⟩ := hk
    rcases (show kd = 0 ∨ kd = 1 ∨ kd = 2 ∨ kd = 3 by omega) with rfl | rfl | rfl | rfl
    · have hmv := manyF_bd 0 sz (by omega) (by omega)
      have hmany := fun W => impl_many nm 0 st sz (by omega) (by omega) W
      generalize hmm : manyF 0 sz = mv at hmv hmany
      have hmm2 := hd hmm
      clear hmm
      have wr1 : IntKind.i64.wrap st = st := IntWalk.i64_in _ (by omega)
      have wr2 : IntKind.i64.wrap (st + mv) = st + mv := IntWalk.i64_in _ (by omega)
      go_enter Tryd.func63, Tryd.ntmps63
      go_wp2_with fail
      refine Calls.mono (impl_isName nm _ hnmx) ?_
      rintro e w1 ⟨rfl, hb1⟩
      rw [hN]
      have c0 : w1.cell? ⟨w.heap.size, 0, none⟩ = some (.string nm) := hb1.cell (by go_simp)
      have c1 : w1.cell? ⟨w.heap.size, 1, none⟩ = some (.int .i8 0) := hb1.cell (by go_simp)
      have c2 : w1.cell? ⟨w.heap.size, 2, none⟩ = some (.int .i16 st) := hb1.cell (by go_simp)
      have c3 : w1.cell? ⟨w.heap.size, 3, none⟩ = some (.int .i16 sz) := hb1.cell (by go_simp)
      have cb : w.heap.size < w1.heap.size := Nat.lt_of_lt_of_le (by simp) hb1.size
      have hw1 : Ext w w1 := by ((repeat (first | with_reducible exact Ext.refl _ | with_reducible exact hw | with_reducible exact hb9 | with_reducible exact hb8 | with_reducible exact hb7 | with_reducible exact hb6 | with_reducible exact hb5 | with_reducible exact hb4 | with_reducible exact hb3 | with_reducible exact hb2 | with_reducible exact hb1 | with_reducible refine Ext.alloc ?_ _ | with_reducible refine Ext.drew ?_ | ((with_reducible refine Ext.set ?_ ?_ _); focus (dsimp only; omega)) | with_reducible refine Ext.trans ?_ hb9 | with_reducible refine Ext.trans ?_ hb8 | with_reducible refine Ext.trans ?_ hb7 | with_reducible refine Ext.trans ?_ hb6 | with_reducible refine Ext.trans ?_ hb5 | with_reducible refine Ext.trans ?_ hb4 | with_reducible refine Ext.trans ?_ hb3 | with_reducible refine Ext.trans ?_ hb2 | with_reducible refine Ext.trans ?_ hb1 | with_reducible refine Ext.trans ?_ hw)))
      clear hb1
      have hb1 := hw1
      by_cases zm : sz ≤ 24
      · have dz : decide (sz ≤ 24) = true := by simp [zm]
        have hv := hd (show fldB ⟨nm, 0, st, sz⟩ = decide (st + mv ≤ 96) by
          unfold fldB
          rw [hN, Bool.true_and, decide_eq_decide]
          dsimp only
          rw [hmm2.out, show mostSz 0 = 24 from rfl]
          omega)
        go_wp2
        refine wp_region_ext (by kernel_rfl) (by kernel_rfl) ?_
        repeat (first | go_big_quiet_step ((go_at_call 104; with_reducible exact Calls.ext_all (fun W _ => hmany W))) | quiet_step ((go_at_call 104; with_reducible exact Calls.ext_all (fun W _ => hmany W))))
        refine wpQuiet_nil ?_
        intro w4 hq4
        have hb4 := ext_of_class hq4
        clear hq4
        obtain ⟨hc4, hf4, hz4⟩ := bcell3 hb4
        try simp at hz4
        go_wp2
        go_ret
        exact ⟨by rw [hv.out]; rfl, by ((repeat (first | with_reducible exact Ext.refl _ | with_reducible exact hw | with_reducible exact hb9 | with_reducible exact hb8 | with_reducible exact hb7 | with_reducible exact hb6 | with_reducible exact hb5 | with_reducible exact hb4 | with_reducible exact hb3 | with_reducible exact hb2 | with_reducible exact hb1 | with_reducible refine Ext.alloc ?_ _ | with_reducible refine Ext.drew ?_ | ((with_reducible refine Ext.set ?_ ?_ _); focus (dsimp only; omega)) | with_reducible refine Ext.trans ?_ hb9 | with_reducible refine Ext.trans ?_ hb8 | with_reducible refine Ext.trans ?_ hb7 | with_reducible refine Ext.trans ?_ hb6 | with_reducible refine Ext.trans ?_ hb5 | with_reducible refine Ext.trans ?_ hb4 | with_reducible refine Ext.trans ?_ hb3 | with_reducible refine Ext.trans ?_ hb2 | with_reducible refine Ext.trans ?_ hb1 | with_reducible refine Ext.trans ?_ hw)))⟩
      · have dz : decide (sz ≤ 24) = false := by simp [zm]
        have hv := hd (fldB_false (f := ⟨nm, 0, st, sz⟩) (fun h => zm h.2.2.2.2.2.1))
        go_wp2
        refine wp_region_ext (by kernel_rfl) (by kernel_rfl) ?_
        repeat (first | go_big_quiet_step (fail) | quiet_step (fail))
        refine wpQuiet_nil ?_
        intro w4 hq4
        have hb4 := ext_of_class hq4
        clear hq4
        obtain ⟨hc4, hf4, hz4⟩ := bcell3 hb4
        try simp at hz4
        go_wp2
        go_ret
        exact ⟨by rw [hv.out]; rfl, by ((repeat (first | with_reducible exact Ext.refl _ | with_reducible exact hw | with_reducible exact hb9 | with_reducible exact hb8 | with_reducible exact hb7 | with_reducible exact hb6 | with_reducible exact hb5 | with_reducible exact hb4 | with_reducible exact hb3 | with_reducible exact hb2 | with_reducible exact hb1 | with_reducible refine Ext.alloc ?_ _ | with_reducible refine Ext.drew ?_ | ((with_reducible refine Ext.set ?_ ?_ _); focus (dsimp only; omega)) | with_reducible refine Ext.trans ?_ hb9 | with_reducible refine Ext.trans ?_ hb8 | with_reducible refine Ext.trans ?_ hb7 | with_reducible refine Ext.trans ?_ hb6 | with_reducible refine Ext.trans ?_ hb5 | with_reducible refine Ext.trans ?_ hb4 | with_reducible refine Ext.trans ?_ hb3 | with_reducible refine Ext.trans ?_ hb2 | with_reducible refine Ext.trans ?_ hb1 | with_reducible refine Ext.trans ?_ hw)))⟩
    · have hmv := manyF_bd 1 sz (by omega) (by omega)
      have hmany := fun W => impl_many nm 1 st sz (by omega) (by omega) W
      generalize hmm : manyF 1 sz = mv at hmv hmany
      have hmm2 := hd hmm
      clear hmm
      have wr1 : IntKind.i64.wrap st = st := IntWalk.i64_in _ (by omega)
      have wr2 : IntKind.i64.wrap (st + mv) = st + mv := IntWalk.i64_in _ (by omega)
      go_enter Tryd.func63, Tryd.ntmps63
      go_wp2_with fail
      refine Calls.mono (impl_isName nm _ hnmx) ?_
      rintro e w1 ⟨rfl, hb1⟩
      rw [hN]
      have c0 : w1.cell? ⟨w.heap.size, 0, none⟩ = some (.string nm) := hb1.cell (by go_simp)
      have c1 : w1.cell? ⟨w.heap.size, 1, none⟩ = some (.int .i8 1) := hb1.cell (by go_simp)
      have c2 : w1.cell? ⟨w.heap.size, 2, none⟩ = some (.int .i16 st) := hb1.cell (by go_simp)
      have c3 : w1.cell? ⟨w.heap.size, 3, none⟩ = some (.int .i16 sz) := hb1.cell (by go_simp)
      have cb : w.heap.size < w1.heap.size := Nat.lt_of_lt_of_le (by simp) hb1.size
      have hw1 : Ext w w1 := by ((repeat (first | with_reducible exact Ext.refl _ | with_reducible exact hw | with_reducible exact hb9 | with_reducible exact hb8 | with_reducible exact hb7 | with_reducible exact hb6 | with_reducible exact hb5 | with_reducible exact hb4 | with_reducible exact hb3 | with_reducible exact hb2 | with_reducible exact hb1 | with_reducible refine Ext.alloc ?_ _ | with_reducible refine Ext.drew ?_ | ((with_reducible refine Ext.set ?_ ?_ _); focus (dsimp only; omega)) | with_reducible refine Ext.trans ?_ hb9 | with_reducible refine Ext.trans ?_ hb8 | with_reducible refine Ext.trans ?_ hb7 | with_reducible refine Ext.trans ?_ hb6 | with_reducible refine Ext.trans ?_ hb5 | with_reducible refine Ext.trans ?_ hb4 | with_reducible refine Ext.trans ?_ hb3 | with_reducible refine Ext.trans ?_ hb2 | with_reducible refine Ext.trans ?_ hb1 | with_reducible refine Ext.trans ?_ hw)))
      clear hb1
      have hb1 := hw1
      by_cases zm : sz ≤ 4
      · have dz : decide (sz ≤ 4) = true := by simp [zm]
        have hv := hd (show fldB ⟨nm, 1, st, sz⟩ = decide (st + mv ≤ 96) by
          unfold fldB
          rw [hN, Bool.true_and, decide_eq_decide]
          dsimp only
          rw [hmm2.out, show mostSz 1 = 4 from rfl]
          omega)
        go_wp2
        refine wp_region_ext (by kernel_rfl) (by kernel_rfl) ?_
        repeat (first | go_big_quiet_step ((go_at_call 104; with_reducible exact Calls.ext_all (fun W _ => hmany W))) | quiet_step ((go_at_call 104; with_reducible exact Calls.ext_all (fun W _ => hmany W))))
        refine wpQuiet_nil ?_
        intro w4 hq4
        have hb4 := ext_of_class hq4
        clear hq4
        obtain ⟨hc4, hf4, hz4⟩ := bcell3 hb4
        try simp at hz4
        go_wp2
        go_ret
        exact ⟨by rw [hv.out]; rfl, by ((repeat (first | with_reducible exact Ext.refl _ | with_reducible exact hw | with_reducible exact hb9 | with_reducible exact hb8 | with_reducible exact hb7 | with_reducible exact hb6 | with_reducible exact hb5 | with_reducible exact hb4 | with_reducible exact hb3 | with_reducible exact hb2 | with_reducible exact hb1 | with_reducible refine Ext.alloc ?_ _ | with_reducible refine Ext.drew ?_ | ((with_reducible refine Ext.set ?_ ?_ _); focus (dsimp only; omega)) | with_reducible refine Ext.trans ?_ hb9 | with_reducible refine Ext.trans ?_ hb8 | with_reducible refine Ext.trans ?_ hb7 | with_reducible refine Ext.trans ?_ hb6 | with_reducible refine Ext.trans ?_ hb5 | with_reducible refine Ext.trans ?_ hb4 | with_reducible refine Ext.trans ?_ hb3 | with_reducible refine Ext.trans ?_ hb2 | with_reducible refine Ext.trans ?_ hb1 | with_reducible refine Ext.trans ?_ hw)))⟩
      · have dz : decide (sz ≤ 4) = false := by simp [zm]
        have hv := hd (fldB_false (f := ⟨nm, 1, st, sz⟩) (fun h => zm h.2.2.2.2.2.1))
        go_wp2
        refine wp_region_ext (by kernel_rfl) (by kernel_rfl) ?_
        repeat (first | go_big_quiet_step (fail) | quiet_step (fail))
        refine wpQuiet_nil ?_
        intro w4 hq4
        have hb4 := ext_of_class hq4
        clear hq4
        obtain ⟨hc4, hf4, hz4⟩ := bcell3 hb4
        try simp at hz4
        go_wp2
        go_ret
        exact ⟨by rw [hv.out]; rfl, by ((repeat (first | with_reducible exact Ext.refl _ | with_reducible exact hw | with_reducible exact hb9 | with_reducible exact hb8 | with_reducible exact hb7 | with_reducible exact hb6 | with_reducible exact hb5 | with_reducible exact hb4 | with_reducible exact hb3 | with_reducible exact hb2 | with_reducible exact hb1 | with_reducible refine Ext.alloc ?_ _ | with_reducible refine Ext.drew ?_ | ((with_reducible refine Ext.set ?_ ?_ _); focus (dsimp only; omega)) | with_reducible refine Ext.trans ?_ hb9 | with_reducible refine Ext.trans ?_ hb8 | with_reducible refine Ext.trans ?_ hb7 | with_reducible refine Ext.trans ?_ hb6 | with_reducible refine Ext.trans ?_ hb5 | with_reducible refine Ext.trans ?_ hb4 | with_reducible refine Ext.trans ?_ hb3 | with_reducible refine Ext.trans ?_ hb2 | with_reducible refine Ext.trans ?_ hb1 | with_reducible refine Ext.trans ?_ hw)))⟩
    · have hmv := manyF_bd 2 sz (by omega) (by omega)
      have hmany := fun W => impl_many nm 2 st sz (by omega) (by omega) W
      generalize hmm : manyF 2 sz = mv at hmv hmany
      have hmm2 := hd hmm
      clear hmm
      have wr1 : IntKind.i64.wrap st = st := IntWalk.i64_in _ (by omega)
      have wr2 : IntKind.i64.wrap (st + mv) = st + mv := IntWalk.i64_in _ (by omega)
      go_enter Tryd.func63, Tryd.ntmps63
      go_wp2_with fail
      refine Calls.mono (impl_isName nm _ hnmx) ?_
      rintro e w1 ⟨rfl, hb1⟩
      rw [hN]
      have c0 : w1.cell? ⟨w.heap.size, 0, none⟩ = some (.string nm) := hb1.cell (by go_simp)
      have c1 : w1.cell? ⟨w.heap.size, 1, none⟩ = some (.int .i8 2) := hb1.cell (by go_simp)
      have c2 : w1.cell? ⟨w.heap.size, 2, none⟩ = some (.int .i16 st) := hb1.cell (by go_simp)
      have c3 : w1.cell? ⟨w.heap.size, 3, none⟩ = some (.int .i16 sz) := hb1.cell (by go_simp)
      have cb : w.heap.size < w1.heap.size := Nat.lt_of_lt_of_le (by simp) hb1.size
      have hw1 : Ext w w1 := by ((repeat (first | with_reducible exact Ext.refl _ | with_reducible exact hw | with_reducible exact hb9 | with_reducible exact hb8 | with_reducible exact hb7 | with_reducible exact hb6 | with_reducible exact hb5 | with_reducible exact hb4 | with_reducible exact hb3 | with_reducible exact hb2 | with_reducible exact hb1 | with_reducible refine Ext.alloc ?_ _ | with_reducible refine Ext.drew ?_ | ((with_reducible refine Ext.set ?_ ?_ _); focus (dsimp only; omega)) | with_reducible refine Ext.trans ?_ hb9 | with_reducible refine Ext.trans ?_ hb8 | with_reducible refine Ext.trans ?_ hb7 | with_reducible refine Ext.trans ?_ hb6 | with_reducible refine Ext.trans ?_ hb5 | with_reducible refine Ext.trans ?_ hb4 | with_reducible refine Ext.trans ?_ hb3 | with_reducible refine Ext.trans ?_ hb2 | with_reducible refine Ext.trans ?_ hb1 | with_reducible refine Ext.trans ?_ hw)))
      clear hb1
      have hb1 := hw1
      by_cases zm : sz ≤ 4
      · have dz : decide (sz ≤ 4) = true := by simp [zm]
        have hv := hd (show fldB ⟨nm, 2, st, sz⟩ = decide (st + mv ≤ 96) by
          unfold fldB
          rw [hN, Bool.true_and, decide_eq_decide]
          dsimp only
          rw [hmm2.out, show mostSz 2 = 4 from rfl]
          omega)
        go_wp2
        refine wp_region_ext (by kernel_rfl) (by kernel_rfl) ?_
        repeat (first | go_big_quiet_step ((go_at_call 104; with_reducible exact Calls.ext_all (fun W _ => hmany W))) | quiet_step ((go_at_call 104; with_reducible exact Calls.ext_all (fun W _ => hmany W))))
        refine wpQuiet_nil ?_
        intro w4 hq4
        have hb4 := ext_of_class hq4
        clear hq4
        obtain ⟨hc4, hf4, hz4⟩ := bcell3 hb4
        try simp at hz4
        go_wp2
        go_ret
        exact ⟨by rw [hv.out]; rfl, by ((repeat (first | with_reducible exact Ext.refl _ | with_reducible exact hw | with_reducible exact hb9 | with_reducible exact hb8 | with_reducible exact hb7 | with_reducible exact hb6 | with_reducible exact hb5 | with_reducible exact hb4 | with_reducible exact hb3 | with_reducible exact hb2 | with_reducible exact hb1 | with_reducible refine Ext.alloc ?_ _ | with_reducible refine Ext.drew ?_ | ((with_reducible refine Ext.set ?_ ?_ _); focus (dsimp only; omega)) | with_reducible refine Ext.trans ?_ hb9 | with_reducible refine Ext.trans ?_ hb8 | with_reducible refine Ext.trans ?_ hb7 | with_reducible refine Ext.trans ?_ hb6 | with_reducible refine Ext.trans ?_ hb5 | with_reducible refine Ext.trans ?_ hb4 | with_reducible refine Ext.trans ?_ hb3 | with_reducible refine Ext.trans ?_ hb2 | with_reducible refine Ext.trans ?_ hb1 | with_reducible refine Ext.trans ?_ hw)))⟩
      · have dz : decide (sz ≤ 4) = false := by simp [zm]
        have hv := hd (fldB_false (f := ⟨nm, 2, st, sz⟩) (fun h => zm h.2.2.2.2.2.1))
        go_wp2
        refine wp_region_ext (by kernel_rfl) (by kernel_rfl) ?_
        repeat (first | go_big_quiet_step (fail) | quiet_step (fail))
        refine wpQuiet_nil ?_
        intro w4 hq4
        have hb4 := ext_of_class hq4
        clear hq4
        obtain ⟨hc4, hf4, hz4⟩ := bcell3 hb4
        try simp at hz4
        go_wp2
        go_ret
        exact ⟨by rw [hv.out]; rfl, by ((repeat (first | with_reducible exact Ext.refl _ | with_reducible exact hw | with_reducible exact hb9 | with_reducible exact hb8 | with_reducible exact hb7 | with_reducible exact hb6 | with_reducible exact hb5 | with_reducible exact hb4 | with_reducible exact hb3 | with_reducible exact hb2 | with_reducible exact hb1 | with_reducible refine Ext.alloc ?_ _ | with_reducible refine Ext.drew ?_ | ((with_reducible refine Ext.set ?_ ?_ _); focus (dsimp only; omega)) | with_reducible refine Ext.trans ?_ hb9 | with_reducible refine Ext.trans ?_ hb8 | with_reducible refine Ext.trans ?_ hb7 | with_reducible refine Ext.trans ?_ hb6 | with_reducible refine Ext.trans ?_ hb5 | with_reducible refine Ext.trans ?_ hb4 | with_reducible refine Ext.trans ?_ hb3 | with_reducible refine Ext.trans ?_ hb2 | with_reducible refine Ext.trans ?_ hb1 | with_reducible refine Ext.trans ?_ hw)))⟩
    · have hmv := manyF_bd 3 sz (by omega) (by omega)
      have hmany := fun W => impl_many nm 3 st sz (by omega) (by omega) W
      generalize hmm : manyF 3 sz = mv at hmv hmany
      have hmm2 := hd hmm
      clear hmm
      have wr1 : IntKind.i64.wrap st = st := IntWalk.i64_in _ (by omega)
      have wr2 : IntKind.i64.wrap (st + mv) = st + mv := IntWalk.i64_in _ (by omega)
      go_enter Tryd.func63, Tryd.ntmps63
      go_wp2_with fail
      refine Calls.mono (impl_isName nm _ hnmx) ?_
      rintro e w1 ⟨rfl, hb1⟩
      rw [hN]
      have c0 : w1.cell? ⟨w.heap.size, 0, none⟩ = some (.string nm) := hb1.cell (by go_simp)
      have c1 : w1.cell? ⟨w.heap.size, 1, none⟩ = some (.int .i8 3) := hb1.cell (by go_simp)
      have c2 : w1.cell? ⟨w.heap.size, 2, none⟩ = some (.int .i16 st) := hb1.cell (by go_simp)
      have c3 : w1.cell? ⟨w.heap.size, 3, none⟩ = some (.int .i16 sz) := hb1.cell (by go_simp)
      have cb : w.heap.size < w1.heap.size := Nat.lt_of_lt_of_le (by simp) hb1.size
      have hw1 : Ext w w1 := by ((repeat (first | with_reducible exact Ext.refl _ | with_reducible exact hw | with_reducible exact hb9 | with_reducible exact hb8 | with_reducible exact hb7 | with_reducible exact hb6 | with_reducible exact hb5 | with_reducible exact hb4 | with_reducible exact hb3 | with_reducible exact hb2 | with_reducible exact hb1 | with_reducible refine Ext.alloc ?_ _ | with_reducible refine Ext.drew ?_ | ((with_reducible refine Ext.set ?_ ?_ _); focus (dsimp only; omega)) | with_reducible refine Ext.trans ?_ hb9 | with_reducible refine Ext.trans ?_ hb8 | with_reducible refine Ext.trans ?_ hb7 | with_reducible refine Ext.trans ?_ hb6 | with_reducible refine Ext.trans ?_ hb5 | with_reducible refine Ext.trans ?_ hb4 | with_reducible refine Ext.trans ?_ hb3 | with_reducible refine Ext.trans ?_ hb2 | with_reducible refine Ext.trans ?_ hb1 | with_reducible refine Ext.trans ?_ hw)))
      clear hb1
      have hb1 := hw1
      by_cases zm : sz ≤ 12
      · have dz : decide (sz ≤ 12) = true := by simp [zm]
        have hv := hd (show fldB ⟨nm, 3, st, sz⟩ = decide (st + mv ≤ 96) by
          unfold fldB
          rw [hN, Bool.true_and, decide_eq_decide]
          dsimp only
          rw [hmm2.out, show mostSz 3 = 12 from rfl]
          omega)
        go_wp2
        refine wp_region_ext (by kernel_rfl) (by kernel_rfl) ?_
        repeat (first | go_big_quiet_step ((go_at_call 104; with_reducible exact Calls.ext_all (fun W _ => hmany W))) | quiet_step ((go_at_call 104; with_reducible exact Calls.ext_all (fun W _ => hmany W))))
        refine wpQuiet_nil ?_
        intro w4 hq4
        have hb4 := ext_of_class hq4
        clear hq4
        obtain ⟨hc4, hf4, hz4⟩ := bcell3 hb4
        try simp at hz4
        go_wp2
        go_ret
        exact ⟨by rw [hv.out]; rfl, by ((repeat (first | with_reducible exact Ext.refl _ | with_reducible exact hw | with_reducible exact hb9 | with_reducible exact hb8 | with_reducible exact hb7 | with_reducible exact hb6 | with_reducible exact hb5 | with_reducible exact hb4 | with_reducible exact hb3 | with_reducible exact hb2 | with_reducible exact hb1 | with_reducible refine Ext.alloc ?_ _ | with_reducible refine Ext.drew ?_ | ((with_reducible refine Ext.set ?_ ?_ _); focus (dsimp only; omega)) | with_reducible refine Ext.trans ?_ hb9 | with_reducible refine Ext.trans ?_ hb8 | with_reducible refine Ext.trans ?_ hb7 | with_reducible refine Ext.trans ?_ hb6 | with_reducible refine Ext.trans ?_ hb5 | with_reducible refine Ext.trans ?_ hb4 | with_reducible refine Ext.trans ?_ hb3 | with_reducible refine Ext.trans ?_ hb2 | with_reducible refine Ext.trans ?_ hb1 | with_reducible refine Ext.trans ?_ hw)))⟩
      · have dz : decide (sz ≤ 12) = false := by simp [zm]
        have hv := hd (fldB_false (f := ⟨nm, 3, st, sz⟩) (fun h => zm h.2.2.2.2.2.1))
        go_wp2
        refine wp_region_ext (by kernel_rfl) (by kernel_rfl) ?_
        repeat (first | go_big_quiet_step (fail) | quiet_step (fail))
        refine wpQuiet_nil ?_
        intro w4 hq4
        have hb4 := ext_of_class hq4
        clear hq4
        obtain ⟨hc4, hf4, hz4⟩ := bcell3 hb4
        try simp at hz4
        go_wp2
        go_ret
        exact ⟨by rw [hv.out]; rfl, by ((repeat (first | with_reducible exact Ext.refl _ | with_reducible exact hw | with_reducible exact hb9 | with_reducible exact hb8 | with_reducible exact hb7 | with_reducible exact hb6 | with_reducible exact hb5 | with_reducible exact hb4 | with_reducible exact hb3 | with_reducible exact hb2 | with_reducible exact hb1 | with_reducible refine Ext.alloc ?_ _ | with_reducible refine Ext.drew ?_ | ((with_reducible refine Ext.set ?_ ?_ _); focus (dsimp only; omega)) | with_reducible refine Ext.trans ?_ hb9 | with_reducible refine Ext.trans ?_ hb8 | with_reducible refine Ext.trans ?_ hb7 | with_reducible refine Ext.trans ?_ hb6 | with_reducible refine Ext.trans ?_ hb5 | with_reducible refine Ext.trans ?_ hb4 | with_reducible refine Ext.trans ?_ hb3 | with_reducible refine Ext.trans ?_ hb2 | with_reducible refine Ext.trans ?_ hb1 | with_reducible refine Ext.trans ?_ hw)))⟩
