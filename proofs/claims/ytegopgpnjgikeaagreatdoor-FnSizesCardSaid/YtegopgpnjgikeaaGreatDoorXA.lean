/-
  XA: the texts X1 X2 X3 X4 X5 in one (written by merge.py).
-/
import Derived.Test.YtegopgpnjgikeaaGreatDoorH0
import Derived.Test.YtegopgpnjgikeaaGreatDoorC3
import Derived.Test.YtegopgpnjgikeaaGreatDoorF6
import Derived.Test.YtegopgpnjgikeaaGreatDoorG7
import Derived.Test.YtegopgpnjgikeaaGreatDoorL6
import Derived.RegionTactic
import Derived.ChangeAlike
import Derived.Test.YtegopgpnjgikeaaGreatDoorMA
import Derived.Test.YtegopgpnjgikeaaGreatDoorL8
import Derived.Test.YtegopgpnjgikeaaGreatDoorMK
set_option linter.unusedVariables false
set_option linter.unusedSimpArgs false
set_option maxRecDepth 100000
namespace Go.Proofs.YtegopgpnjgikeaaGreatDoor
open Go.RowKit
def MxIn (x : Mx) : Prop := (-32768 ≤ x.st ∧ x.st < 32768) ∧ (-32768 ≤ x.sz ∧ x.sz < 32768) ∧ (-32768 ≤ x.per ∧ x.per < 32768)
/-- A mix lies at an address. -/
def MixAt (w : World) (b o : Nat) (x : Mx) : Prop := w.cell? ⟨b, o, none⟩ = some (.int .i16 x.st) ∧ w.cell? ⟨b, o + 1, none⟩ = some (.int .i16 x.sz) ∧ w.cell? ⟨b, o + 2, none⟩ = some (.int .i16 x.per)
theorem MixAt.ext {w w' : World} {b o : Nat} {x : Mx} (h : MixAt w b o x) (hb : Ext w w') : MixAt w' b o x := ⟨hb.cell h.1, hb.cell h.2.1, hb.cell h.2.2⟩
theorem MixAt.lt {w : World} {b o : Nat} {x : Mx} (h : MixAt w b o x) : b < w.heap.size := World.block_lt_of_cell? _ _ h.1
theorem mix_no {x : Mx} (h : ¬ (4 ≤ x.sz ∧ x.sz ≤ 96 ∧ 1 ≤ x.per ∧ x.per ≤ 8 ∧ 2 * x.per ≤ x.sz ∧ 0 ≤ x.st ∧ x.st ≤ 96 - x.sz)) : mixB x = false := by
  cases hq : mixB x with
  | false => rfl
  | true => exact absurd ((mixB_iff x).1 hq) h
set_option maxHeartbeats 400000 in
theorem impl_isMix (x : Mx) (hx : MxIn x) (w : World) :
    Calls Tryz.prog 22 #[.agg #[.int .i16 x.st, .int .i16 x.sz, .int .i16 x.per]] w fun e w' => e = .returned (.bool (mixB x)) ∧ Ext w w' := by
  obtain ⟨st, sz, per⟩ := x
  obtain ⟨⟨s0, s1⟩, ⟨z0, z1⟩, ⟨p0, p1⟩⟩ := hx
  dsimp only at s0 s1 z0 z1 p0 p1
  by_cases a1 : 4 ≤ sz
  · by_cases a2 : sz ≤ 96
    · have wr : IntKind.i16.wrap (96 - sz) = 96 - sz := IntWalk.i16_in _ (by omega)
      have wq : IntKind.i16.wrap (sz / 2) = sz / 2 := IntWalk.i16_in _ (by omega)
      have tq : sz.tdiv 2 = sz / 2 := Int.tdiv_eq_ediv_of_nonneg (by omega)
      by_cases a3 : 1 ≤ per
      · by_cases a4 : per ≤ 8
        · by_cases a5 : per ≤ sz / 2
          · by_cases a6 : 0 ≤ st
            · by_cases a7 : st ≤ 96 - sz
              · have hv := hd (show mixB ⟨st, sz, per⟩ = true from (mixB_iff _).2 (by dsimp only; omega))
                go_enter Tryz.func22, Tryz.ntmps22
                go_wp2
                go_ret
                exact ⟨by rw [hv.out]; rfl, by ((repeat (first | with_reducible exact Ext.refl _ | with_reducible exact hw | with_reducible exact hb9 | with_reducible exact hb8 | with_reducible exact hb7 | with_reducible exact hb6 | with_reducible exact hb5 | with_reducible exact hb4 | with_reducible exact hb3 | with_reducible exact hb2 | with_reducible exact hb1 | with_reducible refine Ext.alloc ?_ _ | with_reducible refine Ext.drew ?_ | ((with_reducible refine Ext.set ?_ ?_ _); focus (dsimp only; omega)) | with_reducible refine Ext.trans ?_ hb9 | with_reducible refine Ext.trans ?_ hb8 | with_reducible refine Ext.trans ?_ hb7 | with_reducible refine Ext.trans ?_ hb6 | with_reducible refine Ext.trans ?_ hb5 | with_reducible refine Ext.trans ?_ hb4 | with_reducible refine Ext.trans ?_ hb3 | with_reducible refine Ext.trans ?_ hb2 | with_reducible refine Ext.trans ?_ hb1 | with_reducible refine Ext.trans ?_ hw)))⟩
              · have hv := hd (mix_no (x := ⟨st, sz, per⟩) (by dsimp only; omega))
                go_enter Tryz.func22, Tryz.ntmps22
                go_wp2
                go_ret
                exact ⟨by rw [hv.out]; rfl, by ((repeat (first | with_reducible exact Ext.refl _ | with_reducible exact hw | with_reducible exact hb9 | with_reducible exact hb8 | with_reducible exact hb7 | with_reducible exact hb6 | with_reducible exact hb5 | with_reducible exact hb4 | with_reducible exact hb3 | with_reducible exact hb2 | with_reducible exact hb1 | with_reducible refine Ext.alloc ?_ _ | with_reducible refine Ext.drew ?_ | ((with_reducible refine Ext.set ?_ ?_ _); focus (dsimp only; omega)) | with_reducible refine Ext.trans ?_ hb9 | with_reducible refine Ext.trans ?_ hb8 | with_reducible refine Ext.trans ?_ hb7 | with_reducible refine Ext.trans ?_ hb6 | with_reducible refine Ext.trans ?_ hb5 | with_reducible refine Ext.trans ?_ hb4 | with_reducible refine Ext.trans ?_ hb3 | with_reducible refine Ext.trans ?_ hb2 | with_reducible refine Ext.trans ?_ hb1 | with_reducible refine Ext.trans ?_ hw)))⟩
            · have hv := hd (mix_no (x := ⟨st, sz, per⟩) (by dsimp only; omega))
              go_enter Tryz.func22, Tryz.ntmps22
              go_wp2
              go_ret
              exact ⟨by rw [hv.out]; rfl, by ((repeat (first | with_reducible exact Ext.refl _ | with_reducible exact hw | with_reducible exact hb9 | with_reducible exact hb8 | with_reducible exact hb7 | with_reducible exact hb6 | with_reducible exact hb5 | with_reducible exact hb4 | with_reducible exact hb3 | with_reducible exact hb2 | with_reducible exact hb1 | with_reducible refine Ext.alloc ?_ _ | with_reducible refine Ext.drew ?_ | ((with_reducible refine Ext.set ?_ ?_ _); focus (dsimp only; omega)) | with_reducible refine Ext.trans ?_ hb9 | with_reducible refine Ext.trans ?_ hb8 | with_reducible refine Ext.trans ?_ hb7 | with_reducible refine Ext.trans ?_ hb6 | with_reducible refine Ext.trans ?_ hb5 | with_reducible refine Ext.trans ?_ hb4 | with_reducible refine Ext.trans ?_ hb3 | with_reducible refine Ext.trans ?_ hb2 | with_reducible refine Ext.trans ?_ hb1 | with_reducible refine Ext.trans ?_ hw)))⟩
          · have hv := hd (mix_no (x := ⟨st, sz, per⟩) (by dsimp only; omega))
            go_enter Tryz.func22, Tryz.ntmps22
            go_wp2
            go_ret
            exact ⟨by rw [hv.out]; rfl, by ((repeat (first | with_reducible exact Ext.refl _ | with_reducible exact hw | with_reducible exact hb9 | with_reducible exact hb8 | with_reducible exact hb7 | with_reducible exact hb6 | with_reducible exact hb5 | with_reducible exact hb4 | with_reducible exact hb3 | with_reducible exact hb2 | with_reducible exact hb1 | with_reducible refine Ext.alloc ?_ _ | with_reducible refine Ext.drew ?_ | ((with_reducible refine Ext.set ?_ ?_ _); focus (dsimp only; omega)) | with_reducible refine Ext.trans ?_ hb9 | with_reducible refine Ext.trans ?_ hb8 | with_reducible refine Ext.trans ?_ hb7 | with_reducible refine Ext.trans ?_ hb6 | with_reducible refine Ext.trans ?_ hb5 | with_reducible refine Ext.trans ?_ hb4 | with_reducible refine Ext.trans ?_ hb3 | with_reducible refine Ext.trans ?_ hb2 | with_reducible refine Ext.trans ?_ hb1 | with_reducible refine Ext.trans ?_ hw)))⟩
        · have hv := hd (mix_no (x := ⟨st, sz, per⟩) (by dsimp only; omega))
          go_enter Tryz.func22, Tryz.ntmps22
          go_wp2
          go_ret
          exact ⟨by rw [hv.out]; rfl, by ((repeat (first | with_reducible exact Ext.refl _ | with_reducible exact hw | with_reducible exact hb9 | with_reducible exact hb8 | with_reducible exact hb7 | with_reducible exact hb6 | with_reducible exact hb5 | with_reducible exact hb4 | with_reducible exact hb3 | with_reducible exact hb2 | with_reducible exact hb1 | with_reducible refine Ext.alloc ?_ _ | with_reducible refine Ext.drew ?_ | ((with_reducible refine Ext.set ?_ ?_ _); focus (dsimp only; omega)) | with_reducible refine Ext.trans ?_ hb9 | with_reducible refine Ext.trans ?_ hb8 | with_reducible refine Ext.trans ?_ hb7 | with_reducible refine Ext.trans ?_ hb6 | with_reducible refine Ext.trans ?_ hb5 | with_reducible refine Ext.trans ?_ hb4 | with_reducible refine Ext.trans ?_ hb3 | with_reducible refine Ext.trans ?_ hb2 | with_reducible refine Ext.trans ?_ hb1 | with_reducible refine Ext.trans ?_ hw)))⟩
      · have hv := hd (mix_no (x := ⟨st, sz, per⟩) (by dsimp only; omega))
        go_enter Tryz.func22, Tryz.ntmps22
        go_wp2
        go_ret
        exact ⟨by rw [hv.out]; rfl, by ((repeat (first | with_reducible exact Ext.refl _ | with_reducible exact hw | with_reducible exact hb9 | with_reducible exact hb8 | with_reducible exact hb7 | with_reducible exact hb6 | with_reducible exact hb5 | with_reducible exact hb4 | with_reducible exact hb3 | with_reducible exact hb2 | with_reducible exact hb1 | with_reducible refine Ext.alloc ?_ _ | with_reducible refine Ext.drew ?_ | ((with_reducible refine Ext.set ?_ ?_ _); focus (dsimp only; omega)) | with_reducible refine Ext.trans ?_ hb9 | with_reducible refine Ext.trans ?_ hb8 | with_reducible refine Ext.trans ?_ hb7 | with_reducible refine Ext.trans ?_ hb6 | with_reducible refine Ext.trans ?_ hb5 | with_reducible refine Ext.trans ?_ hb4 | with_reducible refine Ext.trans ?_ hb3 | with_reducible refine Ext.trans ?_ hb2 | with_reducible refine Ext.trans ?_ hb1 | with_reducible refine Ext.trans ?_ hw)))⟩
    · have hv := hd (mix_no (x := ⟨st, sz, per⟩) (by dsimp only; omega))
      go_enter Tryz.func22, Tryz.ntmps22
      go_wp2
      go_ret
      exact ⟨by rw [hv.out]; rfl, by ((repeat (first | with_reducible exact Ext.refl _ | with_reducible exact hw | with_reducible exact hb9 | with_reducible exact hb8 | with_reducible exact hb7 | with_reducible exact hb6 | with_reducible exact hb5 | with_reducible exact hb4 | with_reducible exact hb3 | with_reducible exact hb2 | with_reducible exact hb1 | with_reducible refine Ext.alloc ?_ _ | with_reducible refine Ext.drew ?_ | ((with_reducible refine Ext.set ?_ ?_ _); focus (dsimp only; omega)) | with_reducible refine Ext.trans ?_ hb9 | with_reducible refine Ext.trans ?_ hb8 | with_reducible refine Ext.trans ?_ hb7 | with_reducible refine Ext.trans ?_ hb6 | with_reducible refine Ext.trans ?_ hb5 | with_reducible refine Ext.trans ?_ hb4 | with_reducible refine Ext.trans ?_ hb3 | with_reducible refine Ext.trans ?_ hb2 | with_reducible refine Ext.trans ?_ hb1 | with_reducible refine Ext.trans ?_ hw)))⟩
  · have hv := hd (mix_no (x := ⟨st, sz, per⟩) (by dsimp only; omega))
    go_enter Tryz.func22, Tryz.ntmps22
    go_wp2
    go_ret
    exact ⟨by rw [hv.out]; rfl, by ((repeat (first | with_reducible exact Ext.refl _ | with_reducible exact hw | with_reducible exact hb9 | with_reducible exact hb8 | with_reducible exact hb7 | with_reducible exact hb6 | with_reducible exact hb5 | with_reducible exact hb4 | with_reducible exact hb3 | with_reducible exact hb2 | with_reducible exact hb1 | with_reducible refine Ext.alloc ?_ _ | with_reducible refine Ext.drew ?_ | ((with_reducible refine Ext.set ?_ ?_ _); focus (dsimp only; omega)) | with_reducible refine Ext.trans ?_ hb9 | with_reducible refine Ext.trans ?_ hb8 | with_reducible refine Ext.trans ?_ hb7 | with_reducible refine Ext.trans ?_ hb6 | with_reducible refine Ext.trans ?_ hb5 | with_reducible refine Ext.trans ?_ hb4 | with_reducible refine Ext.trans ?_ hb3 | with_reducible refine Ext.trans ?_ hb2 | with_reducible refine Ext.trans ?_ hb1 | with_reducible refine Ext.trans ?_ hw)))⟩
set_option maxHeartbeats 400000 in
theorem spec_l03Ok (x : Mx) (hx : MxIn x) (b o : Nat) (w : World) (hA : MixAt w b o x) :
    Calls Tryz.prog 25 #[.pointer (some ⟨b, o, none⟩)] w fun e w' => e = .returned (.bool (mixB x)) ∧ Ext w w' := by
  have hx := @ExtOf.cell
  obtain ⟨st, sz, per⟩ := x
  obtain ⟨⟨s0, s1⟩, ⟨z0, z1⟩, ⟨p0, p1⟩⟩ := hx
  have hlt := hA.lt
  obtain ⟨c0, c1, c2⟩ := hA
  dsimp only at s0 s1 z0 z1 p0 p1 c0 c1 c2
  have wr1 : IntKind.i64.wrap st = st := IntWalk.i64_in _ (by omega)
  have wr2 : IntKind.i64.wrap sz = sz := IntWalk.i64_in _ (by omega)
  have wr3 : IntKind.i64.wrap per = per := IntWalk.i64_in _ (by omega)
  have hi1 := fun W => spec_l00In sz 4 96 W
  have hi2 := fun W => spec_l00In per 1 8 W
  have hi3 := fun W => spec_l00In st 0 (96 - sz) W
  by_cases a1 : 4 ≤ sz ∧ sz ≤ 96
  · have wr4 : IntKind.i64.wrap (96 - sz) = 96 - sz := IntWalk.i64_in _ (by omega)
    rw [show inB sz 4 96 = true by simp [inB, a1.1, a1.2]] at hi1
    by_cases a2 : 1 ≤ per ∧ per ≤ 8
    · have wr5 : IntKind.i16.wrap (2 * per) = 2 * per := IntWalk.i16_in _ (by omega)
      rw [show inB per 1 8 = true by simp [inB, a2.1, a2.2]] at hi2
      by_cases a3 : 2 * per ≤ sz
      · have hv := hd (show mixB ⟨st, sz, per⟩ = inB st 0 (96 - sz) by
          unfold inB
          rw [← Bool.decide_and, Bool.eq_iff_iff, mixB_iff, decide_eq_true_iff]
          dsimp only
          omega)
        generalize inB st 0 (96 - sz) = q at hi3 hv
        clear a1 a2
        go_enter Tryz.func25, Tryz.ntmps25
        go_wp2
        refine wp_region_ext (by kernel_rfl) (by kernel_rfl) ?_
        repeat (first | go_big_quiet_step ((first | (go_at_call 49; with_reducible exact Calls.ext_all (fun W _ => hi1 W)) | (go_at_call 49; with_reducible exact Calls.ext_all (fun W _ => hi2 W)) | (go_at_call 49; with_reducible exact Calls.ext_all (fun W _ => hi3 W)))) | quiet_step ((first | (go_at_call 49; with_reducible exact Calls.ext_all (fun W _ => hi1 W)) | (go_at_call 49; with_reducible exact Calls.ext_all (fun W _ => hi2 W)) | (go_at_call 49; with_reducible exact Calls.ext_all (fun W _ => hi3 W)))))
        refine wpQuiet_nil ?_
        intro w1 hq1
        have hb1 := ext_of_class hq1
        clear hq1
        obtain ⟨hc1, hf1, hz1⟩ := bcell3 hb1
        try simp at hz1
        go_wp2
        go_ret
        exact ⟨by rw [hv.out]; rfl, by ((repeat (first | with_reducible exact Ext.refl _ | with_reducible exact hw | with_reducible exact hb9 | with_reducible exact hb8 | with_reducible exact hb7 | with_reducible exact hb6 | with_reducible exact hb5 | with_reducible exact hb4 | with_reducible exact hb3 | with_reducible exact hb2 | with_reducible exact hb1 | with_reducible refine Ext.alloc ?_ _ | with_reducible refine Ext.drew ?_ | ((with_reducible refine Ext.set ?_ ?_ _); focus (dsimp only; omega)) | with_reducible refine Ext.trans ?_ hb9 | with_reducible refine Ext.trans ?_ hb8 | with_reducible refine Ext.trans ?_ hb7 | with_reducible refine Ext.trans ?_ hb6 | with_reducible refine Ext.trans ?_ hb5 | with_reducible refine Ext.trans ?_ hb4 | with_reducible refine Ext.trans ?_ hb3 | with_reducible refine Ext.trans ?_ hb2 | with_reducible refine Ext.trans ?_ hb1 | with_reducible refine Ext.trans ?_ hw)))⟩
      · have hv := hd (mix_no (x := ⟨st, sz, per⟩) (by dsimp only; omega))
        have q3 : decide (2 * per ≤ sz) = false := decide_eq_false a3
        have q4 : (2 * per ≤ sz) = False := eq_false a3
        clear a1 a2
        go_enter Tryz.func25, Tryz.ntmps25
        go_wp2
        refine wp_region_ext (by kernel_rfl) (by kernel_rfl) ?_
        repeat (first | go_big_quiet_step ((first | (go_at_call 49; with_reducible exact Calls.ext_all (fun W _ => hi1 W)) | (go_at_call 49; with_reducible exact Calls.ext_all (fun W _ => hi2 W)))) | quiet_step ((first | (go_at_call 49; with_reducible exact Calls.ext_all (fun W _ => hi1 W)) | (go_at_call 49; with_reducible exact Calls.ext_all (fun W _ => hi2 W)))))
        refine wpQuiet_nil ?_
        intro w1 hq1
        have hb1 := ext_of_class hq1
        clear hq1
        obtain ⟨hc1, hf1, hz1⟩ := bcell3 hb1
        try simp at hz1
        go_wp2
        go_ret
        exact ⟨by rw [hv.out]; rfl, by ((repeat (first | with_reducible exact Ext.refl _ | with_reducible exact hw | with_reducible exact hb9 | with_reducible exact hb8 | with_reducible exact hb7 | with_reducible exact hb6 | with_reducible exact hb5 | with_reducible exact hb4 | with_reducible exact hb3 | with_reducible exact hb2 | with_reducible exact hb1 | with_reducible refine Ext.alloc ?_ _ | with_reducible refine Ext.drew ?_ | ((with_reducible refine Ext.set ?_ ?_ _); focus (dsimp only; omega)) | with_reducible refine Ext.trans ?_ hb9 | with_reducible refine Ext.trans ?_ hb8 | with_reducible refine Ext.trans ?_ hb7 | with_reducible refine Ext.trans ?_ hb6 | with_reducible refine Ext.trans ?_ hb5 | with_reducible refine Ext.trans ?_ hb4 | with_reducible refine Ext.trans ?_ hb3 | with_reducible refine Ext.trans ?_ hb2 | with_reducible refine Ext.trans ?_ hb1 | with_reducible refine Ext.trans ?_ hw)))⟩
    · have hv := hd (mix_no (x := ⟨st, sz, per⟩) (by dsimp only; omega))
      rw [show inB per 1 8 = false by simp only [inB, Bool.and_eq_false_iff, decide_eq_false_iff_not]; omega] at hi2
      clear a1 a2
      go_enter Tryz.func25, Tryz.ntmps25
      go_wp2
      refine wp_region_ext (by kernel_rfl) (by kernel_rfl) ?_
      repeat (first | go_big_quiet_step ((first | (go_at_call 49; with_reducible exact Calls.ext_all (fun W _ => hi1 W)) | (go_at_call 49; with_reducible exact Calls.ext_all (fun W _ => hi2 W)))) | quiet_step ((first | (go_at_call 49; with_reducible exact Calls.ext_all (fun W _ => hi1 W)) | (go_at_call 49; with_reducible exact Calls.ext_all (fun W _ => hi2 W)))))
      refine wpQuiet_nil ?_
      intro w1 hq1
      have hb1 := ext_of_class hq1
      clear hq1
      obtain ⟨hc1, hf1, hz1⟩ := bcell3 hb1
      try simp at hz1
      go_wp2
      go_ret
      exact ⟨by rw [hv.out]; rfl, by ((repeat (first | with_reducible exact Ext.refl _ | with_reducible exact hw | with_reducible exact hb9 | with_reducible exact hb8 | with_reducible exact hb7 | with_reducible exact hb6 | with_reducible exact hb5 | with_reducible exact hb4 | with_reducible exact hb3 | with_reducible exact hb2 | with_reducible exact hb1 | with_reducible refine Ext.alloc ?_ _ | with_reducible refine Ext.drew ?_ | ((with_reducible refine Ext.set ?_ ?_ _); focus (dsimp only; omega)) | with_reducible refine Ext.trans ?_ hb9 | with_reducible refine Ext.trans ?_ hb8 | with_reducible refine Ext.trans ?_ hb7 | with_reducible refine Ext.trans ?_ hb6 | with_reducible refine Ext.trans ?_ hb5 | with_reducible refine Ext.trans ?_ hb4 | with_reducible refine Ext.trans ?_ hb3 | with_reducible refine Ext.trans ?_ hb2 | with_reducible refine Ext.trans ?_ hb1 | with_reducible refine Ext.trans ?_ hw)))⟩
  · have hv := hd (mix_no (x := ⟨st, sz, per⟩) (by dsimp only; omega))
    rw [show inB sz 4 96 = false by simp only [inB, Bool.and_eq_false_iff, decide_eq_false_iff_not]; omega] at hi1
    clear a1
    go_enter Tryz.func25, Tryz.ntmps25
    go_wp2
    refine wp_region_ext (by kernel_rfl) (by kernel_rfl) ?_
    repeat (first | go_big_quiet_step (((go_at_call 49; with_reducible exact Calls.ext_all (fun W _ => hi1 W)))) | quiet_step (((go_at_call 49; with_reducible exact Calls.ext_all (fun W _ => hi1 W)))))
    refine wpQuiet_nil ?_
    intro w1 hq1
    have hb1 := ext_of_class hq1
    clear hq1
    obtain ⟨hc1, hf1, hz1⟩ := bcell3 hb1
    try simp at hz1
    go_wp2
    go_ret
    exact ⟨by rw [hv.out]; rfl, by ((repeat (first | with_reducible exact Ext.refl _ | with_reducible exact hw | with_reducible exact hb9 | with_reducible exact hb8 | with_reducible exact hb7 | with_reducible exact hb6 | with_reducible exact hb5 | with_reducible exact hb4 | with_reducible exact hb3 | with_reducible exact hb2 | with_reducible exact hb1 | with_reducible refine Ext.alloc ?_ _ | with_reducible refine Ext.drew ?_ | ((with_reducible refine Ext.set ?_ ?_ _); focus (dsimp only; omega)) | with_reducible refine Ext.trans ?_ hb9 | with_reducible refine Ext.trans ?_ hb8 | with_reducible refine Ext.trans ?_ hb7 | with_reducible refine Ext.trans ?_ hb6 | with_reducible refine Ext.trans ?_ hb5 | with_reducible refine Ext.trans ?_ hb4 | with_reducible refine Ext.trans ?_ hb3 | with_reducible refine Ext.trans ?_ hb2 | with_reducible refine Ext.trans ?_ hb1 | with_reducible refine Ext.trans ?_ hw)))⟩
set_option maxHeartbeats 400000 in
theorem impl_wordCheck (s : ByteArray) (hs : s.size ≤ 9223372036854775807) (w : World) :
    Calls Tryz.prog 65 #[.string s] w fun e w' => e = .returned (.int .u32 (chkTo s s.size)) ∧ Ext w w' := by
  go_enter Tryz.func65, Tryz.ntmps65
  go_wp2
  go_loopg [7, 3] s.size (fun g i c wr => ∃ k : Nat, ∃ n : Int, g = s.size - k ∧ k ≤ s.size ∧ i = .int .i64 k ∧ c = .int .u32 n ∧ chkTo s k = n ∧ Ext w wr)
  case atStart => exact ⟨0, 1, by omega, by omega, rfl, rfl, chkTo_zero s, Ext.refl _⟩
  case round =>
    obtain ⟨k, n, hg, hk, rfl, rfl, hN, hw⟩ := hrel
    by_cases hkl : k < s.size
    · have hsu := chkTo_succ s k
      have hgd : s.data.toList.getD k 0 = s[k] := by
        rw [List.getD, List.getElem?_eq_getElem (by simpa using hkl)]
        simp
        rfl
      rw [hN, hgd] at hsu
      have hsu := hd hsu
      clear hgd hN
      go_wp2
      go_roundg (s.size - (k + 1))
      case rel => exact ⟨k + 1, _, rfl, hkl, rfl, rfl, by rw [hsu.out]; omega, hw⟩
      case measure => omega
    · obtain rfl : k = s.size := by omega
      have hN := hd hN
      go_wp2
      go_ret
      exact ⟨by rw [← hN.out]; rfl, hw⟩
set_option maxHeartbeats 400000 in
theorem spec_l03Check (s : ByteArray) (hs : s.size ≤ 9223372036854775807) (w : World) :
    Calls Tryz.prog 99 #[.string s] w fun e w' => e = .returned (.int .u32 (chkTo s s.size)) ∧ Ext w w' := by
  go_enter Tryz.func99, Tryz.ntmps99
  go_wp2
  go_loopg [4, 3] s.size (fun g i c wr => ∃ k : Nat, ∃ n : Int, g = s.size - k ∧ k ≤ s.size ∧ i = .int .i64 k ∧ c = .int .u32 n ∧ chkTo s k = n ∧ Ext w wr)
  case atStart => exact ⟨0, 1, by omega, by omega, rfl, rfl, chkTo_zero s, Ext.refl _⟩
  case round =>
    obtain ⟨k, n, hg, hk, rfl, rfl, hN, hw⟩ := hrel
    by_cases hkl : k < s.size
    · have hsu := chkTo_succ s k
      have hgd : s.data.toList.getD k 0 = s[k] := by
        rw [List.getD, List.getElem?_eq_getElem (by simpa using hkl)]
        simp
        rfl
      rw [hN, hgd] at hsu
      have hsu := hd hsu
      clear hgd hN
      go_wp2
      go_roundg (s.size - (k + 1))
      case rel => exact ⟨k + 1, _, rfl, hkl, rfl, rfl, by rw [hsu.out]; omega, hw⟩
      case measure => omega
    · obtain rfl : k = s.size := by omega
      have hN := hd hN
      go_wp2
      go_ret
      exact ⟨by rw [← hN.out]; rfl, hw⟩
end Go.Proofs.YtegopgpnjgikeaaGreatDoor
set_option linter.unusedVariables false
set_option linter.unusedSimpArgs false
set_option maxRecDepth 100000
namespace Go.Proofs.YtegopgpnjgikeaaGreatDoor
open Go.RowKit
set_option maxHeartbeats 400000 in
theorem spec_l03Put (m : Mask) (h : Int) (h0 : 0 ≤ h) (h1 : h < 128) (b : Nat) (w : World) (hB : BoxAt w b #[.int .u64 (lo m), .int .u64 (hi m)] 47) :
    Calls Tryz.prog 100 #[.pointer (some ⟨b, 0, none⟩), .int .i64 h] w fun e w' => e = .returned (.tuple #[]) ∧ BoxAt w' b #[.int .u64 (lo (mjoin m (mbit h))), .int .u64 (hi (mjoin m (mbit h)))] 47 ∧ w.grownBy w' (some b) := by
  have hx := @ExtOf.cell
  have c0 : w.cell? ⟨b, 0, none⟩ = some (.int .u64 (lo m)) := hB.cell 0
  have c1 : w.cell? ⟨b, 1, none⟩ = some (.int .u64 (hi m)) := hB.cell 1
  have f0 := hB.frozen 0
  have f1 := hB.frozen 1
  have l0 := hB.lt
  by_cases hlo : h < 64
  · have e1 := with_lo m h h0 hlo
    have e0 : IntKind.i64.wrap (h.tdiv 64) = 0 := by rw [Int.tdiv_eq_ediv_of_nonneg h0, show h / 64 = 0 by omega]; rfl
    have e2 : IntKind.u64.wrap (h.tmod 64) = h % 64 := by rw [Int.tmod_eq_emod_of_nonneg h0]; exact IntWalk.u64_in _ (by omega)
    have e3 : min (h % 64).toNat 64 = (h % 64).toNat := by omega
    go_enter Tryz.func100, Tryz.ntmps100
    go_wp2
    refine wp_region_any (by kernel_rfl) ?_
    change wpAny _ _ _ _ _ _ _ (World.drew _)
    refine intro_world (fun WD hWD => ?_)
    have eD : Ext w WD := by rw [hWD]; exact (Ext.refl _).drew
    clear hWD
    have hB := hB.ext eD
    have c0 := eD.cell c0
    have f0 := hB.frozen 0
    have l0 := hB.lt
    refine wpAny_take (i := 0) (v := ?_) rfl (by kernel_rfl) (by kernel_rfl) (by kernel_rfl) (fun _ _ _ h => h) (Or.inl ⟨by rfl, ?_⟩) ?_
    rotate_left
    · (intro W9; go_simp; try with_reducible rfl)
    refine wpAny_take (i := 1) (v := ?_) rfl (by kernel_rfl) (by kernel_rfl) (by kernel_rfl) (fun _ _ _ h => h) (Or.inl ⟨by rfl, ?_⟩) ?_
    rotate_left
    · (intro W9; go_simp; try with_reducible rfl)
    refine wpAny_take (i := 2) (v := ?_) rfl (by kernel_rfl) (by kernel_rfl) (by kernel_rfl) (fun _ _ _ h => h) (Or.inl ⟨by rfl, ?_⟩) ?_
    rotate_left
    · (intro W9; go_simp; try with_reducible rfl)
    refine wpAny_take (i := 3) (v := ?_) rfl (by kernel_rfl) (by kernel_rfl) (by kernel_rfl) (fun _ _ _ h => h) (Or.inl ⟨by rfl, ?_⟩) ?_
    rotate_left
    · (intro W9; go_simp; try with_reducible rfl)
    refine wpAny_take (i := 4) (v := ?_) rfl (by kernel_rfl) (by kernel_rfl) (by kernel_rfl) (fun _ _ _ h => h) (Or.inl ⟨by rfl, ?_⟩) ?_
    rotate_left
    · (intro W9; go_simp; try with_reducible rfl)
    refine wpAny_take (i := 6) (v := ?_) rfl (by kernel_rfl) (by kernel_rfl) (by kernel_rfl) (fun _ _ _ h => h) (Or.inl ⟨by rfl, ?_⟩) ?_
    rotate_left
    · (intro W9; go_simp; try with_reducible rfl)
    refine wpAny_take (i := 7) (v := ?_) rfl (by kernel_rfl) (by kernel_rfl) (by kernel_rfl) (fun _ _ _ h => h) (Or.inl ⟨by rfl, ?_⟩) ?_
    rotate_left
    · (intro W9; go_simp; try with_reducible rfl)
    refine wpAny_take (i := 8) (v := ?_) rfl (by kernel_rfl) (by kernel_rfl) (by kernel_rfl) (fun _ _ _ h => h) (Or.inl ⟨by rfl, ?_⟩) ?_
    rotate_left
    · (intro W9; go_simp; try with_reducible rfl)
    refine wpAny_take (i := 9) (v := ?_) rfl (by kernel_rfl) (by kernel_rfl) (by kernel_rfl) (fun _ _ _ h => h) (Or.inl ⟨by rfl, ?_⟩) ?_
    rotate_left
    · (intro W9; go_simp; try with_reducible rfl)
    refine wpAny_take (i := 11) (v := ?_) rfl (by kernel_rfl) (by kernel_rfl) (by kernel_rfl) (fun _ _ _ h => h) (Or.inl ⟨by rfl, ?_⟩) ?_
    rotate_left
    · (intro W9; go_simp; try with_reducible rfl)
    refine wpAny_ready (rs := [5]) (by kernel_rfl) (by simp) ?_
    refine AllReady.cons rfl (fun K hK => ?_) ?_
    rotate_left
    · exact AllReady.nil
    go_simp
    refine hK _ _ ?_
    clear hK K
    refine wpAny_take (i := 10) (v := ?_) rfl (by kernel_rfl) (by kernel_rfl) (by kernel_rfl) (fun _ _ _ h => h) (Or.inl ⟨by rfl, ?_⟩) ?_
    rotate_left
    · (intro W9; go_simp; try with_reducible rfl)
    refine wpAny_take (i := 12) (v := ?_) rfl (by kernel_rfl) (by kernel_rfl) (by kernel_rfl) (fun _ _ _ h => h) (Or.inl ⟨by rfl, ?_⟩) ?_
    rotate_left
    · (intro W9; go_simp; try with_reducible rfl)
    refine wpAny_ready (rs := [13]) (by kernel_rfl) (by simp) ?_
    refine AllReady.cons rfl (fun K hK => ?_) ?_
    rotate_left
    · exact AllReady.nil
    go_simp
    refine hK _ _ ?_
    clear hK K
    refine wpAny_done (by kernel_rfl) ?_ _
    refine bodyPost_end (results_none rfl _ _ _) rfl ?_
    exact ⟨rfl, by rw [with_lo_z m h h0 hlo]; exact hB.set 0 _, grownBy_set (grownBy_ext (grownBy_refl w _) eD) 0 _⟩
  · have e1 := with_hi m h (by omega) h1
    have e0 : IntKind.i64.wrap (h.tdiv 64) = 1 := by rw [Int.tdiv_eq_ediv_of_nonneg h0, show h / 64 = 1 by omega]; rfl
    have e2 : IntKind.u64.wrap (h.tmod 64) = h % 64 := by rw [Int.tmod_eq_emod_of_nonneg h0]; exact IntWalk.u64_in _ (by omega)
    have e3 : min (h % 64).toNat 64 = (h % 64).toNat := by omega
    go_enter Tryz.func100, Tryz.ntmps100
    go_wp2
    refine wp_region_any (by kernel_rfl) ?_
    change wpAny _ _ _ _ _ _ _ (World.drew _)
    refine intro_world (fun WD hWD => ?_)
    have eD : Ext w WD := by rw [hWD]; exact (Ext.refl _).drew
    clear hWD
    have hB := hB.ext eD
    have c1 := eD.cell c1
    have f1 := hB.frozen 1
    have l0 := hB.lt
    refine wpAny_take (i := 0) (v := ?_) rfl (by kernel_rfl) (by kernel_rfl) (by kernel_rfl) (fun _ _ _ h => h) (Or.inl ⟨by rfl, ?_⟩) ?_
    rotate_left
    · (intro W9; go_simp; try with_reducible rfl)
    refine wpAny_take (i := 1) (v := ?_) rfl (by kernel_rfl) (by kernel_rfl) (by kernel_rfl) (fun _ _ _ h => h) (Or.inl ⟨by rfl, ?_⟩) ?_
    rotate_left
    · (intro W9; go_simp; try with_reducible rfl)
    refine wpAny_take (i := 2) (v := ?_) rfl (by kernel_rfl) (by kernel_rfl) (by kernel_rfl) (fun _ _ _ h => h) (Or.inl ⟨by rfl, ?_⟩) ?_
    rotate_left
    · (intro W9; go_simp; try with_reducible rfl)
    refine wpAny_take (i := 3) (v := ?_) rfl (by kernel_rfl) (by kernel_rfl) (by kernel_rfl) (fun _ _ _ h => h) (Or.inl ⟨by rfl, ?_⟩) ?_
    rotate_left
    · (intro W9; go_simp; try with_reducible rfl)
    refine wpAny_take (i := 4) (v := ?_) rfl (by kernel_rfl) (by kernel_rfl) (by kernel_rfl) (fun _ _ _ h => h) (Or.inl ⟨by rfl, ?_⟩) ?_
    rotate_left
    · (intro W9; go_simp; try with_reducible rfl)
    refine wpAny_take (i := 6) (v := ?_) rfl (by kernel_rfl) (by kernel_rfl) (by kernel_rfl) (fun _ _ _ h => h) (Or.inl ⟨by rfl, ?_⟩) ?_
    rotate_left
    · (intro W9; go_simp; try with_reducible rfl)
    refine wpAny_take (i := 7) (v := ?_) rfl (by kernel_rfl) (by kernel_rfl) (by kernel_rfl) (fun _ _ _ h => h) (Or.inl ⟨by rfl, ?_⟩) ?_
    rotate_left
    · (intro W9; go_simp; try with_reducible rfl)
    refine wpAny_take (i := 8) (v := ?_) rfl (by kernel_rfl) (by kernel_rfl) (by kernel_rfl) (fun _ _ _ h => h) (Or.inl ⟨by rfl, ?_⟩) ?_
    rotate_left
    · (intro W9; go_simp; try with_reducible rfl)
    refine wpAny_take (i := 9) (v := ?_) rfl (by kernel_rfl) (by kernel_rfl) (by kernel_rfl) (fun _ _ _ h => h) (Or.inl ⟨by rfl, ?_⟩) ?_
    rotate_left
    · (intro W9; go_simp; try with_reducible rfl)
    refine wpAny_take (i := 11) (v := ?_) rfl (by kernel_rfl) (by kernel_rfl) (by kernel_rfl) (fun _ _ _ h => h) (Or.inl ⟨by rfl, ?_⟩) ?_
    rotate_left
    · (intro W9; go_simp; try with_reducible rfl)
    refine wpAny_ready (rs := [5]) (by kernel_rfl) (by simp) ?_
    refine AllReady.cons rfl (fun K hK => ?_) ?_
    rotate_left
    · exact AllReady.nil
    go_simp
    refine hK _ _ ?_
    clear hK K
    refine wpAny_take (i := 10) (v := ?_) rfl (by kernel_rfl) (by kernel_rfl) (by kernel_rfl) (fun _ _ _ h => h) (Or.inl ⟨by rfl, ?_⟩) ?_
    rotate_left
    · (intro W9; go_simp; try with_reducible rfl)
    refine wpAny_take (i := 12) (v := ?_) rfl (by kernel_rfl) (by kernel_rfl) (by kernel_rfl) (fun _ _ _ h => h) (Or.inl ⟨by rfl, ?_⟩) ?_
    rotate_left
    · (intro W9; go_simp; try with_reducible rfl)
    refine wpAny_ready (rs := [13]) (by kernel_rfl) (by simp) ?_
    refine AllReady.cons rfl (fun K hK => ?_) ?_
    rotate_left
    · exact AllReady.nil
    go_simp
    refine hK _ _ ?_
    clear hK K
    refine wpAny_done (by kernel_rfl) ?_ _
    refine bodyPost_end (results_none rfl _ _ _) rfl ?_
    exact ⟨rfl, by rw [with_hi_z m h (by omega) h1]; exact hB.set 1 _, grownBy_set (grownBy_ext (grownBy_refl w _) eD) 1 _⟩
set_option maxHeartbeats 1000000 in
theorem impl_wordHoles (x : Mx) (hmx : mixB x = true) (s : ByteArray) (hs : s.size ≤ 9223372036854775807) (w : World) :
    Calls Tryz.prog 46 #[.agg #[.int .i16 x.st, .int .i16 x.sz, .int .i16 x.per], .string s] w fun e w' => e = .returned (.agg #[.int .u64 (lo (wholes x s)), .int .u64 (hi (wholes x s))]) ∧ Ext w w' := by
  have hx := @ExtOf.cell
  obtain ⟨k0, hk0⟩ := whM_rounds x hmx (chkTo s s.size) (chkTo_in s s.size).1 (chkTo_in s s.size).2
  rw [show whM x (chkTo s s.size) = wholes x s from rfl] at hk0
  have ha0 := chkTo_in s s.size
  generalize wholes x s = r at hk0
  obtain ⟨b1, b2, b3, b4, b5, b6, b7⟩ := (mixB_iff x).1 hmx
  obtain ⟨st, sz, per⟩ := x
  dsimp only at b1 b2 b3 b4 b5 b6 b7 hk0
  have wr1 : IntKind.i64.wrap st = st := IntWalk.i64_in _ (by omega)
  have wr2 : IntKind.i64.wrap sz = sz := IntWalk.i64_in _ (by omega)
  have wr3 : IntKind.i64.wrap per = per := IntWalk.i64_in _ (by omega)
  go_enter Tryz.func46, Tryz.ntmps46
  go_wp2_with fail
  refine Calls.mono (impl_wordCheck s hs _) ?_
  generalize chkTo s s.size = a0 at hk0 ha0
  rintro e w1 ⟨rfl, hb1⟩
  have hX : BoxAt w1 w.heap.size #[.int .i16 st, .int .i16 sz, .int .i16 per] 26 := (((BoxAt.new' rfl).alloc _).alloc _).ext hb1
  have hZ : BoxAt w1 (w.heap.size + 1) #[.int .u64 0, .int .u64 0] 47 := ((BoxAt.new' (by simp)).alloc _).ext hb1
  have hM : BoxAt w1 (w.heap.size + 1 + 1) #[.int .u64 (lo 0), .int .u64 (hi 0)] 47 := (BoxAt.new' (by simp)).ext hb1
  have hw1 : Ext w w1 := by ((repeat (first | with_reducible exact Ext.refl _ | with_reducible exact hw | with_reducible exact hb9 | with_reducible exact hb8 | with_reducible exact hb7 | with_reducible exact hb6 | with_reducible exact hb5 | with_reducible exact hb4 | with_reducible exact hb3 | with_reducible exact hb2 | with_reducible exact hb1 | with_reducible refine Ext.alloc ?_ _ | with_reducible refine Ext.drew ?_ | ((with_reducible refine Ext.set ?_ ?_ _); focus (dsimp only; omega)) | with_reducible refine Ext.trans ?_ hb9 | with_reducible refine Ext.trans ?_ hb8 | with_reducible refine Ext.trans ?_ hb7 | with_reducible refine Ext.trans ?_ hb6 | with_reducible refine Ext.trans ?_ hb5 | with_reducible refine Ext.trans ?_ hb4 | with_reducible refine Ext.trans ?_ hb3 | with_reducible refine Ext.trans ?_ hb2 | with_reducible refine Ext.trans ?_ hb1 | with_reducible refine Ext.trans ?_ hw)))
  clear hb1
  go_wp2
  go_loopg [6] k0 (fun g a wr => ∃ (n : Int) (m : Mask), a = .int .u32 n ∧ 0 ≤ n ∧ n < 4294967296 ∧ WH st sz per g n m r ∧ Ext w wr ∧ BoxAt wr (w.heap.size + 1 + 1) #[.int .u64 (lo m), .int .u64 (hi m)] 47 ∧ BoxAt wr (w.heap.size + 1) #[.int .u64 0, .int .u64 0] 47 ∧ BoxAt wr w.heap.size #[.int .i16 st, .int .i16 sz, .int .i16 per] 26)
  case atStart => exact ⟨a0, 0, rfl, ha0.1, ha0.2, hk0, hw1, hM, hZ, hX⟩
  case round =>
    obtain ⟨n, m, rfl, hn0, hn1, hW, hw, hB, hC, hX⟩ := hrel
    have c0 : wr.cell? ⟨w.heap.size + 1 + 1, 0, none⟩ = some (.int .u64 (lo m)) := hB.cell 0
    have c1 : wr.cell? ⟨w.heap.size + 1 + 1, 1, none⟩ = some (.int .u64 (hi m)) := hB.cell 1
    have x0 : wr.cell? ⟨w.heap.size, 0, none⟩ = some (.int .i16 st) := hX.cell 0
    have x1 : wr.cell? ⟨w.heap.size, 1, none⟩ = some (.int .i16 sz) := hX.cell 1
    have x2 : wr.cell? ⟨w.heap.size, 2, none⟩ = some (.int .i16 per) := hX.cell 2
    have lB := hB.lt
    have lX := hX.lt
    cases hW with
    | done _ _ hd1 =>
      have hd2 : decide (mcount r < per) = false := decide_eq_false hd1
      have z0 := hC.frozen 0
      have z1 := hC.frozen 1
      have y0 : wr.cell? ⟨w.heap.size + 1, 0, none⟩ = some (.int .u64 0) := hC.cell 0
      have y1 : wr.cell? ⟨w.heap.size + 1, 1, none⟩ = some (.int .u64 0) := hC.cell 1
      have lC := hC.lt
      go_wp2
      refine wp_region_ext (by kernel_rfl) (by kernel_rfl) ?_
      repeat (first | go_big_quiet_step (((go_at_call 35; with_reducible exact Calls.ext_of (impl_CountHoles r _)))) | quiet_step (((go_at_call 35; with_reducible exact Calls.ext_of (impl_CountHoles r _)))))
      refine wpQuiet_nil ?_
      intro w2 hq2
      have hb2 := ext_of_class hq2
      clear hq2
      obtain ⟨hc2, hf2, hz2⟩ := bcell3 hb2
      try simp at hz2
      go_wp2
      refine bodyPost_ret (v := .agg #[.int .u64 (lo r), .int .u64 (hi r)]) (by simp [results, Tryz.results46, go_sem, hc2, x0, x1, x2, c0, c1, y0, y1, lC, lB]) rfl ⟨rfl, ?_⟩
      (repeat (first | with_reducible exact Ext.refl _ | with_reducible exact hw | with_reducible exact hb9 | with_reducible exact hb8 | with_reducible exact hb7 | with_reducible exact hb6 | with_reducible exact hb5 | with_reducible exact hb4 | with_reducible exact hb3 | with_reducible exact hb2 | with_reducible exact hb1 | with_reducible refine Ext.alloc ?_ _ | with_reducible refine Ext.drew ?_ | ((with_reducible refine Ext.set ?_ ?_ _); focus (dsimp only; omega)) | with_reducible refine Ext.trans ?_ hb9 | with_reducible refine Ext.trans ?_ hb8 | with_reducible refine Ext.trans ?_ hb7 | with_reducible refine Ext.trans ?_ hb6 | with_reducible refine Ext.trans ?_ hb5 | with_reducible refine Ext.trans ?_ hb4 | with_reducible refine Ext.trans ?_ hb3 | with_reducible refine Ext.trans ?_ hb2 | with_reducible refine Ext.trans ?_ hb1 | with_reducible refine Ext.trans ?_ hw))
    | step k _ _ _ hlt hW =>
      have hd2 : decide (mcount m < per) = true := decide_eq_true hlt
      have n0 := nextC_ge n
      have n1 := nextC_lt n
      go_wp2
      refine wp_region_ext (by kernel_rfl) (by kernel_rfl) ?_
      repeat (first | go_big_quiet_step (((go_at_call 35; with_reducible exact Calls.ext_of (impl_CountHoles m _)))) | quiet_step (((go_at_call 35; with_reducible exact Calls.ext_of (impl_CountHoles m _)))))
      refine wpQuiet_nil ?_
      intro w2 hq2
      have hb2 := ext_of_class hq2
      clear hq2
      obtain ⟨hc2, hf2, hz2⟩ := bcell3 hb2
      try simp at hz2
      go_wp2_with fail
      refine Calls.mono (impl_nextChance n hn0 hn1 _) ?_
      rintro e w3 ⟨rfl, hb3⟩
      have hw3 : Ext w w3 := (hw.trans hb2).trans hb3
      have hB := (hB.ext hb2).ext hb3
      have hC := (hC.ext hb2).ext hb3
      have hX := (hX.ext hb2).ext hb3
      clear hc2 hf2 hz2 hb2 hb3 c0 c1 x0 x1 x2 lB lX hw
      generalize nextC n = q at n0 n1 hW ⊢
      have e1 : IntKind.u32.wrap (q.tdiv 65536) = q / 65536 := by rw [Int.tdiv_eq_ediv_of_nonneg n0]; exact IntWalk.u32_in _ (by omega)
      have e2 : IntKind.i64.wrap (q / 65536) = q / 65536 := IntWalk.i64_in _ (by omega)
      have hp0 : 0 ≤ q / 65536 % sz := Int.emod_nonneg _ (by omega)
      have hp1 : q / 65536 % sz < sz := Int.emod_lt_of_pos _ (by omega)
      have e3 : (q / 65536).tmod sz = q / 65536 % sz := Int.tmod_eq_emod_of_nonneg (by omega)
      have e4 : IntKind.i64.wrap (st + q / 65536 % sz) = st + q / 65536 % sz := IntWalk.i64_in _ (by omega)
      have hne : (sz = 0) = False := eq_false (by omega)
      go_wp2
      refine wp_region_any (by kernel_rfl) ?_
      change wpAny _ _ _ _ _ _ _ (World.drew _)
      refine intro_world (fun WD hWD => ?_)
      have eD : Ext w3 WD := by rw [hWD]; exact (Ext.refl _).drew
      clear hWD
      have hB := hB.ext eD
      have hC := hC.ext eD
      have hX := hX.ext eD
      have hwD := hw3.trans eD
      clear eD hw3
      have c0 : WD.cell? ⟨w.heap.size + 1 + 1, 0, none⟩ = some (.int .u64 (lo m)) := hB.cell 0
      have c1 : WD.cell? ⟨w.heap.size + 1 + 1, 1, none⟩ = some (.int .u64 (hi m)) := hB.cell 1
      have x0 : WD.cell? ⟨w.heap.size, 0, none⟩ = some (.int .i16 st) := hX.cell 0
      have x1 : WD.cell? ⟨w.heap.size, 1, none⟩ = some (.int .i16 sz) := hX.cell 1
      have lB := hB.lt
      have lX := hX.lt
      apply Conv.conv (C := fun W => W = WD.alloc (.cells #[.int .i64 (st + q / 65536 % sz)] 2))
      case h =>
        intro hkC
        refine wpAny_take (i := 1) (v := ?_) rfl (by kernel_rfl) (by kernel_rfl) (by kernel_rfl) (fun _ _ _ h => h) (Or.inl ⟨by rfl, ?_⟩) ?_
        rotate_left
        · (intro W9; go_simp; try with_reducible rfl)
        refine wpAny_take (i := 4) (v := ?_) rfl (by kernel_rfl) (by kernel_rfl) (by kernel_rfl) (fun _ _ _ h => h) (Or.inl ⟨by rfl, ?_⟩) ?_
        rotate_left
        · (intro W9; go_simp; try with_reducible rfl)
        refine wpAny_take (i := 5) (v := ?_) rfl (by kernel_rfl) (by kernel_rfl) (by kernel_rfl) (fun _ _ _ h => h) (Or.inl ⟨by rfl, ?_⟩) ?_
        rotate_left
        · (intro W9; go_simp; try with_reducible rfl)
        refine wpAny_take (i := 6) (v := ?_) rfl (by kernel_rfl) (by kernel_rfl) (by kernel_rfl) (fun _ _ _ h => h) (Or.inl ⟨by rfl, ?_⟩) ?_
        rotate_left
        · (intro W9; go_simp; try with_reducible rfl)
        refine wpAny_take (i := 7) (v := ?_) rfl (by kernel_rfl) (by kernel_rfl) (by kernel_rfl) (fun _ _ _ h => h) (Or.inl ⟨by rfl, ?_⟩) ?_
        rotate_left
        · (intro W9; go_simp; try with_reducible rfl)
        refine wpAny_ready (rs := [0, 2, 8]) (by kernel_rfl) (by simp) ?_
        refine AllReady.cons rfl (fun K hK => ?_) (AllReady.cons rfl (fun K hK => ?_) (AllReady.cons rfl (fun K hK => ?_) (AllReady.nil)))
        · go_simp
          refine hK _ _ ?_
          clear hK K
          refine wpAny_ready (rs := [2, 8]) (by kernel_rfl) (by simp) ?_
          refine AllReady.cons rfl (fun K hK => ?_) (AllReady.cons rfl (fun K hK => ?_) (AllReady.nil))
          · go_simp
            refine hK _ _ ?_
            clear hK K
            refine wpAny_take (i := 3) (v := ?_) rfl (by kernel_rfl) (by kernel_rfl) (by kernel_rfl) (fun _ _ _ h => h) (Or.inl ⟨by rfl, ?_⟩) ?_
            rotate_left
            · (intro W9; go_simp; try with_reducible rfl)
            refine wpAny_ready (rs := [8]) (by kernel_rfl) (by simp) ?_
            refine AllReady.cons rfl (fun K hK => ?_) (AllReady.nil)
            · go_simp
              refine hK _ _ ?_
              clear hK K
              refine wpAny_take (i := 9) (v := ?_) rfl (by kernel_rfl) (by kernel_rfl) (by kernel_rfl) (fun _ _ _ h => h) (Or.inl ⟨by rfl, ?_⟩) ?_
              rotate_left
              · (intro W9; go_simp; try with_reducible rfl)
              refine wpAny_take (i := 10) (v := ?_) rfl (by kernel_rfl) (by kernel_rfl) (by kernel_rfl) (fun _ _ _ h => h) (Or.inl ⟨by rfl, ?_⟩) ?_
              rotate_left
              · (intro W9; go_simp; try with_reducible rfl)
              refine wpAny_take (i := 11) (v := ?_) rfl (by kernel_rfl) (by kernel_rfl) (by kernel_rfl) (fun _ _ _ h => h) (Or.inl ⟨by rfl, ?_⟩) ?_
              rotate_left
              · (intro W9; go_simp; try with_reducible rfl)
              refine wpAny_ready (rs := [12]) (by kernel_rfl) (by simp) ?_
              refine AllReady.cons rfl (fun K hK => ?_) (AllReady.nil)
              · go_simp
                refine hK _ _ ?_
                clear hK K
                exact hkC _ (rfl)
          · go_simp
            refine hK _ _ ?_
            clear hK K
            refine wpAny_take (i := 9) (v := ?_) rfl (by kernel_rfl) (by kernel_rfl) (by kernel_rfl) (fun _ _ _ h => h) (Or.inl ⟨by rfl, ?_⟩) ?_
            rotate_left
            · (intro W9; go_simp; try with_reducible rfl)
            refine wpAny_take (i := 10) (v := ?_) rfl (by kernel_rfl) (by kernel_rfl) (by kernel_rfl) (fun _ _ _ h => h) (Or.inl ⟨by rfl, ?_⟩) ?_
            rotate_left
            · (intro W9; go_simp; try with_reducible rfl)
            refine wpAny_ready (rs := [2]) (by kernel_rfl) (by simp) ?_
            refine AllReady.cons rfl (fun K hK => ?_) (AllReady.nil)
            · go_simp
              refine hK _ _ ?_
              clear hK K
              refine wpAny_take (i := 3) (v := ?_) rfl (by kernel_rfl) (by kernel_rfl) (by kernel_rfl) (fun _ _ _ h => h) (Or.inl ⟨by rfl, ?_⟩) ?_
              rotate_left
              · (intro W9; go_simp; try with_reducible rfl)
              refine wpAny_take (i := 11) (v := ?_) rfl (by kernel_rfl) (by kernel_rfl) (by kernel_rfl) (fun _ _ _ h => h) (Or.inl ⟨by rfl, ?_⟩) ?_
              rotate_left
              · (intro W9; go_simp; try with_reducible rfl)
              refine wpAny_ready (rs := [12]) (by kernel_rfl) (by simp) ?_
              refine AllReady.cons rfl (fun K hK => ?_) (AllReady.nil)
              · go_simp
                refine hK _ _ ?_
                clear hK K
                exact hkC _ (rfl)
        · go_simp
          refine hK _ _ ?_
          clear hK K
          refine wpAny_take (i := 3) (v := ?_) rfl (by kernel_rfl) (by kernel_rfl) (by kernel_rfl) (fun _ _ _ h => h) (Or.inl ⟨by rfl, ?_⟩) ?_
          rotate_left
          · (intro W9; go_simp; try with_reducible rfl)
          refine wpAny_ready (rs := [0, 8]) (by kernel_rfl) (by simp) ?_
          refine AllReady.cons rfl (fun K hK => ?_) (AllReady.cons rfl (fun K hK => ?_) (AllReady.nil))
          · go_simp
            refine hK _ _ ?_
            clear hK K
            refine wpAny_ready (rs := [8]) (by kernel_rfl) (by simp) ?_
            refine AllReady.cons rfl (fun K hK => ?_) (AllReady.nil)
            · go_simp
              refine hK _ _ ?_
              clear hK K
              refine wpAny_take (i := 9) (v := ?_) rfl (by kernel_rfl) (by kernel_rfl) (by kernel_rfl) (fun _ _ _ h => h) (Or.inl ⟨by rfl, ?_⟩) ?_
              rotate_left
              · (intro W9; go_simp; try with_reducible rfl)
              refine wpAny_take (i := 10) (v := ?_) rfl (by kernel_rfl) (by kernel_rfl) (by kernel_rfl) (fun _ _ _ h => h) (Or.inl ⟨by rfl, ?_⟩) ?_
              rotate_left
              · (intro W9; go_simp; try with_reducible rfl)
              refine wpAny_take (i := 11) (v := ?_) rfl (by kernel_rfl) (by kernel_rfl) (by kernel_rfl) (fun _ _ _ h => h) (Or.inl ⟨by rfl, ?_⟩) ?_
              rotate_left
              · (intro W9; go_simp; try with_reducible rfl)
              refine wpAny_ready (rs := [12]) (by kernel_rfl) (by simp) ?_
              refine AllReady.cons rfl (fun K hK => ?_) (AllReady.nil)
              · go_simp
                refine hK _ _ ?_
                clear hK K
                exact hkC _ (rfl)
          · go_simp
            refine hK _ _ ?_
            clear hK K
            refine wpAny_take (i := 9) (v := ?_) rfl (by kernel_rfl) (by kernel_rfl) (by kernel_rfl) (fun _ _ _ h => h) (Or.inl ⟨by rfl, ?_⟩) ?_
            rotate_left
            · (intro W9; go_simp; try with_reducible rfl)
            refine wpAny_take (i := 10) (v := ?_) rfl (by kernel_rfl) (by kernel_rfl) (by kernel_rfl) (fun _ _ _ h => h) (Or.inl ⟨by rfl, ?_⟩) ?_
            rotate_left
            · (intro W9; go_simp; try with_reducible rfl)
            refine wpAny_take (i := 11) (v := ?_) rfl (by kernel_rfl) (by kernel_rfl) (by kernel_rfl) (fun _ _ _ h => h) (Or.inl ⟨by rfl, ?_⟩) ?_
            rotate_left
            · (intro W9; go_simp; try with_reducible rfl)
            refine wpAny_ready (rs := [0, 12]) (by kernel_rfl) (by simp) ?_
            refine AllReady.cons rfl (fun K hK => ?_) (AllReady.cons rfl (fun K hK => ?_) (AllReady.nil))
            · go_simp
              refine hK _ _ ?_
              clear hK K
              refine wpAny_ready (rs := [12]) (by kernel_rfl) (by simp) ?_
              refine AllReady.cons rfl (fun K hK => ?_) (AllReady.nil)
              · go_simp
                refine hK _ _ ?_
                clear hK K
                exact hkC _ (rfl)
            · go_simp
              refine hK _ _ ?_
              clear hK K
              refine wpAny_ready (rs := [0]) (by kernel_rfl) (by simp) ?_
              refine AllReady.cons rfl (fun K hK => ?_) (AllReady.nil)
              · go_simp
                refine hK _ _ ?_
                clear hK K
                exact hkC _ (rfl)
        · go_simp
          refine hK _ _ ?_
          clear hK K
          refine wpAny_take (i := 9) (v := ?_) rfl (by kernel_rfl) (by kernel_rfl) (by kernel_rfl) (fun _ _ _ h => h) (Or.inl ⟨by rfl, ?_⟩) ?_
          rotate_left
          · (intro W9; go_simp; try with_reducible rfl)
          refine wpAny_take (i := 10) (v := ?_) rfl (by kernel_rfl) (by kernel_rfl) (by kernel_rfl) (fun _ _ _ h => h) (Or.inl ⟨by rfl, ?_⟩) ?_
          rotate_left
          · (intro W9; go_simp; try with_reducible rfl)
          refine wpAny_ready (rs := [0, 2]) (by kernel_rfl) (by simp) ?_
          refine AllReady.cons rfl (fun K hK => ?_) (AllReady.cons rfl (fun K hK => ?_) (AllReady.nil))
          · go_simp
            refine hK _ _ ?_
            clear hK K
            refine wpAny_ready (rs := [2]) (by kernel_rfl) (by simp) ?_
            refine AllReady.cons rfl (fun K hK => ?_) (AllReady.nil)
            · go_simp
              refine hK _ _ ?_
              clear hK K
              refine wpAny_take (i := 3) (v := ?_) rfl (by kernel_rfl) (by kernel_rfl) (by kernel_rfl) (fun _ _ _ h => h) (Or.inl ⟨by rfl, ?_⟩) ?_
              rotate_left
              · (intro W9; go_simp; try with_reducible rfl)
              refine wpAny_take (i := 11) (v := ?_) rfl (by kernel_rfl) (by kernel_rfl) (by kernel_rfl) (fun _ _ _ h => h) (Or.inl ⟨by rfl, ?_⟩) ?_
              rotate_left
              · (intro W9; go_simp; try with_reducible rfl)
              refine wpAny_ready (rs := [12]) (by kernel_rfl) (by simp) ?_
              refine AllReady.cons rfl (fun K hK => ?_) (AllReady.nil)
              · go_simp
                refine hK _ _ ?_
                clear hK K
                exact hkC _ (rfl)
          · go_simp
            refine hK _ _ ?_
            clear hK K
            refine wpAny_take (i := 3) (v := ?_) rfl (by kernel_rfl) (by kernel_rfl) (by kernel_rfl) (fun _ _ _ h => h) (Or.inl ⟨by rfl, ?_⟩) ?_
            rotate_left
            · (intro W9; go_simp; try with_reducible rfl)
            refine wpAny_take (i := 11) (v := ?_) rfl (by kernel_rfl) (by kernel_rfl) (by kernel_rfl) (fun _ _ _ h => h) (Or.inl ⟨by rfl, ?_⟩) ?_
            rotate_left
            · (intro W9; go_simp; try with_reducible rfl)
            refine wpAny_ready (rs := [0, 12]) (by kernel_rfl) (by simp) ?_
            refine AllReady.cons rfl (fun K hK => ?_) (AllReady.cons rfl (fun K hK => ?_) (AllReady.nil))
            · go_simp
              refine hK _ _ ?_
              clear hK K
              refine wpAny_ready (rs := [12]) (by kernel_rfl) (by simp) ?_
              refine AllReady.cons rfl (fun K hK => ?_) (AllReady.nil)
              · go_simp
                refine hK _ _ ?_
                clear hK K
                exact hkC _ (rfl)
            · go_simp
              refine hK _ _ ?_
              clear hK K
              refine wpAny_ready (rs := [0]) (by kernel_rfl) (by simp) ?_
              refine AllReady.cons rfl (fun K hK => ?_) (AllReady.nil)
              · go_simp
                refine hK _ _ ?_
                clear hK K
                exact hkC _ (rfl)
      intro W5 hW5
      have e5 : Ext WD W5 := by rw [hW5]; exact (Ext.refl _).alloc _
      have hL : Rd encI64 W5 (some ⟨WD.heap.size, 0, none⟩) [st + q / 65536 % sz] := by rw [hW5]; exact Rd.lit encI64 _ [st + q / 65536 % sz] _ _ (by simp) rfl
      have hB := hB.ext e5
      have hC := hC.ext e5
      have hX := hX.ext e5
      have hw5 := hwD.trans e5
      clear hW5 c0 c1 x0 x1 lB lX
      refine wpAny_ready (rs := [13]) (by kernel_rfl) (by simp) ?_
      refine AllReady.cons rfl (fun K hK => ?_) ?_
      rotate_left
      · exact AllReady.nil
      go_simp
      go_wp2_with fail
      refine Calls.mono (impl_with m [st + q / 65536 % sz] _ 1 _ hL (by simp) (by simp; omega)) ?_
      rintro e W6 ⟨rfl, hb6⟩
      rw [mwith_one]
      have hB := hB.ext hb6
      have hC := hC.ext hb6
      have hX := hX.ext hb6
      have hw6 := hw5.trans hb6
      have f0 := hB.frozen 0
      have f1 := hB.frozen 1
      have c0 : W6.cell? ⟨w.heap.size + 1 + 1, 0, none⟩ = some (.int .u64 (lo m)) := hB.cell 0
      have c1 : W6.cell? ⟨w.heap.size + 1 + 1, 1, none⟩ = some (.int .u64 (hi m)) := hB.cell 1
      have lB := hB.lt
      clear hb6
      go_wp2_with fail
      refine wpAny_ready (rs := [14]) (by kernel_rfl) (by simp) ?_
      refine AllReady.cons rfl (fun K hK => ?_) ?_
      rotate_left
      · exact AllReady.nil
      go_simp
      refine hK _ _ ?_
      clear hK K
      refine wpAny_done (by kernel_rfl) ?_ _
      go_wp2
      go_roundg k
      case rel => exact ⟨q, _, rfl, n0, n1, hW, Ext.set (by dsimp only; omega) (Ext.set (by dsimp only; omega) hw6 _) _, (hB.set 0 _).set 1 _, (hC.setOther (by simp) _).setOther (by simp) _, (hX.setOther (by simp; omega) _).setOther (by simp; omega) _⟩
      case measure => omega
set_option maxHeartbeats 1000000 in
theorem spec_l03Holes (x : Mx) (hmx : mixB x = true) (s : ByteArray) (hs : s.size ≤ 9223372036854775807) (b o : Nat) (w : World) (hA : MixAt w b o x) :
    Calls Tryz.prog 78 #[.pointer (some ⟨b, o, none⟩), .string s] w fun e w' => e = .returned (.agg #[.int .u64 (lo (wholes x s)), .int .u64 (hi (wholes x s))]) ∧ Ext w w' := by
  have hx := @ExtOf.cell
  obtain ⟨k0, hk0⟩ := whM_rounds x hmx (chkTo s s.size) (chkTo_in s s.size).1 (chkTo_in s s.size).2
  rw [show whM x (chkTo s s.size) = wholes x s from rfl] at hk0
  have ha0 := chkTo_in s s.size
  generalize wholes x s = r at hk0
  obtain ⟨b1, b2, b3, b4, b5, b6, b7⟩ := (mixB_iff x).1 hmx
  obtain ⟨st, sz, per⟩ := x
  dsimp only at b1 b2 b3 b4 b5 b6 b7 hk0
  have wr1 : IntKind.i64.wrap st = st := IntWalk.i64_in _ (by omega)
  have wr2 : IntKind.i64.wrap sz = sz := IntWalk.i64_in _ (by omega)
  have wr3 : IntKind.i64.wrap per = per := IntWalk.i64_in _ (by omega)
  have hlA := hA.lt
  go_enter Tryz.func78, Tryz.ntmps78
  go_wp2_with fail
  refine Calls.mono (spec_l03Check s hs _) ?_
  generalize chkTo s s.size = a0 at hk0 ha0
  rintro e w1 ⟨rfl, hb1⟩
  have hZ : BoxAt w1 w.heap.size #[.int .u64 0, .int .u64 0] 47 := (BoxAt.new' rfl).ext hb1
  have hw1 : Ext w w1 := ((Ext.refl _).alloc _).trans hb1
  have hz1 := hb1.size
  simp at hz1
  clear hb1
  go_wp2
  go_loopg [5] k0 (fun g a wr => ∃ (n : Int) (m : Mask), a = .int .u32 n ∧ 0 ≤ n ∧ n < 4294967296 ∧ WH st sz per g n m r ∧ Ext w wr ∧ BoxAt wr w1.heap.size #[.int .u64 (lo m), .int .u64 (hi m)] 47 ∧ BoxAt wr w.heap.size #[.int .u64 0, .int .u64 0] 47)
  case atStart => exact ⟨a0, 0, rfl, ha0.1, ha0.2, hk0, hw1.alloc _, BoxAt.new' rfl, hZ.alloc _⟩
  case round =>
    obtain ⟨n, m, rfl, hn0, hn1, hW, hw, hB, hC⟩ := hrel
    have c0 : wr.cell? ⟨w1.heap.size, 0, none⟩ = some (.int .u64 (lo m)) := hB.cell 0
    have c1 : wr.cell? ⟨w1.heap.size, 1, none⟩ = some (.int .u64 (hi m)) := hB.cell 1
    obtain ⟨x0, x1, x2⟩ := hA.ext hw
    dsimp only at x0 x1 x2
    have lB := hB.lt
    have lX := Nat.lt_of_lt_of_le hlA hw.size
    cases hW with
    | done _ _ hd1 =>
      have hd2 : decide (mcount r < per) = false := decide_eq_false hd1
      have z0 := hC.frozen 0
      have z1 := hC.frozen 1
      have y0 : wr.cell? ⟨w.heap.size, 0, none⟩ = some (.int .u64 0) := hC.cell 0
      have y1 : wr.cell? ⟨w.heap.size, 1, none⟩ = some (.int .u64 0) := hC.cell 1
      have lC := hC.lt
      go_wp2
      refine wp_region_ext (by kernel_rfl) (by kernel_rfl) ?_
      repeat (first | go_big_quiet_step (((go_at_call 16; with_reducible exact Calls.ext_of (spec_CountHoles r _)))) | quiet_step (((go_at_call 16; with_reducible exact Calls.ext_of (spec_CountHoles r _)))))
      refine wpQuiet_nil ?_
      intro w2 hq2
      have hb2 := ext_of_class hq2
      clear hq2
      obtain ⟨hc2, hf2, hz2⟩ := bcell3 hb2
      try simp at hz2
      go_wp2
      refine bodyPost_ret (v := .agg #[.int .u64 (lo r), .int .u64 (hi r)]) (by simp [results, Tryz.results78, go_sem, hc2, c0, c1, y0, y1, lC, lB]) rfl ⟨rfl, ?_⟩
      (repeat (first | with_reducible exact Ext.refl _ | with_reducible exact hw | with_reducible exact hb9 | with_reducible exact hb8 | with_reducible exact hb7 | with_reducible exact hb6 | with_reducible exact hb5 | with_reducible exact hb4 | with_reducible exact hb3 | with_reducible exact hb2 | with_reducible exact hb1 | with_reducible refine Ext.alloc ?_ _ | with_reducible refine Ext.drew ?_ | ((with_reducible refine Ext.set ?_ ?_ _); focus (dsimp only; omega)) | with_reducible refine Ext.trans ?_ hb9 | with_reducible refine Ext.trans ?_ hb8 | with_reducible refine Ext.trans ?_ hb7 | with_reducible refine Ext.trans ?_ hb6 | with_reducible refine Ext.trans ?_ hb5 | with_reducible refine Ext.trans ?_ hb4 | with_reducible refine Ext.trans ?_ hb3 | with_reducible refine Ext.trans ?_ hb2 | with_reducible refine Ext.trans ?_ hb1 | with_reducible refine Ext.trans ?_ hw))
    | step k _ _ _ hlt hW =>
      have hd2 : decide (mcount m < per) = true := decide_eq_true hlt
      have n0 := nextC_ge n
      have n1 := nextC_lt n
      have hq : (1664525 * n % 4294967296 + 1013904223) % 4294967296 = nextC n := by unfold nextC; rfl
      generalize nextC n = q at n0 n1 hW hq
      have e2 : IntKind.i64.wrap (q / 65536) = q / 65536 := IntWalk.i64_in _ (by omega)
      have hp0 : 0 ≤ q / 65536 % sz := Int.emod_nonneg _ (by omega)
      have hp1 : q / 65536 % sz < sz := Int.emod_lt_of_pos _ (by omega)
      have e3 : (q / 65536).tmod sz = q / 65536 % sz := Int.tmod_eq_emod_of_nonneg (by omega)
      have e4 : IntKind.i64.wrap (st + q / 65536 % sz) = st + q / 65536 % sz := IntWalk.i64_in _ (by omega)
      have hne : (sz = 0) = False := eq_false (by omega)
      go_wp2
      refine wp_region_ext (by kernel_rfl) (by kernel_rfl) ?_
      repeat (first | go_big_quiet_step (((go_at_call 16; with_reducible exact Calls.ext_of (spec_CountHoles m _)))) | quiet_step (((go_at_call 16; with_reducible exact Calls.ext_of (spec_CountHoles m _)))))
      refine wpQuiet_nil ?_
      intro w2 hq2
      have hb2 := ext_of_class hq2
      clear hq2
      obtain ⟨hc2, hf2, hz2⟩ := bcell3 hb2
      try simp at hz2
      have hw2 := hw.trans hb2
      have hB := hB.ext hb2
      have hC := hC.ext hb2
      obtain ⟨x0, x1, x2⟩ := hA.ext hw2
      dsimp only at x0 x1 x2
      clear hc2 hf2 hz2 hb2 c0 c1 lB lX hw
      have lB := hB.lt
      have lX := Nat.lt_of_lt_of_le hlA hw2.size
      go_wp2
      refine wp_region_ext_tail 15 15 (by kernel_rfl) (by kernel_rfl) (by intro d _ _ _ _ h; cases d <;> exact h) ?_
      simp only [List.take_succ_cons, List.take_zero, List.drop_succ_cons, List.drop_zero]
      repeat (first | go_big_quiet_step (fail) | quiet_step (fail))
      refine wpQuiet_nil ?_
      intro w3 hq3
      have hb3 := ext_of_class hq3
      clear hq3
      obtain ⟨hc3, hf3, hz3⟩ := bcell3 hb3
      try simp at hz3
      have hw3 := hw2.trans hb3
      have hB := hB.ext hb3
      have hC := hC.ext hb3
      clear hc3 hf3 hz3 hb3 hw2 lB lX x0 x1 x2
      go_wp2_with fail
      refine Calls.mono (spec_l03Put m (st + q / 65536 % sz) (by omega) (by omega) _ _ hB) ?_
      rintro e w4 ⟨rfl, hB4, hg4⟩
      have hC4 : BoxAt w4 w.heap.size #[.int .u64 0, .int .u64 0] 47 := (hg4.block _ hC.lt (by intro e; simp only [Option.some.injEq] at e; omega)).trans hC
      go_wp2
      go_roundg k
      case rel => exact ⟨q, _, rfl, n0, n1, hW, hw3.trans' hg4 (fun k hk => by simp only [Option.some.injEq] at hk; omega), hB4, hC4⟩
      case measure => omega
end Go.Proofs.YtegopgpnjgikeaaGreatDoor
set_option linter.unusedVariables false
set_option linter.unusedSimpArgs false
set_option maxRecDepth 100000
namespace Go.Proofs.YtegopgpnjgikeaaGreatDoor
open Go.RowKit
theorem Rd.strs {w : World} {b off : Nat} {xs : List ByteArray} (h : Rd encStr w (some ⟨b, off, none⟩) xs) (k : Nat) (hk : k < xs.length) :
    w.cell? ⟨b, off + k, none⟩ = some (.string xs[k]) ∧ b < w.heap.size := ⟨h.str k hk, World.block_lt_of_cell? _ _ (h.str k hk)⟩
def StrIn (s : ByteArray) : Prop := s.size ≤ 9223372036854775807
/-- Are there at most so many words? -/
def wordsB (ws : List ByteArray) (most : Int) : Bool := decide ((ws.length : Int) ≤ most) && ws.all isNameB
def wordsF (ws : List ByteArray) (most : Int) : Int := if wordsB ws most = true then 0 else 2
/-- The code of a mix, masks and words. -/
def askF (x : Mx) (ms : List Mask) (ws : List ByteArray) (most : Int) : Int :=
  if (mixB x && ms.all isMaskB) = true then (if (decide (ms.length ≤ 60) && wordsB ws most) = true then 0 else 2) else 1
theorem ask_bad {x : Mx} {ms : List Mask} {ws : List ByteArray} {most : Int} (h : (mixB x && ms.all isMaskB) = false) : askF x ms ws most = 1 := by unfold askF; rw [h]; rfl
theorem ask_far {x : Mx} {ms : List Mask} {ws : List ByteArray} {most : Int} (h : (mixB x && ms.all isMaskB) = true) (h2 : (decide (ms.length ≤ 60) && wordsB ws most) = false) : askF x ms ws most = 2 := by unfold askF; rw [h, h2]; rfl
theorem ask_ok {x : Mx} {ms : List Mask} {ws : List ByteArray} {most : Int} (h : (mixB x && ms.all isMaskB) = true) (h2 : (decide (ms.length ≤ 60) && wordsB ws most) = true) : askF x ms ws most = 0 := by unfold askF; rw [h, h2]; rfl
theorem ask_words {x : Mx} {ms : List Mask} {ws : List ByteArray} {most : Int} (h : (mixB x && ms.all isMaskB) = true) (h2 : ms.length ≤ 60) : askF x ms ws most = wordsF ws most := by
  unfold askF wordsF; rw [h, decide_eq_true h2, Bool.true_and]; rfl
theorem ask_zero {x : Mx} {ms : List Mask} {ws : List ByteArray} {most : Int} (h : askF x ms ws most = 0) : mixB x = true ∧ ms.all isMaskB = true ∧ ms.length ≤ 60 ∧ (ws.length : Int) ≤ most ∧ ws.all isNameB = true := by
  unfold askF at h
  split at h
  · rename_i h1
    split at h
    · rename_i h2
      simp only [wordsB, Bool.and_eq_true, decide_eq_true_eq] at h1 h2
      exact ⟨h1.1, h1.2, h2.1, h2.2.1, h2.2.2⟩
    · omega
  · omega
theorem wordsF_bad {ws : List ByteArray} {most : Int} (h : wordsB ws most = false) : wordsF ws most = 2 := by unfold wordsF; rw [h]; rfl
theorem wordsF_ok {ws : List ByteArray} {most : Int} (h : wordsB ws most = true) : wordsF ws most = 0 := by unfold wordsF; rw [h]; rfl
theorem lohi_win (m n : Mask) : (lo (mless m n) == 0 && hi (mless m n) == 0) = mwin m n := lohi_zero (mless m n)
set_option maxHeartbeats 400000 in
theorem spec_l03Word (s : ByteArray) (w : World) (hs : s.size ≤ 9223372036854775807) :
    Calls Tryz.prog 70 #[.string s] w fun e w' => e = .returned (.bool (isNameB s)) ∧ Ext w w' := by
  go_enter Tryz.func70, Tryz.ntmps70
  go_wp2
  go_loopg [3] s.size (fun g i wr => ∃ k : Nat, g = s.size - k ∧ k ≤ s.size ∧ i = .int .i64 k ∧ Ext w wr ∧ (s.data.toList.take k).all isLow = true)
  case atStart => exact ⟨0, by omega, by omega, rfl, Ext.refl _, by rw [List.take_zero]; rfl⟩
  case round =>
    obtain ⟨k, hg, hk, rfl, hw, hQ⟩ := hrel
    by_cases hkl : k < s.size
    · have hk2 : k < s.data.toList.length := hkl
      have hT := all_take isLow s.data.toList k hk2
      rw [hQ, Bool.true_and, show s.data.toList[k] = s[k] from rfl] at hT
      by_cases ha : s[k].toNat < 97
      · have hv : isNameB s = false := by
          have := all_miss isLow s.data.toList k hk2 (by rw [show s.data.toList[k] = s[k] from rfl, isLow, Bool.and_eq_false_iff, decide_eq_false_iff_not, decide_eq_false_iff_not]; omega)
          simp [isNameB, this]
        have d1 : ((s[k].toNat : Int) < 97) = True := by simp; omega
        clear hT hQ
        go_wp2
        go_ret
        exact ⟨by first | rfl | (rw [hv]; rfl), hw⟩
      · by_cases hb : 122 < s[k].toNat
        · have hv : isNameB s = false := by
            have := all_miss isLow s.data.toList k hk2 (by rw [show s.data.toList[k] = s[k] from rfl, isLow, Bool.and_eq_false_iff, decide_eq_false_iff_not, decide_eq_false_iff_not]; omega)
            simp [isNameB, this]
          have d1 : ((s[k].toNat : Int) < 97) = False := by simp; omega
          have d2 : ((122 : Int) < (s[k].toNat : Int)) = True := by simp; omega
          clear hT hQ
          go_wp2
          go_ret
          exact ⟨by first | rfl | (rw [hv]; rfl), hw⟩
        · have hT2 : (s.data.toList.take (k + 1)).all isLow = true := by rw [hT]; simp [isLow]; omega
          have d1 : ((s[k].toNat : Int) < 97) = False := by simp; omega
          have d2 : ((122 : Int) < (s[k].toNat : Int)) = False := by simp; omega
          have hT2' := hd hT2
          clear hT hT2 hQ
          go_wp2
          go_roundg (s.size - (k + 1))
          case rel => exact ⟨k + 1, rfl, hkl, rfl, hw, hT2'.out⟩
          case measure => omega
    · obtain rfl : k = s.size := by omega
      rw [show s.data.toList.take s.size = s.data.toList from List.take_length] at hQ
      have hl : s.data.toList.length = s.size := rfl
      by_cases h0 : s.size = 0
      · have hv : isNameB s = false := by simp [isNameB, h0]
        have hE : s.toList.isEmpty = true := by rw [ByteArray.toList_eq, List.isEmpty_iff, ← List.length_eq_zero_iff]; omega
        clear hQ
        go_wp2
        go_ret
        exact ⟨by first | rfl | (rw [hv]; rfl), hw⟩
      · have hE : s.toList.isEmpty = false := by
          rw [ByteArray.toList_eq]
          cases hq : s.data.toList with
          | nil => rw [hq] at hl; simp at hl; omega
          | cons => rfl
        have hv := hd (show isNameB s = decide ((s.size : Int) ≤ 16) by
          simp only [isNameB, hQ, Bool.and_true]
          rw [decide_eq_true (show 1 ≤ s.size by omega), Bool.true_and, decide_eq_decide]
          omega)
        clear hQ
        go_wp2
        go_ret
        exact ⟨by rw [hv.out]; rfl, hw⟩
set_option maxHeartbeats 400000 in
theorem spec_l03Words (ws : List ByteArray) (A : Option Addr) (cap : Nat) (most : Int) (w : World) (hR : Rd encStr w A ws) (hn : ws.length ≤ 1048576) (hok : ∀ x ∈ ws, StrIn x) :
    Calls Tryz.prog 50 #[.slice A ws.length cap, .int .i64 most] w fun e w' => e = .returned (.int .i64 (wordsF ws most)) ∧ Ext w w' := by
  by_cases hl : (ws.length : Int) ≤ most
  · go_enter Tryz.func50, Tryz.ntmps50
    go_wp2
    go_loopg [5] ws.length (fun g i wr => ∃ k : Nat, g = ws.length - k ∧ k ≤ ws.length ∧ i = .int .i64 k ∧ Hd ((ws.take k).all isNameB = true) ∧ Ext w wr)
    case atStart => exact ⟨0, by omega, by omega, rfl, hd (by rw [List.take_zero]; rfl), Ext.refl _⟩
    case round =>
      obtain ⟨k, hg, hk, rfl, hC, hw⟩ := hrel
      by_cases hkl : k < ws.length
      · obtain ⟨b, off, hA, hlt, _⟩ := hR k hkl
        subst hA
        obtain ⟨m0, m1⟩ := (hR.ext hw).strs k hkl
        have hs := all_take isNameB ws k hkl
        rw [hC.out, Bool.true_and] at hs
        have hs := hd hs
        have hmiss := fun h => hd (all_miss isNameB ws k hkl h)
        have hcall := fun W => spec_l03Word ws[k] W (hok _ (List.getElem_mem hkl))
        cases hq : isNameB ws[k] with
        | true =>
          have hs2 := hd (hs.out.trans hq)
          rw [hq] at hcall
          clear hs hmiss hq
          go_wp2_with fail
          refine Calls.mono (hcall _) ?_
          rintro e w1 ⟨rfl, hb1⟩
          go_wp2
          go_roundg (ws.length - (k + 1))
          case rel => exact ⟨k + 1, rfl, hkl, rfl, hs2, by ((repeat (first | with_reducible exact Ext.refl _ | with_reducible exact hw | with_reducible exact hb9 | with_reducible exact hb8 | with_reducible exact hb7 | with_reducible exact hb6 | with_reducible exact hb5 | with_reducible exact hb4 | with_reducible exact hb3 | with_reducible exact hb2 | with_reducible exact hb1 | with_reducible refine Ext.alloc ?_ _ | with_reducible refine Ext.drew ?_ | ((with_reducible refine Ext.set ?_ ?_ _); focus (dsimp only; omega)) | with_reducible refine Ext.trans ?_ hb9 | with_reducible refine Ext.trans ?_ hb8 | with_reducible refine Ext.trans ?_ hb7 | with_reducible refine Ext.trans ?_ hb6 | with_reducible refine Ext.trans ?_ hb5 | with_reducible refine Ext.trans ?_ hb4 | with_reducible refine Ext.trans ?_ hb3 | with_reducible refine Ext.trans ?_ hb2 | with_reducible refine Ext.trans ?_ hb1 | with_reducible refine Ext.trans ?_ hw)))⟩
          case measure => omega
        | false =>
          have hv := hd (show wordsF ws most = 2 from wordsF_bad (by unfold wordsB; rw [(hmiss hq).out, Bool.and_false]))
          rw [hq] at hcall
          clear hs hmiss hq hC
          go_wp2_with fail
          refine Calls.mono (hcall _) ?_
          rintro e w1 ⟨rfl, hb1⟩
          go_wp2
          go_ret
          exact ⟨by rw [hv.out]; rfl, by ((repeat (first | with_reducible exact Ext.refl _ | with_reducible exact hw | with_reducible exact hb9 | with_reducible exact hb8 | with_reducible exact hb7 | with_reducible exact hb6 | with_reducible exact hb5 | with_reducible exact hb4 | with_reducible exact hb3 | with_reducible exact hb2 | with_reducible exact hb1 | with_reducible refine Ext.alloc ?_ _ | with_reducible refine Ext.drew ?_ | ((with_reducible refine Ext.set ?_ ?_ _); focus (dsimp only; omega)) | with_reducible refine Ext.trans ?_ hb9 | with_reducible refine Ext.trans ?_ hb8 | with_reducible refine Ext.trans ?_ hb7 | with_reducible refine Ext.trans ?_ hb6 | with_reducible refine Ext.trans ?_ hb5 | with_reducible refine Ext.trans ?_ hb4 | with_reducible refine Ext.trans ?_ hb3 | with_reducible refine Ext.trans ?_ hb2 | with_reducible refine Ext.trans ?_ hb1 | with_reducible refine Ext.trans ?_ hw)))⟩
      · obtain rfl : k = ws.length := by omega
        have hC2 := hC.out
        rw [List.take_length] at hC2
        have hv := hd (show wordsF ws most = 0 from wordsF_ok (by unfold wordsB; rw [hC2, decide_eq_true hl]; rfl))
        clear hC hC2
        go_wp2
        go_ret
        exact ⟨by rw [hv.out]; rfl, hw⟩
  · have hv := hd (show wordsF ws most = 2 from wordsF_bad (by unfold wordsB; rw [decide_eq_false hl]; rfl))
    go_enter Tryz.func50, Tryz.ntmps50
    go_wp2
    go_ret
    exact ⟨by rw [hv.out]; rfl, Ext.refl _⟩
set_option maxHeartbeats 400000 in
theorem impl_areWords1 (s : ByteArray) (hs : StrIn s) (w : World) :
    Calls Tryz.prog 54 #[.string s] w fun e w' => e = .returned (.bool (!isNameB s)) ∧ Ext w w' := by
  have hcall := fun W => impl_isName s W hs
  generalize isNameB s = q at hcall
  go_enter Tryz.func54, Tryz.ntmps54
  go_wp2_with fail
  refine Calls.mono (hcall _) ?_
  rintro e w1 ⟨rfl, hb1⟩
  go_wp2
  go_ret
  exact ⟨rfl, by ((repeat (first | with_reducible exact Ext.refl _ | with_reducible exact hw | with_reducible exact hb9 | with_reducible exact hb8 | with_reducible exact hb7 | with_reducible exact hb6 | with_reducible exact hb5 | with_reducible exact hb4 | with_reducible exact hb3 | with_reducible exact hb2 | with_reducible exact hb1 | with_reducible refine Ext.alloc ?_ _ | with_reducible refine Ext.drew ?_ | ((with_reducible refine Ext.set ?_ ?_ _); focus (dsimp only; omega)) | with_reducible refine Ext.trans ?_ hb9 | with_reducible refine Ext.trans ?_ hb8 | with_reducible refine Ext.trans ?_ hb7 | with_reducible refine Ext.trans ?_ hb6 | with_reducible refine Ext.trans ?_ hb5 | with_reducible refine Ext.trans ?_ hb4 | with_reducible refine Ext.trans ?_ hb3 | with_reducible refine Ext.trans ?_ hb2 | with_reducible refine Ext.trans ?_ hb1 | with_reducible refine Ext.trans ?_ hw)))⟩
set_option maxHeartbeats 400000 in
theorem slices_IndexFunc_areWords (xs : List ByteArray) (A : Option Addr) (n cap : Nat) (w : World) (hnx : n = xs.length) (hR : Rd encStr w A xs) (hn : n ≤ 1048576) (hok : ∀ x ∈ xs, StrIn x) :
    Calls Tryz.prog 75 #[.slice A n cap, .func (.func 54) #[] #[]] w fun e w' => e = .returned (.int .i64 (fidx (fun s : ByteArray => !isNameB s) xs)) ∧ Ext w w' := by
  subst hnx
  go_enter Tryz.func75, Tryz.ntmps75
  go_wp2
  go_loopg [8] xs.length (fun g i wr => ∃ k : Nat, g = xs.length - k ∧ k ≤ xs.length ∧ i = .int .i64 k ∧ Ext w wr ∧ (xs.take k).any (fun s : ByteArray => !isNameB s) = false)
  case atStart => exact ⟨0, by omega, by omega, rfl, Ext.refl _, by rw [List.take_zero]; rfl⟩
  case round =>
    obtain ⟨k, hg, hk, rfl, hw, hQ⟩ := hrel
    by_cases hkl : k < xs.length
    · obtain ⟨b, off, hA, hlt, _⟩ := hR k hkl
      subst hA
      obtain ⟨m0, m1⟩ := (hR.ext hw).strs k hkl
      have hs := any_take (fun s : ByteArray => !isNameB s) xs k hkl
      rw [hQ, Bool.false_or] at hs
      cases hq : (fun s : ByteArray => !isNameB s) xs[k] with
      | true =>
        have hM := fidx_hit (fun s : ByteArray => !isNameB s) xs k hkl hq hQ
        try dsimp only at hq
        clear hs hQ
        go_wp2_with fail
        refine Calls.mono (impl_areWords1 xs[k] (hok _ (List.getElem_mem hkl)) _) ?_
        rintro e w1 ⟨rfl, hb1⟩
        simp only [hq]
        go_wp2
        go_ret
        exact ⟨by rw [hM]; rfl, by ((repeat (first | with_reducible exact Ext.refl _ | with_reducible exact hw | with_reducible exact hb9 | with_reducible exact hb8 | with_reducible exact hb7 | with_reducible exact hb6 | with_reducible exact hb5 | with_reducible exact hb4 | with_reducible exact hb3 | with_reducible exact hb2 | with_reducible exact hb1 | with_reducible refine Ext.alloc ?_ _ | with_reducible refine Ext.drew ?_ | ((with_reducible refine Ext.set ?_ ?_ _); focus (dsimp only; omega)) | with_reducible refine Ext.trans ?_ hb9 | with_reducible refine Ext.trans ?_ hb8 | with_reducible refine Ext.trans ?_ hb7 | with_reducible refine Ext.trans ?_ hb6 | with_reducible refine Ext.trans ?_ hb5 | with_reducible refine Ext.trans ?_ hb4 | with_reducible refine Ext.trans ?_ hb3 | with_reducible refine Ext.trans ?_ hb2 | with_reducible refine Ext.trans ?_ hb1 | with_reducible refine Ext.trans ?_ hw)))⟩
      | false =>
        have hs2 := hd (hs.trans hq)
        try dsimp only at hq
        clear hs hQ
        go_wp2_with fail
        refine Calls.mono (impl_areWords1 xs[k] (hok _ (List.getElem_mem hkl)) _) ?_
        rintro e w1 ⟨rfl, hb1⟩
        simp only [hq]
        go_wp2
        go_roundg (xs.length - (k + 1))
        case rel => exact ⟨k + 1, rfl, hkl, rfl, by ((repeat (first | with_reducible exact Ext.refl _ | with_reducible exact hw | with_reducible exact hb9 | with_reducible exact hb8 | with_reducible exact hb7 | with_reducible exact hb6 | with_reducible exact hb5 | with_reducible exact hb4 | with_reducible exact hb3 | with_reducible exact hb2 | with_reducible exact hb1 | with_reducible refine Ext.alloc ?_ _ | with_reducible refine Ext.drew ?_ | ((with_reducible refine Ext.set ?_ ?_ _); focus (dsimp only; omega)) | with_reducible refine Ext.trans ?_ hb9 | with_reducible refine Ext.trans ?_ hb8 | with_reducible refine Ext.trans ?_ hb7 | with_reducible refine Ext.trans ?_ hb6 | with_reducible refine Ext.trans ?_ hb5 | with_reducible refine Ext.trans ?_ hb4 | with_reducible refine Ext.trans ?_ hb3 | with_reducible refine Ext.trans ?_ hb2 | with_reducible refine Ext.trans ?_ hb1 | with_reducible refine Ext.trans ?_ hw))), hs2.out⟩
        case measure => omega
    · obtain rfl : k = xs.length := by omega
      rw [List.take_length] at hQ
      have hM := fidx_none (fun s : ByteArray => !isNameB s) xs hQ
      go_wp2
      go_ret
      exact ⟨by rw [hM]; rfl, hw⟩

set_option maxHeartbeats 400000 in
theorem impl_areWords (ws : List ByteArray) (A : Option Addr) (cap : Nat) (most : Int) (w : World) (hR : Rd encStr w A ws) (hn : ws.length ≤ 1048576) (hok : ∀ x ∈ ws, StrIn x) :
    Calls Tryz.prog 28 #[.slice A ws.length cap, .int .i64 most] w fun e w' => e = .returned (.bool (wordsB ws most)) ∧ Ext w w' := by
  have hI := fun (W : World) (h : Rd encStr W A ws) => slices_IndexFunc_areWords ws A _ cap W rfl h hn hok
  have hv := fidx_ge (fun s : ByteArray => !isNameB s) ws
  have hm : (!ws.all isNameB) = decide (fidx (fun s : ByteArray => !isNameB s) ws ≥ 0) := by
    rw [List.not_all_eq_any_not, Bool.eq_iff_iff, decide_eq_true_iff]
    exact hv.symm
  generalize fidx (fun s : ByteArray => !isNameB s) ws = q at hm hI
  have hC : ∀ W, Rd encStr W A ws → Calls Tryz.prog 53 #[.slice A ws.length cap, .func (.func 54) #[] #[]] W fun e w' => e = .returned (.bool (!ws.all isNameB)) ∧ Ext W w' := by
    intro W h
    rw [hm]
    clear hm hv
    go_enter Tryz.func53, Tryz.ntmps53
    go_wp2_with fail
    refine Calls.mono (hI _ h) ?_
    rintro e w1 ⟨rfl, hb1⟩
    go_wp2
    go_ret
    exact ⟨rfl, hb1⟩
  clear hI hm hv
  have hx : wordsB ws most = (decide ((ws.length : Int) ≤ most) && ws.all isNameB) := rfl
  generalize ws.all isNameB = b at hC hx
  by_cases hl : (ws.length : Int) ≤ most
  · have hx := hd (show wordsB ws most = b by rw [hx, decide_eq_true hl, Bool.true_and])
    go_enter Tryz.func28, Tryz.ntmps28
    go_wp2_with fail
    refine Calls.mono (hC _ hR) ?_
    rintro e w1 ⟨rfl, hb1⟩
    go_wp2
    go_ret
    exact ⟨by rw [hx.out]; first | rfl | rw [Bool.not_not], by ((repeat (first | with_reducible exact Ext.refl _ | with_reducible exact hw | with_reducible exact hb9 | with_reducible exact hb8 | with_reducible exact hb7 | with_reducible exact hb6 | with_reducible exact hb5 | with_reducible exact hb4 | with_reducible exact hb3 | with_reducible exact hb2 | with_reducible exact hb1 | with_reducible refine Ext.alloc ?_ _ | with_reducible refine Ext.drew ?_ | ((with_reducible refine Ext.set ?_ ?_ _); focus (dsimp only; omega)) | with_reducible refine Ext.trans ?_ hb9 | with_reducible refine Ext.trans ?_ hb8 | with_reducible refine Ext.trans ?_ hb7 | with_reducible refine Ext.trans ?_ hb6 | with_reducible refine Ext.trans ?_ hb5 | with_reducible refine Ext.trans ?_ hb4 | with_reducible refine Ext.trans ?_ hb3 | with_reducible refine Ext.trans ?_ hb2 | with_reducible refine Ext.trans ?_ hb1 | with_reducible refine Ext.trans ?_ hw)))⟩
  · have hx := hd (show wordsB ws most = false by rw [hx, decide_eq_false hl, Bool.false_and])
    go_enter Tryz.func28, Tryz.ntmps28
    go_wp2
    go_ret
    exact ⟨by first | (rw [hx.out]; rfl) | (rw [decide_eq_false (Int.not_le.2 hl)]; rfl), by ((repeat (first | with_reducible exact Ext.refl _ | with_reducible exact hw | with_reducible exact hb9 | with_reducible exact hb8 | with_reducible exact hb7 | with_reducible exact hb6 | with_reducible exact hb5 | with_reducible exact hb4 | with_reducible exact hb3 | with_reducible exact hb2 | with_reducible exact hb1 | with_reducible refine Ext.alloc ?_ _ | with_reducible refine Ext.drew ?_ | ((with_reducible refine Ext.set ?_ ?_ _); focus (dsimp only; omega)) | with_reducible refine Ext.trans ?_ hb9 | with_reducible refine Ext.trans ?_ hb8 | with_reducible refine Ext.trans ?_ hb7 | with_reducible refine Ext.trans ?_ hb6 | with_reducible refine Ext.trans ?_ hb5 | with_reducible refine Ext.trans ?_ hb4 | with_reducible refine Ext.trans ?_ hb3 | with_reducible refine Ext.trans ?_ hb2 | with_reducible refine Ext.trans ?_ hb1 | with_reducible refine Ext.trans ?_ hw)))⟩
set_option maxHeartbeats 400000 in
theorem impl_IsWithin (m n : Mask) (w : World) : Calls Tryz.prog 47 #[.agg #[.int .u64 (lo m), .int .u64 (hi m)], .agg #[.int .u64 (lo n), .int .u64 (hi n)]] w fun e w' => e = .returned (.bool (mwin m n)) ∧ Ext w w' := by
  have e1 := lohi_win m n
  have e2 := eqA_Mask
  go_enter Tryz.func47, Tryz.ntmps47
  go_wp2_with fail
  refine Calls.mono (impl_LessMask m n _) ?_
  rintro e w1 ⟨rfl, hb1⟩
  obtain ⟨hc1, hf1, hz1⟩ := bcell3 hb1
  try simp at hz1
  have hz1_0 : w.heap.size < w1.heap.size := by omega
  have hz1_1 : w.heap.size + 1 < w1.heap.size := by omega
  go_wp2
  go_ret
  refine ⟨rfl, ?_⟩
  (repeat (first | with_reducible exact Ext.refl _ | with_reducible exact hw | with_reducible exact hb9 | with_reducible exact hb8 | with_reducible exact hb7 | with_reducible exact hb6 | with_reducible exact hb5 | with_reducible exact hb4 | with_reducible exact hb3 | with_reducible exact hb2 | with_reducible exact hb1 | with_reducible refine Ext.alloc ?_ _ | with_reducible refine Ext.drew ?_ | ((with_reducible refine Ext.set ?_ ?_ _); focus (dsimp only; omega)) | with_reducible refine Ext.trans ?_ hb9 | with_reducible refine Ext.trans ?_ hb8 | with_reducible refine Ext.trans ?_ hb7 | with_reducible refine Ext.trans ?_ hb6 | with_reducible refine Ext.trans ?_ hb5 | with_reducible refine Ext.trans ?_ hb4 | with_reducible refine Ext.trans ?_ hb3 | with_reducible refine Ext.trans ?_ hb2 | with_reducible refine Ext.trans ?_ hb1 | with_reducible refine Ext.trans ?_ hw))
set_option maxHeartbeats 400000 in
theorem spec_IsWithin (m n : Mask) (w : World) : Calls Tryz.prog 90 #[.agg #[.int .u64 (lo m), .int .u64 (hi m)], .agg #[.int .u64 (lo n), .int .u64 (hi n)]] w fun e w' => e = .returned (.bool (mwin m n)) ∧ Ext w w' := by
  have e1 := lohi_win m n
  have e2 := eqA_Mask
  go_enter Tryz.func90, Tryz.ntmps90
  go_wp2_with fail
  refine Calls.mono (spec_l01Less m n _) ?_
  rintro e w1 ⟨rfl, hb1⟩
  obtain ⟨hc1, hf1, hz1⟩ := bcell3 hb1
  try simp at hz1
  have hz1_0 : w.heap.size < w1.heap.size := by omega
  have hz1_1 : w.heap.size + 1 < w1.heap.size := by omega
  go_wp2
  go_ret
  refine ⟨rfl, ?_⟩
  (repeat (first | with_reducible exact Ext.refl _ | with_reducible exact hw | with_reducible exact hb9 | with_reducible exact hb8 | with_reducible exact hb7 | with_reducible exact hb6 | with_reducible exact hb5 | with_reducible exact hb4 | with_reducible exact hb3 | with_reducible exact hb2 | with_reducible exact hb1 | with_reducible refine Ext.alloc ?_ _ | with_reducible refine Ext.drew ?_ | ((with_reducible refine Ext.set ?_ ?_ _); focus (dsimp only; omega)) | with_reducible refine Ext.trans ?_ hb9 | with_reducible refine Ext.trans ?_ hb8 | with_reducible refine Ext.trans ?_ hb7 | with_reducible refine Ext.trans ?_ hb6 | with_reducible refine Ext.trans ?_ hb5 | with_reducible refine Ext.trans ?_ hb4 | with_reducible refine Ext.trans ?_ hb3 | with_reducible refine Ext.trans ?_ hb2 | with_reducible refine Ext.trans ?_ hb1 | with_reducible refine Ext.trans ?_ hw))
end Go.Proofs.YtegopgpnjgikeaaGreatDoor
set_option linter.unusedVariables false
set_option linter.unusedSimpArgs false
set_option maxRecDepth 100000
namespace Go.Proofs.YtegopgpnjgikeaaGreatDoor
open Go.RowKit
def partX (x : Mx) : Mask := rangeM x.st x.sz
set_option maxHeartbeats 1000000 in
theorem impl_holesOf (x : Mx) (hmx : mixB x = true) (ws : List ByteArray) (A : Option Addr) (cap : Nat) (w : World) (hR : Rd encStr w A ws) (hn : ws.length ≤ 1048576) (hok : ∀ x ∈ ws, StrIn x) :
    Calls Tryz.prog 43 #[.agg #[.int .i16 x.st, .int .i16 x.sz, .int .i16 x.per], .slice A ws.length cap] w fun e w' => e = .returned (.agg #[.int .u64 (lo (wallM x ws)), .int .u64 (hi (wallM x ws))]) ∧ Ext w w' := by
  have hx := @ExtOf.cell
  have hwh := fun k (h : k < ws.length) W => impl_wordHoles x hmx ws[k] (hok _ (List.getElem_mem h)) W
  have htk := fun k (h : k < ws.length) => wallM_take x ws k h
  have hz : wallM x (ws.take 0) = 0 := by rw [List.take_zero]; exact wallM_nil x
  have hall : wallM x (ws.take ws.length) = wallM x ws := by rw [List.take_length]
  generalize wallM x ws = r at hall
  obtain ⟨st, sz, per⟩ := x
  dsimp only at hwh
  go_enter Tryz.func43, Tryz.ntmps43
  go_wp2
  go_loopg [11] ws.length (fun g i wr => ∃ k : Nat, ∃ m : Mask, g = ws.length - k ∧ k ≤ ws.length ∧ i = .int .i64 k ∧ Hd (wallM ⟨st, sz, per⟩ (ws.take k) = m) ∧ Ext w wr ∧ BoxAt wr (w.heap.size + 1 + 1) #[.int .u64 (lo m), .int .u64 (hi m)] 47 ∧ BoxAt wr (w.heap.size + 1) #[.int .u64 0, .int .u64 0] 47 ∧ BoxAt wr w.heap.size #[.int .i16 st, .int .i16 sz, .int .i16 per] 26)
  case atStart => exact ⟨0, 0, by omega, by omega, rfl, hd hz, by ((repeat (first | with_reducible exact Ext.refl _ | with_reducible exact hw | with_reducible exact hb9 | with_reducible exact hb8 | with_reducible exact hb7 | with_reducible exact hb6 | with_reducible exact hb5 | with_reducible exact hb4 | with_reducible exact hb3 | with_reducible exact hb2 | with_reducible exact hb1 | with_reducible refine Ext.alloc ?_ _ | with_reducible refine Ext.drew ?_ | ((with_reducible refine Ext.set ?_ ?_ _); focus (dsimp only; omega)) | with_reducible refine Ext.trans ?_ hb9 | with_reducible refine Ext.trans ?_ hb8 | with_reducible refine Ext.trans ?_ hb7 | with_reducible refine Ext.trans ?_ hb6 | with_reducible refine Ext.trans ?_ hb5 | with_reducible refine Ext.trans ?_ hb4 | with_reducible refine Ext.trans ?_ hb3 | with_reducible refine Ext.trans ?_ hb2 | with_reducible refine Ext.trans ?_ hb1 | with_reducible refine Ext.trans ?_ hw))), BoxAt.new' (by simp), (BoxAt.new' (by simp)).alloc _, ((BoxAt.new' rfl).alloc _).alloc _⟩
  case round =>
    obtain ⟨k, m, hg, hk, rfl, hm, hw, hB, hC, hX⟩ := hrel
    have c0 : wr.cell? ⟨w.heap.size + 1 + 1, 0, none⟩ = some (.int .u64 (lo m)) := hB.cell 0
    have c1 : wr.cell? ⟨w.heap.size + 1 + 1, 1, none⟩ = some (.int .u64 (hi m)) := hB.cell 1
    have x0 : wr.cell? ⟨w.heap.size, 0, none⟩ = some (.int .i16 st) := hX.cell 0
    have x1 : wr.cell? ⟨w.heap.size, 1, none⟩ = some (.int .i16 sz) := hX.cell 1
    have x2 : wr.cell? ⟨w.heap.size, 2, none⟩ = some (.int .i16 per) := hX.cell 2
    have lB := hB.lt
    have lX := hX.lt
    by_cases hkl : k < ws.length
    · obtain ⟨b, off, hA, hlt, _⟩ := hR k hkl
      subst hA
      obtain ⟨m0, m1⟩ := (hR.ext hw).strs k hkl
      have hcall := hwh k hkl
      have hnext := hd (htk k hkl)
      generalize wholes ⟨st, sz, per⟩ ws[k] = q at hcall hnext
      clear hwh htk
      go_wp2
      refine wp_region_ext_tail 5 5 (by kernel_rfl) (by kernel_rfl) (by intro d _ _ _ _ h; cases d <;> exact h) ?_
      simp only [List.take_succ_cons, List.take_zero, List.drop_succ_cons, List.drop_zero]
      repeat (first | go_big_quiet_step ((first | (go_at_call 46; with_reducible exact Calls.ext_all (fun W _ => hcall W)) | (go_at_call 62; with_reducible exact Calls.ext_all (fun W _ => impl_JoinMasks m q W)))) | quiet_step ((first | (go_at_call 46; with_reducible exact Calls.ext_all (fun W _ => hcall W)) | (go_at_call 62; with_reducible exact Calls.ext_all (fun W _ => impl_JoinMasks m q W)))))
      refine wpQuiet_nil ?_
      intro w2 hq2
      have hb2 := ext_of_class hq2
      clear hq2
      obtain ⟨hc2, hf2, hz2⟩ := bcell3 hb2
      try simp at hz2
      have hB := hB.ext hb2
      have hC := hC.ext hb2
      have hX := hX.ext hb2
      have f0 := hB.frozen 0
      have f1 := hB.frozen 1
      have d0 : w2.cell? ⟨w.heap.size + 1 + 1, 0, none⟩ = some (.int .u64 (lo m)) := hB.cell 0
      have d1 : w2.cell? ⟨w.heap.size + 1 + 1, 1, none⟩ = some (.int .u64 (hi m)) := hB.cell 1
      have lB := hB.lt
      clear hc2 hf2 hz2
      go_wp2
      go_roundg (ws.length - (k + 1))
      case rel => exact ⟨k + 1, mjoin m q, rfl, hkl, rfl, hd (by rw [hnext.out, hm.out]), by ((repeat (first | with_reducible exact Ext.refl _ | with_reducible exact hw | with_reducible exact hb9 | with_reducible exact hb8 | with_reducible exact hb7 | with_reducible exact hb6 | with_reducible exact hb5 | with_reducible exact hb4 | with_reducible exact hb3 | with_reducible exact hb2 | with_reducible exact hb1 | with_reducible refine Ext.alloc ?_ _ | with_reducible refine Ext.drew ?_ | ((with_reducible refine Ext.set ?_ ?_ _); focus (dsimp only; omega)) | with_reducible refine Ext.trans ?_ hb9 | with_reducible refine Ext.trans ?_ hb8 | with_reducible refine Ext.trans ?_ hb7 | with_reducible refine Ext.trans ?_ hb6 | with_reducible refine Ext.trans ?_ hb5 | with_reducible refine Ext.trans ?_ hb4 | with_reducible refine Ext.trans ?_ hb3 | with_reducible refine Ext.trans ?_ hb2 | with_reducible refine Ext.trans ?_ hb1 | with_reducible refine Ext.trans ?_ hw))), (hB.set 0 _).set 1 _, (hC.setOther (by simp) _).setOther (by simp) _, (hX.setOther (by simp; omega) _).setOther (by simp; omega) _⟩
      case measure => omega
    · obtain rfl : k = ws.length := by omega
      have hv := hm.out.symm.trans hall
      subst hv
      have z0 := hC.frozen 0
      have z1 := hC.frozen 1
      have y0 : wr.cell? ⟨w.heap.size + 1, 0, none⟩ = some (.int .u64 0) := hC.cell 0
      have y1 : wr.cell? ⟨w.heap.size + 1, 1, none⟩ = some (.int .u64 0) := hC.cell 1
      have lC := hC.lt
      go_wp2
      refine bodyPost_ret (v := .agg #[.int .u64 (lo m), .int .u64 (hi m)]) (by simp [results, Tryz.results43, go_sem, c0, c1, y0, y1, lC, lB]) rfl ⟨rfl, ?_⟩
      (repeat (first | with_reducible exact Ext.refl _ | with_reducible exact hw | with_reducible exact hb9 | with_reducible exact hb8 | with_reducible exact hb7 | with_reducible exact hb6 | with_reducible exact hb5 | with_reducible exact hb4 | with_reducible exact hb3 | with_reducible exact hb2 | with_reducible exact hb1 | with_reducible refine Ext.alloc ?_ _ | with_reducible refine Ext.drew ?_ | ((with_reducible refine Ext.set ?_ ?_ _); focus (dsimp only; omega)) | with_reducible refine Ext.trans ?_ hb9 | with_reducible refine Ext.trans ?_ hb8 | with_reducible refine Ext.trans ?_ hb7 | with_reducible refine Ext.trans ?_ hb6 | with_reducible refine Ext.trans ?_ hb5 | with_reducible refine Ext.trans ?_ hb4 | with_reducible refine Ext.trans ?_ hb3 | with_reducible refine Ext.trans ?_ hb2 | with_reducible refine Ext.trans ?_ hb1 | with_reducible refine Ext.trans ?_ hw))
set_option maxHeartbeats 1000000 in
theorem spec_l03All (x : Mx) (hmx : mixB x = true) (ws : List ByteArray) (A : Option Addr) (cap : Nat) (b0 o0 : Nat) (w : World) (hM : MixAt w b0 o0 x) (hR : Rd encStr w A ws) (hn : ws.length ≤ 1048576) (hok : ∀ x ∈ ws, StrIn x) :
    Calls Tryz.prog 57 #[.pointer (some ⟨b0, o0, none⟩), .slice A ws.length cap] w fun e w' => e = .returned (.agg #[.int .u64 (lo (wallM x ws)), .int .u64 (hi (wallM x ws))]) ∧ Ext w w' := by
  have hx := @ExtOf.cell
  have hwh := fun k (h : k < ws.length) (W : World) (hE : Ext w W) => spec_l03Holes x hmx ws[k] (hok _ (List.getElem_mem h)) b0 o0 W (hM.ext hE)
  have htk := fun k (h : k < ws.length) => wallM_take x ws k h
  have hz : wallM x (ws.take 0) = 0 := by rw [List.take_zero]; exact wallM_nil x
  have hall : wallM x (ws.take ws.length) = wallM x ws := by rw [List.take_length]
  generalize wallM x ws = r at hall
  go_enter Tryz.func57, Tryz.ntmps57
  go_wp2
  go_loopg [6] ws.length (fun g i wr => ∃ k : Nat, ∃ m : Mask, g = ws.length - k ∧ k ≤ ws.length ∧ i = .int .i64 k ∧ Hd (wallM x (ws.take k) = m) ∧ Ext w wr ∧ BoxAt wr (w.heap.size + 1) #[.int .u64 (lo m), .int .u64 (hi m)] 47 ∧ BoxAt wr w.heap.size #[.int .u64 0, .int .u64 0] 47)
  case atStart => exact ⟨0, 0, by omega, by omega, rfl, hd hz, by ((repeat (first | with_reducible exact Ext.refl _ | with_reducible exact hw | with_reducible exact hb9 | with_reducible exact hb8 | with_reducible exact hb7 | with_reducible exact hb6 | with_reducible exact hb5 | with_reducible exact hb4 | with_reducible exact hb3 | with_reducible exact hb2 | with_reducible exact hb1 | with_reducible refine Ext.alloc ?_ _ | with_reducible refine Ext.drew ?_ | ((with_reducible refine Ext.set ?_ ?_ _); focus (dsimp only; omega)) | with_reducible refine Ext.trans ?_ hb9 | with_reducible refine Ext.trans ?_ hb8 | with_reducible refine Ext.trans ?_ hb7 | with_reducible refine Ext.trans ?_ hb6 | with_reducible refine Ext.trans ?_ hb5 | with_reducible refine Ext.trans ?_ hb4 | with_reducible refine Ext.trans ?_ hb3 | with_reducible refine Ext.trans ?_ hb2 | with_reducible refine Ext.trans ?_ hb1 | with_reducible refine Ext.trans ?_ hw))), BoxAt.new' (by simp), (BoxAt.new' rfl).alloc _⟩
  case round =>
    obtain ⟨k, m, hg, hk, rfl, hm, hw, hB, hC⟩ := hrel
    have c0 : wr.cell? ⟨w.heap.size + 1, 0, none⟩ = some (.int .u64 (lo m)) := hB.cell 0
    have c1 : wr.cell? ⟨w.heap.size + 1, 1, none⟩ = some (.int .u64 (hi m)) := hB.cell 1
    have lB := hB.lt
    by_cases hkl : k < ws.length
    · obtain ⟨b, off, hA, hlt, _⟩ := hR k hkl
      subst hA
      obtain ⟨m0, m1⟩ := (hR.ext hw).strs k hkl
      have hcall := hwh k hkl
      have hnext := hd (htk k hkl)
      generalize wholes x ws[k] = q at hcall hnext
      clear hwh htk
      go_wp2
      refine wp_region_ext_tail 8 8 (by kernel_rfl) (by kernel_rfl) (by intro d _ _ _ _ h; cases d <;> exact h) ?_
      simp only [List.take_succ_cons, List.take_zero, List.drop_succ_cons, List.drop_zero]
      repeat (first | go_big_quiet_step ((first | (go_at_call 78; with_reducible exact Calls.ext_all (fun W hE => hcall W (hw.trans hE))) | (go_at_call 77; with_reducible exact Calls.ext_all (fun W _ => spec_JoinMasks m q W)))) | quiet_step ((first | (go_at_call 78; with_reducible exact Calls.ext_all (fun W hE => hcall W (hw.trans hE))) | (go_at_call 77; with_reducible exact Calls.ext_all (fun W _ => spec_JoinMasks m q W)))))
      refine wpQuiet_nil ?_
      intro w2 hq2
      have hb2 := ext_of_class hq2
      clear hq2
      obtain ⟨hc2, hf2, hz2⟩ := bcell3 hb2
      try simp at hz2
      have hB := hB.ext hb2
      have hC := hC.ext hb2
      have f0 := hB.frozen 0
      have f1 := hB.frozen 1
      have d0 : w2.cell? ⟨w.heap.size + 1, 0, none⟩ = some (.int .u64 (lo m)) := hB.cell 0
      have d1 : w2.cell? ⟨w.heap.size + 1, 1, none⟩ = some (.int .u64 (hi m)) := hB.cell 1
      have lB := hB.lt
      clear hc2 hf2 hz2
      go_wp2
      go_roundg (ws.length - (k + 1))
      case rel => exact ⟨k + 1, mjoin m q, rfl, hkl, rfl, hd (by rw [hnext.out, hm.out]), by ((repeat (first | with_reducible exact Ext.refl _ | with_reducible exact hw | with_reducible exact hb9 | with_reducible exact hb8 | with_reducible exact hb7 | with_reducible exact hb6 | with_reducible exact hb5 | with_reducible exact hb4 | with_reducible exact hb3 | with_reducible exact hb2 | with_reducible exact hb1 | with_reducible refine Ext.alloc ?_ _ | with_reducible refine Ext.drew ?_ | ((with_reducible refine Ext.set ?_ ?_ _); focus (dsimp only; omega)) | with_reducible refine Ext.trans ?_ hb9 | with_reducible refine Ext.trans ?_ hb8 | with_reducible refine Ext.trans ?_ hb7 | with_reducible refine Ext.trans ?_ hb6 | with_reducible refine Ext.trans ?_ hb5 | with_reducible refine Ext.trans ?_ hb4 | with_reducible refine Ext.trans ?_ hb3 | with_reducible refine Ext.trans ?_ hb2 | with_reducible refine Ext.trans ?_ hb1 | with_reducible refine Ext.trans ?_ hw))), (hB.set 0 _).set 1 _, (hC.setOther (by simp) _).setOther (by simp) _⟩
      case measure => omega
    · obtain rfl : k = ws.length := by omega
      have hv := hm.out.symm.trans hall
      subst hv
      have z0 := hC.frozen 0
      have z1 := hC.frozen 1
      have y0 : wr.cell? ⟨w.heap.size, 0, none⟩ = some (.int .u64 0) := hC.cell 0
      have y1 : wr.cell? ⟨w.heap.size, 1, none⟩ = some (.int .u64 0) := hC.cell 1
      have lC := hC.lt
      go_wp2
      refine bodyPost_ret (v := .agg #[.int .u64 (lo m), .int .u64 (hi m)]) (by simp [results, Tryz.results57, go_sem, c0, c1, y0, y1, lC, lB]) rfl ⟨rfl, ?_⟩
      (repeat (first | with_reducible exact Ext.refl _ | with_reducible exact hw | with_reducible exact hb9 | with_reducible exact hb8 | with_reducible exact hb7 | with_reducible exact hb6 | with_reducible exact hb5 | with_reducible exact hb4 | with_reducible exact hb3 | with_reducible exact hb2 | with_reducible exact hb1 | with_reducible refine Ext.alloc ?_ _ | with_reducible refine Ext.drew ?_ | ((with_reducible refine Ext.set ?_ ?_ _); focus (dsimp only; omega)) | with_reducible refine Ext.trans ?_ hb9 | with_reducible refine Ext.trans ?_ hb8 | with_reducible refine Ext.trans ?_ hb7 | with_reducible refine Ext.trans ?_ hb6 | with_reducible refine Ext.trans ?_ hb5 | with_reducible refine Ext.trans ?_ hb4 | with_reducible refine Ext.trans ?_ hb3 | with_reducible refine Ext.trans ?_ hb2 | with_reducible refine Ext.trans ?_ hb1 | with_reducible refine Ext.trans ?_ hw))
set_option maxHeartbeats 400000 in
theorem impl_partX (x : Mx) (hmx : mixB x = true) (w : World) :
    Calls Tryz.prog 37 #[.agg #[.int .i16 x.st, .int .i16 x.sz, .int .i16 x.per]] w fun e w' => e = .returned (.agg #[.int .u64 (lo (partX x)), .int .u64 (hi (partX x))]) ∧ Ext w w' := by
  obtain ⟨b1, b2, b3, b4, b5, b6, b7⟩ := (mixB_iff x).1 hmx
  have hrm := fun W => impl_rangeMask x.st x.sz b6 (by omega) (by omega) W
  rw [show rangeM x.st x.sz = partX x from rfl] at hrm
  have wr1 : IntKind.i64.wrap x.st = x.st := IntWalk.i64_in _ (by omega)
  have wr2 : IntKind.i64.wrap x.sz = x.sz := IntWalk.i64_in _ (by omega)
  generalize partX x = r at hrm
  obtain ⟨st, sz, per⟩ := x
  dsimp only at hrm wr1 wr2 b1 b2 b3 b4 b5 b6 b7
  go_enter Tryz.func37, Tryz.ntmps37
  go_wp2_with fail
  refine Calls.mono (hrm _) ?_
  rintro e w1 ⟨rfl, hb1⟩
  have hC : BoxAt w1 (w.heap.size + 1) #[.int .u64 0, .int .u64 0] 47 := (BoxAt.new' (by simp)).ext hb1
  have z0 := hC.frozen 0
  have z1 := hC.frozen 1
  have y0 : w1.cell? ⟨w.heap.size + 1, 0, none⟩ = some (.int .u64 0) := hC.cell 0
  have y1 : w1.cell? ⟨w.heap.size + 1, 1, none⟩ = some (.int .u64 0) := hC.cell 1
  have lC := hC.lt
  go_wp2
  refine bodyPost_ret (v := .agg #[.int .u64 (lo r), .int .u64 (hi r)]) (by simp [results, Tryz.results37, go_sem, y0, y1, lC]) rfl ⟨rfl, ?_⟩
  (repeat (first | with_reducible exact Ext.refl _ | with_reducible exact hw | with_reducible exact hb9 | with_reducible exact hb8 | with_reducible exact hb7 | with_reducible exact hb6 | with_reducible exact hb5 | with_reducible exact hb4 | with_reducible exact hb3 | with_reducible exact hb2 | with_reducible exact hb1 | with_reducible refine Ext.alloc ?_ _ | with_reducible refine Ext.drew ?_ | ((with_reducible refine Ext.set ?_ ?_ _); focus (dsimp only; omega)) | with_reducible refine Ext.trans ?_ hb9 | with_reducible refine Ext.trans ?_ hb8 | with_reducible refine Ext.trans ?_ hb7 | with_reducible refine Ext.trans ?_ hb6 | with_reducible refine Ext.trans ?_ hb5 | with_reducible refine Ext.trans ?_ hb4 | with_reducible refine Ext.trans ?_ hb3 | with_reducible refine Ext.trans ?_ hb2 | with_reducible refine Ext.trans ?_ hb1 | with_reducible refine Ext.trans ?_ hw))
end Go.Proofs.YtegopgpnjgikeaaGreatDoor
set_option linter.unusedVariables false
set_option linter.unusedSimpArgs false
set_option maxRecDepth 100000
namespace Go.Proofs.YtegopgpnjgikeaaGreatDoor
open Go.RowKit
theorem getM (ms : List Mask) (k : Nat) (hk : k < ms.length) : ms.getD k 0 = ms[k] := by rw [List.getD, List.getElem?_eq_getElem hk]; rfl
/-- The places of the masks that have some holes. -/
def droppedL (h : Mask) (ms : List Mask) (n : Nat) : List Int := idxTo (fun i => mwin h (ms.getD i 0)) n
theorem droppedL_zero (h : Mask) (ms : List Mask) : droppedL h ms 0 = [] := rfl
theorem droppedL_hit {h : Mask} {ms : List Mask} {k : Nat} (hk : k < ms.length) (hq : mwin h ms[k] = true) : droppedL h ms (k + 1) = droppedL h ms k ++ [(k : Int)] := idxTo_hit _ k (by rw [getM ms k hk]; exact hq)
theorem droppedL_miss {h : Mask} {ms : List Mask} {k : Nat} (hk : k < ms.length) (hq : mwin h ms[k] = false) : droppedL h ms (k + 1) = droppedL h ms k := idxTo_miss _ k (by rw [getM ms k hk]; exact hq)
theorem droppedL_len (h : Mask) (ms : List Mask) (n : Nat) : (droppedL h ms n).length ≤ n := idxTo_len _ n
attribute [irreducible] droppedL
noncomputable def dropF (x : Mx) (ms : List Mask) (ws : List ByteArray) : List Int × Int :=
  if askF x ms ws 12 = 0 then (droppedL (wallM x ws) ms ms.length, 0) else ([], askF x ms ws 12)
theorem drop_ok {x : Mx} {ms : List Mask} {ws : List ByteArray} (h : askF x ms ws 12 = 0) : dropF x ms ws = (droppedL (wallM x ws) ms ms.length, 0) := by unfold dropF; rw [if_pos h]
theorem drop_no {x : Mx} {ms : List Mask} {ws : List ByteArray} (h : ¬ askF x ms ws 12 = 0) : dropF x ms ws = ([], askF x ms ws 12) := by unfold dropF; rw [if_neg h]
theorem drop_len (x : Mx) (ms : List Mask) (ws : List ByteArray) (h : ms.length ≤ 1048576) : (dropF x ms ws).1.length ≤ 1048576 := by
  unfold dropF
  split
  · exact Nat.le_trans (droppedL_len _ _ _) h
  · simp
theorem ask_masks {x : Mx} {ms : List Mask} {ws : List ByteArray} {most : Int} (h : ms.all isMaskB = false) : askF x ms ws most = 1 := ask_bad (by rw [h, Bool.and_false])
theorem ask_nil {x : Mx} {ms : List Mask} {ws : List ByteArray} {most : Int} (h : ms.all isMaskB = true) (h2 : ¬ askF x [] ws most = 0) : askF x ms ws most = askF x [] ws most := by
  cases hm : mixB x with
  | false => rw [ask_bad (by rw [hm]; rfl), ask_bad (by rw [hm]; rfl)]
  | true =>
    cases hw : wordsB ws most with
    | false => rw [ask_far (by rw [hm, h]; rfl) (by rw [hw, Bool.and_false]), ask_far (by rw [hm]; rfl) (by rw [hw, Bool.and_false])]
    | true => exact absurd (ask_ok (by rw [hm]; rfl) (by rw [hw]; rfl)) h2
theorem ask_long {x : Mx} {ms : List Mask} {ws : List ByteArray} {most : Int} (h : ms.all isMaskB = true) (h2 : askF x [] ws most = 0) (h3 : ¬ ms.length ≤ 60) : askF x ms ws most = 2 :=
  ask_far (by rw [(ask_zero h2).1, h]; rfl) (by rw [decide_eq_false h3]; rfl)
theorem ask_good {x : Mx} {ms : List Mask} {ws : List ByteArray} {most : Int} (h : ms.all isMaskB = true) (h2 : askF x [] ws most = 0) (h3 : ms.length ≤ 60) : askF x ms ws most = 0 := by
  obtain ⟨a1, _, _, a4, a5⟩ := ask_zero h2
  exact ask_ok (by rw [a1, h]; rfl) (by unfold wordsB; rw [decide_eq_true h3, decide_eq_true a4, a5]; rfl)
set_option maxHeartbeats 1000000 in
theorem spec_l03Dropped (h : Mask) (ms : List Mask) (A : Option Addr) (cap : Nat) (w : World) (hR : Rd encMask w A ms) (hn : ms.length ≤ 1048576) :
    Calls Tryz.prog 73 #[.slice A ms.length cap, .agg #[.int .u64 (lo h), .int .u64 (hi h)]] w fun e w' => ∃ v, e = .returned v ∧ Ow encI64 2 w' w.heap.size v (droppedL h ms ms.length) ∧ Ext w w' := by
  have hx := @ExtOf.cell
  have hlen := droppedL_len h ms
  go_enter Tryz.func73, Tryz.ntmps73
  go_wp2
  go_loopg [5, 6] ms.length (fun g v i wr => ∃ k : Nat, g = ms.length - k ∧ k ≤ ms.length ∧ i = .int .i64 k ∧ Ext w wr ∧ BoxAt wr w.heap.size #[.int .u64 (lo h), .int .u64 (hi h)] 47 ∧ Ow encI64 2 wr (w.heap.size + 1) v (droppedL h ms k))
  case atStart => exact ⟨0, by omega, by omega, rfl, by ((repeat (first | with_reducible exact Ext.refl _ | with_reducible exact hw | with_reducible exact hb9 | with_reducible exact hb8 | with_reducible exact hb7 | with_reducible exact hb6 | with_reducible exact hb5 | with_reducible exact hb4 | with_reducible exact hb3 | with_reducible exact hb2 | with_reducible exact hb1 | with_reducible refine Ext.alloc ?_ _ | with_reducible refine Ext.drew ?_ | ((with_reducible refine Ext.set ?_ ?_ _); focus (dsimp only; omega)) | with_reducible refine Ext.trans ?_ hb9 | with_reducible refine Ext.trans ?_ hb8 | with_reducible refine Ext.trans ?_ hb7 | with_reducible refine Ext.trans ?_ hb6 | with_reducible refine Ext.trans ?_ hb5 | with_reducible refine Ext.trans ?_ hb4 | with_reducible refine Ext.trans ?_ hb3 | with_reducible refine Ext.trans ?_ hb2 | with_reducible refine Ext.trans ?_ hb1 | with_reducible refine Ext.trans ?_ hw))), (BoxAt.new' rfl).alloc _, by rw [droppedL_zero]; exact Ow.made0 (by simp) (by simp)⟩
  case round =>
    obtain ⟨k, hg, hk, rfl, hw, hB, hO⟩ := hrel
    by_cases hkl : k < ms.length
    · obtain ⟨b, off, hA, hlt, _⟩ := hR k hkl
      subst hA
      obtain ⟨m0, m1, m2⟩ := (hR.ext hw).mask k hkl
      have c0 : wr.cell? ⟨w.heap.size, 0, none⟩ = some (.int .u64 (lo h)) := hB.cell 0
      have c1 : wr.cell? ⟨w.heap.size, 1, none⟩ = some (.int .u64 (hi h)) := hB.cell 1
      have lB := hB.lt
      have hl := hlen k
      have hcall := fun W => spec_IsWithin h ms[k] W
      have hhit := fun q => hd (droppedL_hit (h := h) hkl q)
      have hmiss := fun q => hd (droppedL_miss (h := h) hkl q)
      cases hq : mwin h ms[k] with
      | true =>
        rw [hq] at hcall
        have hv := hhit hq
        clear hhit hmiss hq
        go_wp2
        refine wp_region_ext (by kernel_rfl) (by kernel_rfl) ?_
        repeat (first | go_big_quiet_step ((go_at_call 90; with_reducible exact Calls.ext_all (fun W _ => hcall W))) | quiet_step ((go_at_call 90; with_reducible exact Calls.ext_all (fun W _ => hcall W))))
        refine wpQuiet_nil ?_
        intro w2 hq2
        have hb2 := ext_of_class hq2
        clear hq2
        obtain ⟨hc2, hf2, hz2⟩ := bcell3 hb2
        try simp at hz2
        have hB2 := hB.ext hb2
        have hO2 := hO.ext hb2
        have l2 := hB2.lt
        clear hc2 hf2 hz2
        go_wp2_with (at_builtin; refine wpList_push (w0 := w) (base := w.heap.size + 1) (xs := droppedL h ms k) encI64 (by rfl) _ _ 36 (.int .i64 0) 8 (by rfl) Tryz.underlying36 info_i64 (by rfl) (k : Int) (by rfl) (by rfl) hO2 (by omega) (by omega) (hw.trans hb2) (by omega) (by omega) ?_)
        intro v3 w3 hO3 hb3 hg3 _
        go_wp2
        go_roundg (ms.length - (k + 1))
        case rel => exact ⟨k + 1, rfl, hkl, rfl, hb3, (hg3.block _ hB2.lt (fun e => by have := (hO2.lt w.heap.size e.symm).1; omega)).trans hB2, by rw [hv.out]; exact hO3⟩
        case measure => omega
      | false =>
        rw [hq] at hcall
        have hv := hmiss hq
        clear hhit hmiss hq
        go_wp2
        refine wp_region_ext (by kernel_rfl) (by kernel_rfl) ?_
        repeat (first | go_big_quiet_step ((go_at_call 90; with_reducible exact Calls.ext_all (fun W _ => hcall W))) | quiet_step ((go_at_call 90; with_reducible exact Calls.ext_all (fun W _ => hcall W))))
        refine wpQuiet_nil ?_
        intro w2 hq2
        have hb2 := ext_of_class hq2
        clear hq2
        obtain ⟨hc2, hf2, hz2⟩ := bcell3 hb2
        try simp at hz2
        go_wp2
        go_roundg (ms.length - (k + 1))
        case rel => exact ⟨k + 1, rfl, hkl, rfl, by ((repeat (first | with_reducible exact Ext.refl _ | with_reducible exact hw | with_reducible exact hb9 | with_reducible exact hb8 | with_reducible exact hb7 | with_reducible exact hb6 | with_reducible exact hb5 | with_reducible exact hb4 | with_reducible exact hb3 | with_reducible exact hb2 | with_reducible exact hb1 | with_reducible refine Ext.alloc ?_ _ | with_reducible refine Ext.drew ?_ | ((with_reducible refine Ext.set ?_ ?_ _); focus (dsimp only; omega)) | with_reducible refine Ext.trans ?_ hb9 | with_reducible refine Ext.trans ?_ hb8 | with_reducible refine Ext.trans ?_ hb7 | with_reducible refine Ext.trans ?_ hb6 | with_reducible refine Ext.trans ?_ hb5 | with_reducible refine Ext.trans ?_ hb4 | with_reducible refine Ext.trans ?_ hb3 | with_reducible refine Ext.trans ?_ hb2 | with_reducible refine Ext.trans ?_ hb1 | with_reducible refine Ext.trans ?_ hw))), hB.ext hb2, by rw [hv.out]; exact hO.ext hb2⟩
        case measure => omega
    · obtain rfl : k = ms.length := by omega
      go_wp2
      go_ret
      exact ⟨_, rfl, hO.lower (by omega), hw⟩
end Go.Proofs.YtegopgpnjgikeaaGreatDoor
