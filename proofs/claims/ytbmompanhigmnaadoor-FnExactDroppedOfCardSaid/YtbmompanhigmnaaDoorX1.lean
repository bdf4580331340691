/-
  Contracts of the functions that ask whether a mix is valid, and of the check of a word.
-/
import Derived.Test.YtbmompanhigmnaaDoorH0
import Derived.Test.YtbmompanhigmnaaDoorC3
import Derived.Test.YtbmompanhigmnaaDoorF6
import Derived.Test.YtbmompanhigmnaaDoorG7
import Derived.Test.YtbmompanhigmnaaDoorL6
import Derived.RegionTactic
import Derived.ChangeAlike
set_option linter.unusedVariables false
set_option linter.unusedSimpArgs false
set_option maxRecDepth 100000
namespace Go.Proofs.YtbmompanhigmnaaDoor
open Go.RowKit
def MxIn (x : Mx) : Prop := (-32768 ≤ x.st ∧ x.st < 32768) ∧ (-32768 ≤ x.sz ∧ x.sz < 32768) ∧ (-32768 ≤ x.per ∧ x.per < 32768)
/-- A mix lies at an address. -/
def MixAt (w : World) (b o : Nat) (x : Mx) : Prop := w.cell? ⟨b, o, none⟩ = some (.int .i16 x.st) ∧ w.cell? ⟨b, o + 1, none⟩ = some (.int .i16 x.sz) ∧ w.cell? ⟨b, o + 2, none⟩ = some (.int .i16 x.per)
theorem MixAt.ext {w w' : World} {b o : Nat} {x : Mx} (h : MixAt w b o x) (hb : Ext w w') : MixAt w' b o x := ⟨hb.cell h.1, hb.cell h.2.1, hb.cell h.2.2⟩
theorem MixAt.lt {w : World} {b o : Nat} {x : Mx} (h : MixAt w b o x) : b < w.heap.size := World.block_lt_of_cell? _ _ h.1
theorem mix_no {x : Mx} (h : ¬ (4 ≤ x.sz ∧ x.sz ≤ 96 ∧ 1 ≤ x.per ∧ x.per ≤ 8 ∧ 2 * x.per ≤ x.sz ∧ 0 ≤ x.st ∧ x.st ≤ 96 - x.sz)) : mixB x = false := by
  cases hq : mixB x with
  | false => rfl
  | true => exact absurd ((mixB_iff x).1 hq) h
set_option maxHeartbeats 400000 in
theorem impl_isMix (x : Mx) (hx : MxIn x) (w : World) :
    Calls Tryd.prog 45 #[.agg #[.int .i16 x.st, .int .i16 x.sz, .int .i16 x.per]] w fun e w' => e = .returned (.bool (mixB x)) ∧ Ext w w' := by
  obtain ⟨st, sz, per⟩ := x
  obtain ⟨⟨s0, s1⟩, ⟨z0, z1⟩, ⟨p0, p1⟩⟩ := hx
  dsimp only at s0 s1 z0 z1 p0 p1
  by_cases a1 : 4 ≤ sz
  · by_cases a2 : sz ≤ 96
    · have wr : IntKind.i16.wrap (96 - sz) = 96 - sz := IntWalk.i16_in _ (by omega)
      have wq : IntKind.i16.wrap (sz / 2) = sz / 2 := IntWalk.i16_in _ (by omega)
      have tq : sz.tdiv 2 = sz / 2 := Int.tdiv_eq_ediv_of_nonneg (by omega)
      by_cases a3 : 1 ≤ per
      · by_cases a4 : per ≤ 8
        · by_cases a5 : per ≤ sz / 2
          · by_cases a6 : 0 ≤ st
            · by_cases a7 : st ≤ 96 - sz
              · have hv := hd (show mixB ⟨st, sz, per⟩ = true from (mixB_iff _).2 (by dsimp only; omega))
                go_enter Tryd.func45, Tryd.ntmps45
                go_wp2
                go_ret
                exact ⟨by rw [hv.out]; rfl, by ((repeat (first | with_reducible exact Ext.refl _ | with_reducible exact hw | with_reducible exact hb9 | with_reducible exact hb8 | with_reducible exact hb7 | with_reducible exact hb6 | with_reducible exact hb5 | with_reducible exact hb4 | with_reducible exact hb3 | with_reducible exact hb2 | with_reducible exact hb1 | with_reducible refine Ext.alloc ?_ _ | with_reducible refine Ext.drew ?_ | ((with_reducible refine Ext.set ?_ ?_ _); focus (dsimp only; omega)) | with_reducible refine Ext.trans ?_ hb9 | with_reducible refine Ext.trans ?_ hb8 | with_reducible refine Ext.trans ?_ hb7 | with_reducible refine Ext.trans ?_ hb6 | with_reducible refine Ext.trans ?_ hb5 | with_reducible refine Ext.trans ?_ hb4 | with_reducible refine Ext.trans ?_ hb3 | with_reducible refine Ext.trans ?_ hb2 | with_reducible refine Ext.trans ?_ hb1 | with_reducible refine Ext.trans ?_ hw)))⟩
              · have hv := hd (mix_no (x := ⟨st, sz, per⟩) (by dsimp only; omega))
                go_enter Tryd.func45, Tryd.ntmps45
                go_wp2
                go_ret
                exact ⟨by rw [hv.out]; rfl, by ((repeat (first | with_reducible exact Ext.refl _ | with_reducible exact hw | with_reducible exact hb9 | with_reducible exact hb8 | with_reducible exact hb7 | with_reducible exact hb6 | with_reducible exact hb5 | with_reducible exact hb4 | with_reducible exact hb3 | with_reducible exact hb2 | with_reducible exact hb1 | with_reducible refine Ext.alloc ?_ _ | with_reducible refine Ext.drew ?_ | ((with_reducible refine Ext.set ?_ ?_ _); focus (dsimp only; omega)) | with_reducible refine Ext.trans ?_ hb9 | with_reducible refine Ext.trans ?_ hb8 | with_reducible refine Ext.trans ?_ hb7 | with_reducible refine Ext.trans ?_ hb6 | with_reducible refine Ext.trans ?_ hb5 | with_reducible refine Ext.trans ?_ hb4 | with_reducible refine Ext.trans ?_ hb3 | with_reducible refine Ext.trans ?_ hb2 | with_reducible refine Ext.trans ?_ hb1 | with_reducible refine Ext.trans ?_ hw)))⟩
            · have hv := hd (mix_no (x := ⟨st, sz, per⟩) (by dsimp only; omega))
              go_enter Tryd.func45, Tryd.ntmps45
              go_wp2
              go_ret
              exact ⟨by rw [hv.out]; rfl, by ((repeat (first | with_reducible exact Ext.refl _ | with_reducible exact hw | with_reducible exact hb9 | with_reducible exact hb8 | with_reducible exact hb7 | with_reducible exact hb6 | with_reducible exact hb5 | with_reducible exact hb4 | with_reducible exact hb3 | with_reducible exact hb2 | with_reducible exact hb1 | with_reducible refine Ext.alloc ?_ _ | with_reducible refine Ext.drew ?_ | ((with_reducible refine Ext.set ?_ ?_ _); focus (dsimp only; omega)) | with_reducible refine Ext.trans ?_ hb9 | with_reducible refine Ext.trans ?_ hb8 | with_reducible refine Ext.trans ?_ hb7 | with_reducible refine Ext.trans ?_ hb6 | with_reducible refine Ext.trans ?_ hb5 | with_reducible refine Ext.trans ?_ hb4 | with_reducible refine Ext.trans ?_ hb3 | with_reducible refine Ext.trans ?_ hb2 | with_reducible refine Ext.trans ?_ hb1 | with_reducible refine Ext.trans ?_ hw)))⟩
          · have hv := hd (mix_no (x := ⟨st, sz, per⟩) (by dsimp only; omega))
            go_enter Tryd.func45, Tryd.ntmps45
            go_wp2
            go_ret
            exact ⟨by rw [hv.out]; rfl, by ((repeat (first | with_reducible exact Ext.refl _ | with_reducible exact hw | with_reducible exact hb9 | with_reducible exact hb8 | with_reducible exact hb7 | with_reducible exact hb6 | with_reducible exact hb5 | with_reducible exact hb4 | with_reducible exact hb3 | with_reducible exact hb2 | with_reducible exact hb1 | with_reducible refine Ext.alloc ?_ _ | with_reducible refine Ext.drew ?_ | ((with_reducible refine Ext.set ?_ ?_ _); focus (dsimp only; omega)) | with_reducible refine Ext.trans ?_ hb9 | with_reducible refine Ext.trans ?_ hb8 | with_reducible refine Ext.trans ?_ hb7 | with_reducible refine Ext.trans ?_ hb6 | with_reducible refine Ext.trans ?_ hb5 | with_reducible refine Ext.trans ?_ hb4 | with_reducible refine Ext.trans ?_ hb3 | with_reducible refine Ext.trans ?_ hb2 | with_reducible refine Ext.trans ?_ hb1 | with_reducible refine Ext.trans ?_ hw)))⟩
        · have hv := hd (mix_no (x := ⟨st, sz, per⟩) (by dsimp only; omega))
          go_enter Tryd.func45, Tryd.ntmps45
          go_wp2
          go_ret
          exact ⟨by rw [hv.out]; rfl, by ((repeat (first | with_reducible exact Ext.refl _ | with_reducible exact hw | with_reducible exact hb9 | with_reducible exact hb8 | with_reducible exact hb7 | with_reducible exact hb6 | with_reducible exact hb5 | with_reducible exact hb4 | with_reducible exact hb3 | with_reducible exact hb2 | with_reducible exact hb1 | with_reducible refine Ext.alloc ?_ _ | with_reducible refine Ext.drew ?_ | ((with_reducible refine Ext.set ?_ ?_ _); focus (dsimp only; omega)) | with_reducible refine Ext.trans ?_ hb9 | with_reducible refine Ext.trans ?_ hb8 | with_reducible refine Ext.trans ?_ hb7 | with_reducible refine Ext.trans ?_ hb6 | with_reducible refine Ext.trans ?_ hb5 | with_reducible refine Ext.trans ?_ hb4 | with_reducible refine Ext.trans ?_ hb3 | with_reducible refine Ext.trans ?_ hb2 | with_reducible refine Ext.trans ?_ hb1 | with_reducible refine Ext.trans ?_ hw)))⟩
      · have hv := hd (mix_no (x := ⟨st, sz, per⟩) (by dsimp only; omega))
        go_enter Tryd.func45, Tryd.ntmps45
        go_wp2
        go_ret
        exact ⟨by rw [hv.out]; rfl, by ((repeat (first | with_reducible exact Ext.refl _ | with_reducible exact hw | with_reducible exact hb9 | with_reducible exact hb8 | with_reducible exact hb7 | with_reducible exact hb6 | with_reducible exact hb5 | with_reducible exact hb4 | with_reducible exact hb3 | with_reducible exact hb2 | with_reducible exact hb1 | with_reducible refine Ext.alloc ?_ _ | with_reducible refine Ext.drew ?_ | ((with_reducible refine Ext.set ?_ ?_ _); focus (dsimp only; omega)) | with_reducible refine Ext.trans ?_ hb9 | with_reducible refine Ext.trans ?_ hb8 | with_reducible refine Ext.trans ?_ hb7 | with_reducible refine Ext.trans ?_ hb6 | with_reducible refine Ext.trans ?_ hb5 | with_reducible refine Ext.trans ?_ hb4 | with_reducible refine Ext.trans ?_ hb3 | with_reducible refine Ext.trans ?_ hb2 | with_reducible refine Ext.trans ?_ hb1 | with_reducible refine Ext.trans ?_ hw)))⟩
    · have hv := hd (mix_no (x := ⟨st, sz, per⟩) (by dsimp only; omega))
      go_enter Tryd.func45, Tryd.ntmps45
      go_wp2
      go_ret
      exact ⟨by rw [hv.out]; rfl, by ((repeat (first | with_reducible exact Ext.refl _ | with_reducible exact hw | with_reducible exact hb9 | with_reducible exact hb8 | with_reducible exact hb7 | with_reducible exact hb6 | with_reducible exact hb5 | with_reducible exact hb4 | with_reducible exact hb3 | with_reducible exact hb2 | with_reducible exact hb1 | with_reducible refine Ext.alloc ?_ _ | with_reducible refine Ext.drew ?_ | ((with_reducible refine Ext.set ?_ ?_ _); focus (dsimp only; omega)) | with_reducible refine Ext.trans ?_ hb9 | with_reducible refine Ext.trans ?_ hb8 | with_reducible refine Ext.trans ?_ hb7 | with_reducible refine Ext.trans ?_ hb6 | with_reducible refine Ext.trans ?_ hb5 | with_reducible refine Ext.trans ?_ hb4 | with_reducible refine Ext.trans ?_ hb3 | with_reducible refine Ext.trans ?_ hb2 | with_reducible refine Ext.trans ?_ hb1 | with_reducible refine Ext.trans ?_ hw)))⟩
  · have hv := hd (mix_no (x := ⟨st, sz, per⟩) (by dsimp only; omega))
    go_enter Tryd.func45, Tryd.ntmps45
    go_wp2
    go_ret
    exact ⟨by rw [hv.out]; rfl, by ((repeat (first | with_reducible exact Ext.refl _ | with_reducible exact hw | with_reducible exact hb9 | with_reducible exact hb8 | with_reducible exact hb7 | with_reducible exact hb6 | with_reducible exact hb5 | with_reducible exact hb4 | with_reducible exact hb3 | with_reducible exact hb2 | with_reducible exact hb1 | with_reducible refine Ext.alloc ?_ _ | with_reducible refine Ext.drew ?_ | ((with_reducible refine Ext.set ?_ ?_ _); focus (dsimp only; omega)) | with_reducible refine Ext.trans ?_ hb9 | with_reducible refine Ext.trans ?_ hb8 | with_reducible refine Ext.trans ?_ hb7 | with_reducible refine Ext.trans ?_ hb6 | with_reducible refine Ext.trans ?_ hb5 | with_reducible refine Ext.trans ?_ hb4 | with_reducible refine Ext.trans ?_ hb3 | with_reducible refine Ext.trans ?_ hb2 | with_reducible refine Ext.trans ?_ hb1 | with_reducible refine Ext.trans ?_ hw)))⟩
set_option maxHeartbeats 400000 in
theorem spec_l03Ok (x : Mx) (hx : MxIn x) (b o : Nat) (w : World) (hA : MixAt w b o x) :
    Calls Tryd.prog 42 #[.pointer (some ⟨b, o, none⟩)] w fun e w' => e = .returned (.bool (mixB x)) ∧ Ext w w' := by
  have hx := @ExtOf.cell
  obtain ⟨st, sz, per⟩ := x
  obtain ⟨⟨s0, s1⟩, ⟨z0, z1⟩, ⟨p0, p1⟩⟩ := hx
  have hlt := hA.lt
  obtain ⟨c0, c1, c2⟩ := hA
  dsimp only at s0 s1 z0 z1 p0 p1 c0 c1 c2
  have wr1 : IntKind.i64.wrap st = st := IntWalk.i64_in _ (by omega)
  have wr2 : IntKind.i64.wrap sz = sz := IntWalk.i64_in _ (by omega)
  have wr3 : IntKind.i64.wrap per = per := IntWalk.i64_in _ (by omega)
  have hi1 := fun W => spec_l00In sz 4 96 W
  have hi2 := fun W => spec_l00In per 1 8 W
  have hi3 := fun W => spec_l00In st 0 (96 - sz) W
  by_cases a1 : 4 ≤ sz ∧ sz ≤ 96
  · have wr4 : IntKind.i64.wrap (96 - sz) = 96 - sz := IntWalk.i64_in _ (by omega)
    rw [show inB sz 4 96 = true by simp [inB, a1.1, a1.2]] at hi1
    by_cases a2 : 1 ≤ per ∧ per ≤ 8
    · have wr5 : IntKind.i16.wrap (2 * per) = 2 * per := IntWalk.i16_in _ (by omega)
      rw [show inB per 1 8 = true by simp [inB, a2.1, a2.2]] at hi2
      by_cases a3 : 2 * per ≤ sz
      · have hv := hd (show mixB ⟨st, sz, per⟩ = inB st 0 (96 - sz) by
          unfold inB
          rw [← Bool.decide_and, Bool.eq_iff_iff, mixB_iff, decide_eq_true_iff]
          dsimp only
          omega)
        generalize inB st 0 (96 - sz) = q at hi3 hv
        clear a1 a2
        go_enter Tryd.func42, Tryd.ntmps42
        go_wp2
        refine wp_region_ext (by kernel_rfl) (by kernel_rfl) ?_
        repeat (first | go_big_quiet_step ((first | (go_at_call 71; with_reducible exact Calls.ext_all (fun W _ => hi1 W)) | (go_at_call 71; with_reducible exact Calls.ext_all (fun W _ => hi2 W)) | (go_at_call 71; with_reducible exact Calls.ext_all (fun W _ => hi3 W)))) | quiet_step ((first | (go_at_call 71; with_reducible exact Calls.ext_all (fun W _ => hi1 W)) | (go_at_call 71; with_reducible exact Calls.ext_all (fun W _ => hi2 W)) | (go_at_call 71; with_reducible exact Calls.ext_all (fun W _ => hi3 W)))))
        refine wpQuiet_nil ?_
        intro w1 hq1
        have hb1 := ext_of_class hq1
        clear hq1
        obtain ⟨hc1, hf1, hz1⟩ := bcell3 hb1
        try simp at hz1
        go_wp2
        go_ret
        exact ⟨by rw [hv.out]; rfl, by ((repeat (first | with_reducible exact Ext.refl _ | with_reducible exact hw | with_reducible exact hb9 | with_reducible exact hb8 | with_reducible exact hb7 | with_reducible exact hb6 | with_reducible exact hb5 | with_reducible exact hb4 | with_reducible exact hb3 | with_reducible exact hb2 | with_reducible exact hb1 | with_reducible refine Ext.alloc ?_ _ | with_reducible refine Ext.drew ?_ | ((with_reducible refine Ext.set ?_ ?_ _); focus (dsimp only; omega)) | with_reducible refine Ext.trans ?_ hb9 | with_reducible refine Ext.trans ?_ hb8 | with_reducible refine Ext.trans ?_ hb7 | with_reducible refine Ext.trans ?_ hb6 | with_reducible refine Ext.trans ?_ hb5 | with_reducible refine Ext.trans ?_ hb4 | with_reducible refine Ext.trans ?_ hb3 | with_reducible refine Ext.trans ?_ hb2 | with_reducible refine Ext.trans ?_ hb1 | with_reducible refine Ext.trans ?_ hw)))⟩
      · have hv := hd (mix_no (x := ⟨st, sz, per⟩) (by dsimp only; omega))
        have q3 : decide (2 * per ≤ sz) = false := decide_eq_false a3
        have q4 : (2 * per ≤ sz) = False := eq_false a3
        clear a1 a2
        go_enter Tryd.func42, Tryd.ntmps42
        go_wp2
        refine wp_region_ext (by kernel_rfl) (by kernel_rfl) ?_
        repeat (first | go_big_quiet_step ((first | (go_at_call 71; with_reducible exact Calls.ext_all (fun W _ => hi1 W)) | (go_at_call 71; with_reducible exact Calls.ext_all (fun W _ => hi2 W)))) | quiet_step ((first | (go_at_call 71; with_reducible exact Calls.ext_all (fun W _ => hi1 W)) | (go_at_call 71; with_reducible exact Calls.ext_all (fun W _ => hi2 W)))))
        refine wpQuiet_nil ?_
        intro w1 hq1
        have hb1 := ext_of_class hq1
        clear hq1
        obtain ⟨hc1, hf1, hz1⟩ := bcell3 hb1
        try simp at hz1
        go_wp2
        go_ret
        exact ⟨by rw [hv.out]; rfl, by ((repeat (first | with_reducible exact Ext.refl _ | with_reducible exact hw | with_reducible exact hb9 | with_reducible exact hb8 | with_reducible exact hb7 | with_reducible exact hb6 | with_reducible exact hb5 | with_reducible exact hb4 | with_reducible exact hb3 | with_reducible exact hb2 | with_reducible exact hb1 | with_reducible refine Ext.alloc ?_ _ | with_reducible refine Ext.drew ?_ | ((with_reducible refine Ext.set ?_ ?_ _); focus (dsimp only; omega)) | with_reducible refine Ext.trans ?_ hb9 | with_reducible refine Ext.trans ?_ hb8 | with_reducible refine Ext.trans ?_ hb7 | with_reducible refine Ext.trans ?_ hb6 | with_reducible refine Ext.trans ?_ hb5 | with_reducible refine Ext.trans ?_ hb4 | with_reducible refine Ext.trans ?_ hb3 | with_reducible refine Ext.trans ?_ hb2 | with_reducible refine Ext.trans ?_ hb1 | with_reducible refine Ext.trans ?_ hw)))⟩
    · have hv := hd (mix_no (x := ⟨st, sz, per⟩) (by dsimp only; omega))
      rw [show inB per 1 8 = false by simp only [inB, Bool.and_eq_false_iff, decide_eq_false_iff_not]; omega] at hi2
      clear a1 a2
      go_enter Tryd.func42, Tryd.ntmps42
      go_wp2
      refine wp_region_ext (by kernel_rfl) (by kernel_rfl) ?_
      repeat (first | go_big_quiet_step ((first | (go_at_call 71; with_reducible exact Calls.ext_all (fun W _ => hi1 W)) | (go_at_call 71; with_reducible exact Calls.ext_all (fun W _ => hi2 W)))) | quiet_step ((first | (go_at_call 71; with_reducible exact Calls.ext_all (fun W _ => hi1 W)) | (go_at_call 71; with_reducible exact Calls.ext_all (fun W _ => hi2 W)))))
      refine wpQuiet_nil ?_
      intro w1 hq1
      have hb1 := ext_of_class hq1
      clear hq1
      obtain ⟨hc1, hf1, hz1⟩ := bcell3 hb1
      try simp at hz1
      go_wp2
      go_ret
      exact ⟨by rw [hv.out]; rfl, by ((repeat (first | with_reducible exact Ext.refl _ | with_reducible exact hw | with_reducible exact hb9 | with_reducible exact hb8 | with_reducible exact hb7 | with_reducible exact hb6 | with_reducible exact hb5 | with_reducible exact hb4 | with_reducible exact hb3 | with_reducible exact hb2 | with_reducible exact hb1 | with_reducible refine Ext.alloc ?_ _ | with_reducible refine Ext.drew ?_ | ((with_reducible refine Ext.set ?_ ?_ _); focus (dsimp only; omega)) | with_reducible refine Ext.trans ?_ hb9 | with_reducible refine Ext.trans ?_ hb8 | with_reducible refine Ext.trans ?_ hb7 | with_reducible refine Ext.trans ?_ hb6 | with_reducible refine Ext.trans ?_ hb5 | with_reducible refine Ext.trans ?_ hb4 | with_reducible refine Ext.trans ?_ hb3 | with_reducible refine Ext.trans ?_ hb2 | with_reducible refine Ext.trans ?_ hb1 | with_reducible refine Ext.trans ?_ hw)))⟩
  · have hv := hd (mix_no (x := ⟨st, sz, per⟩) (by dsimp only; omega))
    rw [show inB sz 4 96 = false by simp only [inB, Bool.and_eq_false_iff, decide_eq_false_iff_not]; omega] at hi1
    clear a1
    go_enter Tryd.func42, Tryd.ntmps42
    go_wp2
    refine wp_region_ext (by kernel_rfl) (by kernel_rfl) ?_
    repeat (first | go_big_quiet_step (((go_at_call 71; with_reducible exact Calls.ext_all (fun W _ => hi1 W)))) | quiet_step (((go_at_call 71; with_reducible exact Calls.ext_all (fun W _ => hi1 W)))))
    refine wpQuiet_nil ?_
    intro w1 hq1
    have hb1 := ext_of_class hq1
    clear hq1
    obtain ⟨hc1, hf1, hz1⟩ := bcell3 hb1
    try simp at hz1
    go_wp2
    go_ret
    exact ⟨by rw [hv.out]; rfl, by ((repeat (first | with_reducible exact Ext.refl _ | with_reducible exact hw | with_reducible exact hb9 | with_reducible exact hb8 | with_reducible exact hb7 | with_reducible exact hb6 | with_reducible exact hb5 | with_reducible exact hb4 | with_reducible exact hb3 | with_reducible exact hb2 | with_reducible exact hb1 | with_reducible refine Ext.alloc ?_ _ | with_reducible refine Ext.drew ?_ | ((with_reducible refine Ext.set ?_ ?_ _); focus (dsimp only; omega)) | with_reducible refine Ext.trans ?_ hb9 | with_reducible refine Ext.trans ?_ hb8 | with_reducible refine Ext.trans ?_ hb7 | with_reducible refine Ext.trans ?_ hb6 | with_reducible refine Ext.trans ?_ hb5 | with_reducible refine Ext.trans ?_ hb4 | with_reducible refine Ext.trans ?_ hb3 | with_reducible refine Ext.trans ?_ hb2 | with_reducible refine Ext.trans ?_ hb1 | with_reducible refine Ext.trans ?_ hw)))⟩
set_option maxHeartbeats 400000 in
theorem impl_wordCheck (s : ByteArray) (hs : s.size ≤ 9223372036854775807) (w : World) :
    Calls Tryd.prog 101 #[.string s] w fun e w' => e = .returned (.int .u32 (chkTo s s.size)) ∧ Ext w w' := by
  go_enter Tryd.func101, Tryd.ntmps101
  go_wp2
  go_loopg [7, 3] s.size (fun g i c wr => ∃ k : Nat, ∃ n : Int, g = s.size - k ∧ k ≤ s.size ∧ i = .int .i64 k ∧ c = .int .u32 n ∧ chkTo s k = n ∧ Ext w wr)
  case atStart => exact ⟨0, 1, by omega, by omega, rfl, rfl, chkTo_zero s, Ext.refl _⟩
  case round =>
    obtain ⟨k, n, hg, hk, rfl, rfl, hN, hw⟩ := hrel
    by_cases hkl : k < s.size
    · have hsu := chkTo_succ s k
      have hgd : s.data.toList.getD k 0 = s[k] := by
        rw [List.getD, List.getElem?_eq_getElem (by simpa using hkl)]
        simp
        rfl
      rw [hN, hgd] at hsu
      have hsu := hd hsu
      clear hgd hN
      go_wp2
      go_roundg (s.size - (k + 1))
      case rel => exact ⟨k + 1, _, rfl, hkl, rfl, rfl, by rw [hsu.out]; omega, hw⟩
      case measure => omega
    · obtain rfl : k = s.size := by omega
      have hN := hd hN
      go_wp2
      go_ret
      exact ⟨by rw [← hN.out]; rfl, hw⟩
set_option maxHeartbeats 400000 in
theorem spec_l03Check (s : ByteArray) (hs : s.size ≤ 9223372036854775807) (w : World) :
    Calls Tryd.prog 107 #[.string s] w fun e w' => e = .returned (.int .u32 (chkTo s s.size)) ∧ Ext w w' := by
  go_enter Tryd.func107, Tryd.ntmps107
  go_wp2
  go_loopg [4, 3] s.size (fun g i c wr => ∃ k : Nat, ∃ n : Int, g = s.size - k ∧ k ≤ s.size ∧ i = .int .i64 k ∧ c = .int .u32 n ∧ chkTo s k = n ∧ Ext w wr)
  case atStart => exact ⟨0, 1, by omega, by omega, rfl, rfl, chkTo_zero s, Ext.refl _⟩
  case round =>
    obtain ⟨k, n, hg, hk, rfl, rfl, hN, hw⟩ := hrel
    by_cases hkl : k < s.size
    · have hsu := chkTo_succ s k
      have hgd : s.data.toList.getD k 0 = s[k] := by
        rw [List.getD, List.getElem?_eq_getElem (by simpa using hkl)]
        simp
        rfl
      rw [hN, hgd] at hsu
      have hsu := hd hsu
      clear hgd hN
      go_wp2
      go_roundg (s.size - (k + 1))
      case rel => exact ⟨k + 1, _, rfl, hkl, rfl, rfl, by rw [hsu.out]; omega, hw⟩
      case measure => omega
    · obtain rfl : k = s.size := by omega
      have hN := hd hN
      go_wp2
      go_ret
      exact ⟨by rw [← hN.out]; rfl, hw⟩
end Go.Proofs.YtbmompanhigmnaaDoor
