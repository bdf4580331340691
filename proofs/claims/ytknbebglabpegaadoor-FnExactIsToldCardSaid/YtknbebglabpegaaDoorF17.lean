/-
  Contracts of IsTold, program's and reference's, and the walk of the law FnExactIsTold.
-/
import Derived.Test.YtknbebglabpegaaDoorF12
import Derived.Test.YtknbebglabpegaaDoorF8
import Derived.Test.YtknbebglabpegaaDoorK1
set_option linter.unusedVariables false
set_option linter.unusedSimpArgs false
set_option maxRecDepth 100000
namespace Go.Proofs.YtknbebglabpegaaDoor
open Go.RowKit
theorem toldF_bad {f : Fld} {v : Int} {t u : Mask} (h : (fldB f && isWearB t u) = false) : toldF f v t u = (false, 1) := by unfold toldF; rw [h]; rfl
theorem toldF_far {f : Fld} {v : Int} {t u : Mask} (h : (fldB f && isWearB t u) = true) (h2 : ¬ (0 ≤ v ∧ v ≤ mostF f)) : toldF f v t u = (false, 2) := by unfold toldF; rw [if_pos h, if_neg h2]
theorem toldF_err {f : Fld} {v : Int} {t u : Mask} (h : (fldB f && isWearB t u) = true) (h2 : 0 ≤ v ∧ v ≤ mostF f) (h3 : (valueF f (wornM t u (codeF f v))).2 ≠ 0) : toldF f v t u = (true, 0) := by
  unfold toldF; rw [if_pos h, if_pos h2]
  rw [decide_eq_true (show (valueF f (mless (mjoin (codeF f v) t) u)).2 ≠ 0 ∨ _ from .inl h3)]
theorem toldF_val {f : Fld} {v : Int} {t u : Mask} (h : (fldB f && isWearB t u) = true) (h2 : 0 ≤ v ∧ v ≤ mostF f) (h3 : (valueF f (wornM t u (codeF f v))).2 = 0) : toldF f v t u = ((valueF f (wornM t u (codeF f v))).1 == v, 0) := by
  unfold toldF; rw [if_pos h, if_pos h2]
  congr 1
  rw [Bool.eq_iff_iff, decide_eq_true_eq, beq_iff_eq]
  exact ⟨fun h => h.resolve_left (fun h4 => h4 h3), .inr⟩
set_option maxHeartbeats 1000000 in
theorem impl_IsTold (nm : ByteArray) (kd st sz : Int) (hok : Fld.ok ⟨nm, kd, st, sz⟩) (hnmx : nm.size ≤ 9223372036854775807) (v : Int) (t u : Mask) (w : World) :
    Calls Tryd.prog 18 #[.agg #[.string nm, .int .i8 kd, .int .i16 st, .int .i16 sz], .int .i64 v, .agg #[.int .u64 (lo t), .int .u64 (hi t), .int .u64 (lo u), .int .u64 (hi u)]] w fun e w' => e = .returned (.tuple #[.bool (toldF ⟨nm, kd, st, sz⟩ v t u).1, .int .i64 (toldF ⟨nm, kd, st, sz⟩ v t u).2]) ∧ Ext w w' := by
  have hx := @ExtOf.cell
  obtain ⟨⟨a0, a1⟩, ⟨a2, a3⟩, a4, a5⟩ := hok
  dsimp only at a0 a1 a2 a3 a4 a5
  have hif := fun W => impl_isField nm kd st sz a0 a1 a2 a3 a4 a5 hnmx W
  cases hf : fldB ⟨nm, kd, st, sz⟩ with
  | false =>
    have hv := hd (toldF_bad (f := ⟨nm, kd, st, sz⟩) (v := v) (t := t) (u := u) (by rw [hf]; rfl))
    rw [hf] at hif
    go_enter Tryd.func18, Tryd.ntmps18
    go_wp2_with fail
    refine Calls.mono (hif _) ?_
    rintro e w1 ⟨rfl, hb1⟩
    go_wp2
    refine bodyPost_ret (v := .tuple #[.bool false, .int .i64 1]) (by simp [results, Tryd.results18, go_sem]) rfl ⟨by rw [hv.out], ?_⟩
    (repeat (first | with_reducible exact Ext.refl _ | with_reducible exact hw | with_reducible exact hb9 | with_reducible exact hb8 | with_reducible exact hb7 | with_reducible exact hb6 | with_reducible exact hb5 | with_reducible exact hb4 | with_reducible exact hb3 | with_reducible exact hb2 | with_reducible exact hb1 | with_reducible refine Ext.alloc ?_ _ | with_reducible refine Ext.drew ?_ | ((with_reducible refine Ext.set ?_ ?_ _); focus (dsimp only; omega)) | with_reducible refine Ext.trans ?_ hb9 | with_reducible refine Ext.trans ?_ hb8 | with_reducible refine Ext.trans ?_ hb7 | with_reducible refine Ext.trans ?_ hb6 | with_reducible refine Ext.trans ?_ hb5 | with_reducible refine Ext.trans ?_ hb4 | with_reducible refine Ext.trans ?_ hb3 | with_reducible refine Ext.trans ?_ hb2 | with_reducible refine Ext.trans ?_ hb1 | with_reducible refine Ext.trans ?_ hw))
  | true =>
    rw [hf] at hif
    have him := fun W => impl_isWear t u W
    cases hm : isWearB t u with
    | false =>
      have hv := hd (toldF_bad (f := ⟨nm, kd, st, sz⟩) (v := v) (t := t) (u := u) (by rw [hf, hm]; rfl))
      rw [hm] at him
      go_enter Tryd.func18, Tryd.ntmps18
      go_wp2_with fail
      refine Calls.mono (hif _) ?_
      rintro e w1 ⟨rfl, hb1⟩
      obtain ⟨hc1, hf1, hz1⟩ := bcell3 hb1
      try simp at hz1
      have hz1_0 : w.heap.size < w1.heap.size := by omega
      have hz1_1 : w.heap.size + 1 < w1.heap.size := by omega
      go_wp2_with fail
      refine Calls.mono (him _) ?_
      rintro e w2 ⟨rfl, hb2⟩
      go_wp2
      refine bodyPost_ret (v := .tuple #[.bool false, .int .i64 1]) (by simp [results, Tryd.results18, go_sem]) rfl ⟨by rw [hv.out], ?_⟩
      (repeat (first | with_reducible exact Ext.refl _ | with_reducible exact hw | with_reducible exact hb9 | with_reducible exact hb8 | with_reducible exact hb7 | with_reducible exact hb6 | with_reducible exact hb5 | with_reducible exact hb4 | with_reducible exact hb3 | with_reducible exact hb2 | with_reducible exact hb1 | with_reducible refine Ext.alloc ?_ _ | with_reducible refine Ext.drew ?_ | ((with_reducible refine Ext.set ?_ ?_ _); focus (dsimp only; omega)) | with_reducible refine Ext.trans ?_ hb9 | with_reducible refine Ext.trans ?_ hb8 | with_reducible refine Ext.trans ?_ hb7 | with_reducible refine Ext.trans ?_ hb6 | with_reducible refine Ext.trans ?_ hb5 | with_reducible refine Ext.trans ?_ hb4 | with_reducible refine Ext.trans ?_ hb3 | with_reducible refine Ext.trans ?_ hb2 | with_reducible refine Ext.trans ?_ hb1 | with_reducible refine Ext.trans ?_ hw))
    | true =>
      rw [hm] at him
      have hok : (fldB ⟨nm, kd, st, sz⟩ && isWearB t u) = true := by rw [hf, hm]; rfl
      obtain ⟨_, k0, k3, s0, z0, z1, z2⟩ := fldB_parts hf
      dsimp only at k0 k3 s0 z0 z1 z2
      have hmo := fun W => impl_most nm kd st sz k0 k3 z0 z1 W
      by_cases v0 : v < 0
      · have hv := hd (toldF_far hok (v := v) (fun h => by omega))
        clear hmo
        go_enter Tryd.func18, Tryd.ntmps18
        go_wp2_with fail
        refine Calls.mono (hif _) ?_
        rintro e w1 ⟨rfl, hb1⟩
        obtain ⟨hc1, hf1, hz1⟩ := bcell3 hb1
        try simp at hz1
        have hz1_0 : w.heap.size < w1.heap.size := by omega
        have hz1_1 : w.heap.size + 1 < w1.heap.size := by omega
        go_wp2_with fail
        refine Calls.mono (him _) ?_
        rintro e w2 ⟨rfl, hb2⟩
        go_wp2
        refine bodyPost_ret (v := .tuple #[.bool false, .int .i64 2]) (by simp [results, Tryd.results18, go_sem]) rfl ⟨by rw [hv.out], ?_⟩
        (repeat (first | with_reducible exact Ext.refl _ | with_reducible exact hw | with_reducible exact hb9 | with_reducible exact hb8 | with_reducible exact hb7 | with_reducible exact hb6 | with_reducible exact hb5 | with_reducible exact hb4 | with_reducible exact hb3 | with_reducible exact hb2 | with_reducible exact hb1 | with_reducible refine Ext.alloc ?_ _ | with_reducible refine Ext.drew ?_ | ((with_reducible refine Ext.set ?_ ?_ _); focus (dsimp only; omega)) | with_reducible refine Ext.trans ?_ hb9 | with_reducible refine Ext.trans ?_ hb8 | with_reducible refine Ext.trans ?_ hb7 | with_reducible refine Ext.trans ?_ hb6 | with_reducible refine Ext.trans ?_ hb5 | with_reducible refine Ext.trans ?_ hb4 | with_reducible refine Ext.trans ?_ hb3 | with_reducible refine Ext.trans ?_ hb2 | with_reducible refine Ext.trans ?_ hb1 | with_reducible refine Ext.trans ?_ hw))
      · by_cases v1 : mostF ⟨nm, kd, st, sz⟩ < v
        · have hv := hd (toldF_far hok (v := v) (fun h => by omega))
          generalize mostF ⟨nm, kd, st, sz⟩ = mo at hmo v1
          go_enter Tryd.func18, Tryd.ntmps18
          go_wp2_with fail
          refine Calls.mono (hif _) ?_
          rintro e w1 ⟨rfl, hb1⟩
          obtain ⟨hc1, hf1, hz1⟩ := bcell3 hb1
          try simp at hz1
          have hz1_0 : w.heap.size < w1.heap.size := by omega
          have hz1_1 : w.heap.size + 1 < w1.heap.size := by omega
          go_wp2_with fail
          refine Calls.mono (him _) ?_
          rintro e w2 ⟨rfl, hb2⟩
          obtain ⟨hc2, hf2, hz2⟩ := bcell3 hb2
          try simp at hz2
          have hz2_0 : w.heap.size < w2.heap.size := by omega
          have hz2_1 : w.heap.size + 1 < w2.heap.size := by omega
          go_wp2_with fail
          refine Calls.mono (hmo _) ?_
          rintro e w3 ⟨rfl, hb3⟩
          go_wp2
          refine bodyPost_ret (v := .tuple #[.bool false, .int .i64 2]) (by simp [results, Tryd.results18, go_sem]) rfl ⟨by rw [hv.out], ?_⟩
          (repeat (first | with_reducible exact Ext.refl _ | with_reducible exact hw | with_reducible exact hb9 | with_reducible exact hb8 | with_reducible exact hb7 | with_reducible exact hb6 | with_reducible exact hb5 | with_reducible exact hb4 | with_reducible exact hb3 | with_reducible exact hb2 | with_reducible exact hb1 | with_reducible refine Ext.alloc ?_ _ | with_reducible refine Ext.drew ?_ | ((with_reducible refine Ext.set ?_ ?_ _); focus (dsimp only; omega)) | with_reducible refine Ext.trans ?_ hb9 | with_reducible refine Ext.trans ?_ hb8 | with_reducible refine Ext.trans ?_ hb7 | with_reducible refine Ext.trans ?_ hb6 | with_reducible refine Ext.trans ?_ hb5 | with_reducible refine Ext.trans ?_ hb4 | with_reducible refine Ext.trans ?_ hb3 | with_reducible refine Ext.trans ?_ hb2 | with_reducible refine Ext.trans ?_ hb1 | with_reducible refine Ext.trans ?_ hw))
        · have henc := fun W => impl_encode nm kd st sz v hf (by omega) (by omega) W
          have hde := fun W => impl_decode nm kd st sz hf (wornM t u (codeF ⟨nm, kd, st, sz⟩ v)) W
          have herr := fun h3 => hd (toldF_err hok (v := v) ⟨by omega, by omega⟩ h3)
          have hval := fun h3 => hd (toldF_val hok (v := v) ⟨by omega, by omega⟩ h3)
          generalize mostF ⟨nm, kd, st, sz⟩ = mo at hmo v1
          have hon := fun W => impl_on t u (codeF ⟨nm, kd, st, sz⟩ v) W
          generalize codeF ⟨nm, kd, st, sz⟩ v = cm at henc hde herr hval hon
          generalize wornM t u cm = x at hde herr hval hon
          generalize valueF ⟨nm, kd, st, sz⟩ x = q at hde herr hval
          obtain ⟨n, c⟩ := q
          dsimp only at hde herr hval
          go_enter Tryd.func18, Tryd.ntmps18
          go_wp2_with fail
          refine Calls.mono (hif _) ?_
          rintro e w1 ⟨rfl, hb1⟩
          obtain ⟨hc1, hf1, hz1⟩ := bcell3 hb1
          try simp at hz1
          have hz1_0 : w.heap.size < w1.heap.size := by omega
          have hz1_1 : w.heap.size + 1 < w1.heap.size := by omega
          go_wp2_with fail
          refine Calls.mono (him _) ?_
          rintro e w2 ⟨rfl, hb2⟩
          obtain ⟨hc2, hf2, hz2⟩ := bcell3 hb2
          try simp at hz2
          have hz2_0 : w.heap.size < w2.heap.size := by omega
          have hz2_1 : w.heap.size + 1 < w2.heap.size := by omega
          go_wp2_with fail
          refine Calls.mono (hmo _) ?_
          rintro e w3 ⟨rfl, hb3⟩
          obtain ⟨hc3, hf3, hz3⟩ := bcell3 hb3
          try simp at hz3
          have hz3_0 : w.heap.size < w3.heap.size := by omega
          have hz3_1 : w.heap.size + 1 < w3.heap.size := by omega
          have m0 : w3.cell? ⟨w.heap.size, 0, none⟩ = some (.string nm) := hb3.cell (by go_simp)
          have m1 : w3.cell? ⟨w.heap.size, 1, none⟩ = some (.int .i8 kd) := hb3.cell (by go_simp)
          have m2 : w3.cell? ⟨w.heap.size, 2, none⟩ = some (.int .i16 st) := hb3.cell (by go_simp)
          have m3 : w3.cell? ⟨w.heap.size, 3, none⟩ = some (.int .i16 sz) := hb3.cell (by go_simp)
          have n0 : w3.cell? ⟨w.heap.size + 1, 0, none⟩ = some (.int .u64 (lo t)) := hb3.cell (by go_simp)
          have n1 : w3.cell? ⟨w.heap.size + 1, 1, none⟩ = some (.int .u64 (hi t)) := hb3.cell (by go_simp)
          have n2 : w3.cell? ⟨w.heap.size + 1, 2, none⟩ = some (.int .u64 (lo u)) := hb3.cell (by go_simp)
          have n3 : w3.cell? ⟨w.heap.size + 1, 3, none⟩ = some (.int .u64 (hi u)) := hb3.cell (by go_simp)
          have hw : Ext w w3 := by ((repeat (first | with_reducible exact Ext.refl _ | with_reducible exact hw | with_reducible exact hb9 | with_reducible exact hb8 | with_reducible exact hb7 | with_reducible exact hb6 | with_reducible exact hb5 | with_reducible exact hb4 | with_reducible exact hb3 | with_reducible exact hb2 | with_reducible exact hb1 | with_reducible refine Ext.alloc ?_ _ | with_reducible refine Ext.drew ?_ | ((with_reducible refine Ext.set ?_ ?_ _); focus (dsimp only; omega)) | with_reducible refine Ext.trans ?_ hb9 | with_reducible refine Ext.trans ?_ hb8 | with_reducible refine Ext.trans ?_ hb7 | with_reducible refine Ext.trans ?_ hb6 | with_reducible refine Ext.trans ?_ hb5 | with_reducible refine Ext.trans ?_ hb4 | with_reducible refine Ext.trans ?_ hb3 | with_reducible refine Ext.trans ?_ hb2 | with_reducible refine Ext.trans ?_ hb1 | with_reducible refine Ext.trans ?_ hw)))
          clear hc1 hf1 hb1 hc2 hf2 hb2 hc3 hf3 hb3 hz1 hz2 hz3 hz1_0 hz1_1 hz2_0 hz2_1
          by_cases hc : c = 0
          · have hv := hval hc
            subst hc
            clear herr hval
            go_wp2
            refine wp_region_ext (by kernel_rfl) (by kernel_rfl) ?_
            repeat (first | go_big_quiet_step ((first | (go_at_call 65; with_reducible exact Calls.ext_all (fun W _ => henc W)) | (go_at_call 73; with_reducible exact Calls.ext_all (fun W _ => hon W)) | (go_at_call 72; with_reducible exact Calls.ext_all (fun W _ => hde W)))) | quiet_step ((first | (go_at_call 65; with_reducible exact Calls.ext_all (fun W _ => henc W)) | (go_at_call 73; with_reducible exact Calls.ext_all (fun W _ => hon W)) | (go_at_call 72; with_reducible exact Calls.ext_all (fun W _ => hde W)))))
            refine wpQuiet_nil ?_
            intro w5 hq5
            have hb5 := ext_of_class hq5
            clear hq5
            obtain ⟨hc5, hf5, hz5⟩ := bcell3 hb5
            try simp at hz5
            go_wp2
            refine bodyPost_ret (v := .tuple #[.bool (n == v), .int .i64 0]) (by simp [results, Tryd.results18, go_sem]) rfl ⟨by rw [hv.out], hw.trans hb5⟩
          · have hv := herr hc
            have hc2 : (c != 0) = true := by simp [hc]
            clear herr hval
            go_wp2
            refine wp_region_ext (by kernel_rfl) (by kernel_rfl) ?_
            repeat (first | go_big_quiet_step ((first | (go_at_call 65; with_reducible exact Calls.ext_all (fun W _ => henc W)) | (go_at_call 73; with_reducible exact Calls.ext_all (fun W _ => hon W)) | (go_at_call 72; with_reducible exact Calls.ext_all (fun W _ => hde W)))) | quiet_step ((first | (go_at_call 65; with_reducible exact Calls.ext_all (fun W _ => henc W)) | (go_at_call 73; with_reducible exact Calls.ext_all (fun W _ => hon W)) | (go_at_call 72; with_reducible exact Calls.ext_all (fun W _ => hde W)))))
            refine wpQuiet_nil ?_
            intro w5 hq5
            have hb5 := ext_of_class hq5
            clear hq5
            obtain ⟨hc5, hf5, hz5⟩ := bcell3 hb5
            try simp at hz5
            go_wp2
            refine bodyPost_ret (v := .tuple #[.bool true, .int .i64 0]) (by simp [results, Tryd.results18, go_sem]) rfl ⟨by rw [hv.out], hw.trans hb5⟩
set_option maxHeartbeats 1000000 in
theorem spec_IsTold (nm : ByteArray) (kd st sz : Int) (hok : Fld.ok ⟨nm, kd, st, sz⟩) (hnmx : nm.size ≤ 9223372036854775807) (v : Int) (t u : Mask) (w : World) :
    Calls Tryd.prog 16 #[.agg #[.string nm, .int .i8 kd, .int .i16 st, .int .i16 sz], .int .i64 v, .agg #[.int .u64 (lo t), .int .u64 (hi t), .int .u64 (lo u), .int .u64 (hi u)]] w fun e w' => e = .returned (.tuple #[.bool (toldF ⟨nm, kd, st, sz⟩ v t u).1, .int .i64 (toldF ⟨nm, kd, st, sz⟩ v t u).2]) ∧ Ext w w' := by
  obtain ⟨⟨a0, a1⟩, ⟨a2, a3⟩, a4, a5⟩ := hok
  dsimp only at a0 a1 a2 a3 a4 a5
  have hA : FldAt ((w.alloc (.cells #[.string nm, .int .i8 kd, .int .i16 st, .int .i16 sz] 31)).alloc (.cells #[.int .u64 (lo t), .int .u64 (hi t), .int .u64 (lo u), .int .u64 (hi u)] 41)) w.heap.size 0 ⟨nm, kd, st, sz⟩ := ⟨by go_simp, by go_simp, by go_simp, by go_simp⟩
  have hif := spec_l01Field nm kd st sz w.heap.size 0 a0 a1 a2 a3 a4 a5 hnmx _ hA (by simp <;> omega)
  cases hf : fldB ⟨nm, kd, st, sz⟩ with
  | false =>
    have hv := hd (toldF_bad (f := ⟨nm, kd, st, sz⟩) (v := v) (t := t) (u := u) (by rw [hf]; rfl))
    rw [hf] at hif
    clear hA
    go_enter Tryd.func16, Tryd.ntmps16
    go_wp2_with fail
    refine Calls.mono (hif) ?_
    rintro e w1 ⟨rfl, hb1⟩
    go_wp2
    refine bodyPost_ret (v := .tuple #[.bool false, .int .i64 1]) (by simp [results, Tryd.results16, go_sem]) rfl ⟨by rw [hv.out], ?_⟩
    (repeat (first | with_reducible exact Ext.refl _ | with_reducible exact hw | with_reducible exact hb9 | with_reducible exact hb8 | with_reducible exact hb7 | with_reducible exact hb6 | with_reducible exact hb5 | with_reducible exact hb4 | with_reducible exact hb3 | with_reducible exact hb2 | with_reducible exact hb1 | with_reducible refine Ext.alloc ?_ _ | with_reducible refine Ext.drew ?_ | ((with_reducible refine Ext.set ?_ ?_ _); focus (dsimp only; omega)) | with_reducible refine Ext.trans ?_ hb9 | with_reducible refine Ext.trans ?_ hb8 | with_reducible refine Ext.trans ?_ hb7 | with_reducible refine Ext.trans ?_ hb6 | with_reducible refine Ext.trans ?_ hb5 | with_reducible refine Ext.trans ?_ hb4 | with_reducible refine Ext.trans ?_ hb3 | with_reducible refine Ext.trans ?_ hb2 | with_reducible refine Ext.trans ?_ hb1 | with_reducible refine Ext.trans ?_ hw))
  | true =>
    rw [hf] at hif
    go_enter Tryd.func16, Tryd.ntmps16
    go_wp2_with fail
    refine Calls.mono (hif) ?_
    rintro e w1 ⟨rfl, hb1⟩
    have hA1 := hA.ext hb1
    have n0 : w1.cell? ⟨w.heap.size + 1, 0, none⟩ = some (.int .u64 (lo t)) := hb1.cell (by go_simp)
    have n1 : w1.cell? ⟨w.heap.size + 1, 0 + 1, none⟩ = some (.int .u64 (hi t)) := hb1.cell (by go_simp)
    have n2 : w1.cell? ⟨w.heap.size + 1, 0 + 2, none⟩ = some (.int .u64 (lo u)) := hb1.cell (by go_simp)
    have n3 : w1.cell? ⟨w.heap.size + 1, 0 + 2 + 1, none⟩ = some (.int .u64 (hi u)) := hb1.cell (by go_simp)
    have hw1 : Ext w w1 := by ((repeat (first | with_reducible exact Ext.refl _ | with_reducible exact hw | with_reducible exact hb9 | with_reducible exact hb8 | with_reducible exact hb7 | with_reducible exact hb6 | with_reducible exact hb5 | with_reducible exact hb4 | with_reducible exact hb3 | with_reducible exact hb2 | with_reducible exact hb1 | with_reducible refine Ext.alloc ?_ _ | with_reducible refine Ext.drew ?_ | ((with_reducible refine Ext.set ?_ ?_ _); focus (dsimp only; omega)) | with_reducible refine Ext.trans ?_ hb9 | with_reducible refine Ext.trans ?_ hb8 | with_reducible refine Ext.trans ?_ hb7 | with_reducible refine Ext.trans ?_ hb6 | with_reducible refine Ext.trans ?_ hb5 | with_reducible refine Ext.trans ?_ hb4 | with_reducible refine Ext.trans ?_ hb3 | with_reducible refine Ext.trans ?_ hb2 | with_reducible refine Ext.trans ?_ hb1 | with_reducible refine Ext.trans ?_ hw)))
    have hwk := spec_l04Ok t u (w.heap.size + 1) 0 w1 (World.block_lt_of_cell? _ _ n0) n0 n1 n2 n3
    clear hb1 hA hif
    cases hm : isWearB t u with
    | false =>
      have hv := hd (toldF_bad (f := ⟨nm, kd, st, sz⟩) (v := v) (t := t) (u := u) (by rw [hf, hm]; rfl))
      rw [hm] at hwk
      go_wp2_with fail
      refine Calls.mono (hwk) ?_
      rintro e w2 ⟨rfl, hb2⟩
      go_wp2
      refine bodyPost_ret (v := .tuple #[.bool false, .int .i64 1]) (by simp [results, Tryd.results16, go_sem]) rfl ⟨by rw [hv.out], hw1.trans hb2⟩
    | true =>
      rw [hm] at hwk
      have hok : (fldB ⟨nm, kd, st, sz⟩ && isWearB t u) = true := by rw [hf, hm]; rfl
      have hmo := fun (W : World) (h : FldAt W w.heap.size 0 ⟨nm, kd, st, sz⟩) => spec_l01Most ⟨nm, kd, st, sz⟩ hf w.heap.size 0 W h
      go_wp2_with fail
      refine Calls.mono (hwk) ?_
      rintro e w2 ⟨rfl, hb2⟩
      go_wp2_with fail
      refine Calls.mono (hmo _ (hA1.ext hb2)) ?_
      rintro e w3 ⟨rfl, hb3⟩
      have hw3 := (hw1.trans hb2).trans hb3
      have hA3 := hA1.ext (hb2.trans hb3)
      have n0 := (hb2.trans hb3).cell n0
      have n1 := (hb2.trans hb3).cell n1
      have n2 := (hb2.trans hb3).cell n2
      have n3 := (hb2.trans hb3).cell n3
      clear hb2 hb3 hw1 hA1 hwk hmo
      by_cases hr : inB v 0 (mostF ⟨nm, kd, st, sz⟩) = true
      · have hr2 : 0 ≤ v ∧ v ≤ mostF ⟨nm, kd, st, sz⟩ := by unfold inB at hr; simpa using hr
        have hin := fun W => spec_l00In v 0 (mostF ⟨nm, kd, st, sz⟩) W
        rw [hr] at hin
        have henc := fun (W : World) (h : FldAt W w.heap.size 0 ⟨nm, kd, st, sz⟩) => spec_l01Code ⟨nm, kd, st, sz⟩ hf v hr2.1 hr2.2 w.heap.size 0 W h
        have hde := fun (W : World) (h : FldAt W w.heap.size 0 ⟨nm, kd, st, sz⟩) => spec_l01Value ⟨nm, kd, st, sz⟩ hf (wornM t u (codeF ⟨nm, kd, st, sz⟩ v)) w.heap.size 0 W h
        have herr := fun h3 => hd (toldF_err hok (v := v) hr2 h3)
        have hval := fun h3 => hd (toldF_val hok (v := v) hr2 h3)
        have hon := fun (W : World) (h : Ext w3 W) => spec_l04Worn t u (codeF ⟨nm, kd, st, sz⟩ v) (w.heap.size + 1) 0 W (Nat.lt_of_lt_of_le (World.block_lt_of_cell? _ _ n0) h.size) (h.cell n0) (h.cell n1) (h.cell n2) (h.cell n3)
        clear hr hr2
        generalize mostF ⟨nm, kd, st, sz⟩ = mo at hin
        generalize codeF ⟨nm, kd, st, sz⟩ v = cm at henc hde herr hval hon
        generalize wornM t u cm = x at hde herr hval hon
        generalize valueF ⟨nm, kd, st, sz⟩ x = q at hde herr hval
        obtain ⟨n, c⟩ := q
        dsimp only at hde herr hval
        go_wp2_with fail
        refine Calls.mono (hin _) ?_
        rintro e w4 ⟨rfl, hb4⟩
        go_wp2_with fail
        refine Calls.mono (henc _ (hA3.ext hb4)) ?_
        rintro e w5 ⟨rfl, hb5⟩
        go_wp2_with fail
        refine Calls.mono (hon _ (hb4.trans hb5)) ?_
        rintro e w6 ⟨rfl, hb6⟩
        go_wp2_with fail
        refine Calls.mono (hde _ (hA3.ext ((hb4.trans hb5).trans hb6))) ?_
        rintro e w7 ⟨rfl, hb7⟩
        by_cases hc : c = 0
        · have hv := hval hc
          subst hc
          clear herr hval
          go_wp2
          refine bodyPost_ret (v := .tuple #[.bool (n == v), .int .i64 0]) (by simp [results, Tryd.results16, go_sem]) rfl ⟨by rw [hv.out], hw3.trans (((hb4.trans hb5).trans hb6).trans hb7)⟩
        · have hv := herr hc
          have hc2 : (c != 0) = true := by simp [hc]
          clear herr hval
          go_wp2
          refine bodyPost_ret (v := .tuple #[.bool true, .int .i64 0]) (by simp [results, Tryd.results16, go_sem]) rfl ⟨by rw [hv.out], hw3.trans (((hb4.trans hb5).trans hb6).trans hb7)⟩
      · have hr2 : ¬ (0 ≤ v ∧ v ≤ mostF ⟨nm, kd, st, sz⟩) := fun h => hr (by unfold inB; simpa using h)
        have hv := hd (toldF_far hok (v := v) hr2)
        have hin := fun W => spec_l00In v 0 (mostF ⟨nm, kd, st, sz⟩) W
        rw [show inB v 0 (mostF ⟨nm, kd, st, sz⟩) = false by simpa using hr] at hin
        clear hr hr2
        generalize mostF ⟨nm, kd, st, sz⟩ = mo at hin
        go_wp2_with fail
        refine Calls.mono (hin _) ?_
        rintro e w4 ⟨rfl, hb4⟩
        go_wp2
        refine bodyPost_ret (v := .tuple #[.bool false, .int .i64 2]) (by simp [results, Tryd.results16, go_sem]) rfl ⟨by rw [hv.out], hw3.trans hb4⟩
set_option maxHeartbeats 1000000 in
theorem laws_FnExactIsTold (nm : ByteArray) (kd st sz : Int) (hok : Fld.ok ⟨nm, kd, st, sz⟩) (hnmx : nm.size ≤ 9223372036854775807) (v : Int) (t u : Mask) (w : World) :
    Calls Tryd.prog 4 #[.agg #[.string nm, .int .i8 kd, .int .i16 st, .int .i16 sz], .int .i64 v, .agg #[.int .u64 (lo t), .int .u64 (hi t), .int .u64 (lo u), .int .u64 (hi u)]] w fun e w' => e = .returned (.bool true) ∧ Ext w w' := by
  have hx := @ExtOf.cell
  go_enter Tryd.func4, Tryd.ntmps4
  go_wp2_with fail
  refine Calls.mono (laws_szField ⟨nm, kd, st, sz⟩ 1048576 (by omega) (by omega) hnmx _) ?_
  rintro e w1 ⟨rfl, hb1⟩
  obtain ⟨hc1, hf1, hz1⟩ := bcell3 hb1
  try simp at hz1
  have hz1_0 : w.heap.size < w1.heap.size := by omega
  have hz1_1 : w.heap.size + 1 < w1.heap.size := by omega
  dsimp only
  have hsp := fun W => spec_IsTold nm kd st sz hok hnmx v t u W
  have him := fun W => impl_IsTold nm kd st sz hok hnmx v t u W
  generalize toldF ⟨nm, kd, st, sz⟩ v t u = q at hsp him
  obtain ⟨q1, q2⟩ := q
  by_cases hr : szF nm.size 1048576 < 0
  · generalize szF nm.size 1048576 = r at hr
    go_wp2
    go_ret
    exact ⟨rfl, by ((repeat (first | with_reducible exact Ext.refl _ | with_reducible exact hw | with_reducible exact hb9 | with_reducible exact hb8 | with_reducible exact hb7 | with_reducible exact hb6 | with_reducible exact hb5 | with_reducible exact hb4 | with_reducible exact hb3 | with_reducible exact hb2 | with_reducible exact hb1 | with_reducible refine Ext.alloc ?_ _ | with_reducible refine Ext.drew ?_ | ((with_reducible refine Ext.set ?_ ?_ _); focus (dsimp only; omega)) | with_reducible refine Ext.trans ?_ hb9 | with_reducible refine Ext.trans ?_ hb8 | with_reducible refine Ext.trans ?_ hb7 | with_reducible refine Ext.trans ?_ hb6 | with_reducible refine Ext.trans ?_ hb5 | with_reducible refine Ext.trans ?_ hb4 | with_reducible refine Ext.trans ?_ hb3 | with_reducible refine Ext.trans ?_ hb2 | with_reducible refine Ext.trans ?_ hb1 | with_reducible refine Ext.trans ?_ hw)))⟩
  · generalize szF nm.size 1048576 = r at hr
    go_wp2_with fail
    refine wp_region_ext (by kernel_rfl) (by kernel_rfl) ?_
    repeat (first | go_big_quiet_step ((first | (go_at_call 13; with_reducible exact Calls.ext_all (fun W _ => laws_toField ⟨nm, kd, st, sz⟩ W)) | (go_at_call 17; with_reducible exact Calls.ext_of (laws_toWear t u _)) | (go_at_call 16; with_reducible exact Calls.ext_all (fun W _ => hsp W)))) | quiet_step ((first | (go_at_call 13; with_reducible exact Calls.ext_all (fun W _ => laws_toField ⟨nm, kd, st, sz⟩ W)) | (go_at_call 17; with_reducible exact Calls.ext_of (laws_toWear t u _)) | (go_at_call 16; with_reducible exact Calls.ext_all (fun W _ => hsp W)))))
    refine wpQuiet_nil ?_
    intro w2 hq2
    have hb2 := ext_of_class hq2
    clear hq2
    obtain ⟨hc2, hf2, hz2⟩ := bcell3 hb2
    try simp at hz2
    have hz2_0 : w.heap.size < w2.heap.size := by omega
    have hz2_1 : w.heap.size + 1 < w2.heap.size := by omega
    go_wp2_with fail
    refine wp_region_ext (by kernel_rfl) (by kernel_rfl) ?_
    repeat (first | go_big_quiet_step ((first | (go_at_call 13; with_reducible exact Calls.ext_all (fun W _ => laws_toField ⟨nm, kd, st, sz⟩ W)) | (go_at_call 17; with_reducible exact Calls.ext_of (laws_toWear t u _)) | (go_at_call 18; with_reducible exact Calls.ext_all (fun W _ => him W)))) | quiet_step ((first | (go_at_call 13; with_reducible exact Calls.ext_all (fun W _ => laws_toField ⟨nm, kd, st, sz⟩ W)) | (go_at_call 17; with_reducible exact Calls.ext_of (laws_toWear t u _)) | (go_at_call 18; with_reducible exact Calls.ext_all (fun W _ => him W)))))
    refine wpQuiet_nil ?_
    intro w3 hq3
    have hb3 := ext_of_class hq3
    clear hq3
    obtain ⟨hc3, hf3, hz3⟩ := bcell3 hb3
    try simp at hz3
    have hz3_0 : w.heap.size < w3.heap.size := by omega
    have hz3_1 : w.heap.size + 1 < w3.heap.size := by omega
    go_wp2
    go_ret
    exact ⟨rfl, by ((repeat (first | with_reducible exact Ext.refl _ | with_reducible exact hw | with_reducible exact hb9 | with_reducible exact hb8 | with_reducible exact hb7 | with_reducible exact hb6 | with_reducible exact hb5 | with_reducible exact hb4 | with_reducible exact hb3 | with_reducible exact hb2 | with_reducible exact hb1 | with_reducible refine Ext.alloc ?_ _ | with_reducible refine Ext.drew ?_ | ((with_reducible refine Ext.set ?_ ?_ _); focus (dsimp only; omega)) | with_reducible refine Ext.trans ?_ hb9 | with_reducible refine Ext.trans ?_ hb8 | with_reducible refine Ext.trans ?_ hb7 | with_reducible refine Ext.trans ?_ hb6 | with_reducible refine Ext.trans ?_ hb5 | with_reducible refine Ext.trans ?_ hb4 | with_reducible refine Ext.trans ?_ hb3 | with_reducible refine Ext.trans ?_ hb2 | with_reducible refine Ext.trans ?_ hb1 | with_reducible refine Ext.trans ?_ hw)))⟩
end Go.Proofs.YtknbebglabpegaaDoor
