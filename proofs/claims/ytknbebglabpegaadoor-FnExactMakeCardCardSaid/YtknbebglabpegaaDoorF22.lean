/-
  Contract of the reference's MakeCard, and the walk of the law FnExactMakeCard.
-/
import Derived.Test.YtknbebglabpegaaDoorF21
set_option linter.unusedVariables false
set_option linter.unusedSimpArgs false
set_option maxRecDepth 100000
namespace Go.Proofs.YtknbebglabpegaaDoor
open Go.RowKit
set_option maxHeartbeats 2000000 in
theorem spec_MakeCard (xs : List Fld) (A : Option Addr) (cap : Nat) (nm : ByteArray) (vs : List Int) (B : Option Addr) (cap' : Nat) (w : World) (hR : Rd encFld w A xs) (hn : xs.length ≤ 1048576) (hok : ∀ x ∈ xs, FldIn x)
    (hnm : nm.size ≤ 9223372036854775807) (hS : Rd encI64 w B vs) (hm : vs.length ≤ 1048576) :
    Calls Tryd.prog 38 #[.slice A xs.length cap, .string nm, .slice B vs.length cap'] w fun e w' => e = .returned (.tuple #[.agg #[.string (makeCF xs nm vs).1.nm, .int .u64 (lo (makeCF xs nm vs).1.m), .int .u64 (hi (makeCF xs nm vs).1.m)], .int .i64 (makeCF xs nm vs).2]) ∧ Ext w w' := by
  have hx := @ExtOf.cell
  have his := fun (W : World) (h : Ext w W) => spec_l01Scheme xs A cap W (hR.ext h) hn hok
  cases hs : schB xs with
  | false =>
    have hv := hd (makeC_sch (nm := nm) (vs := vs) hs)
    rw [hs] at his
    go_enter Tryd.func38, Tryd.ntmps38
    go_wp2_with fail
    refine Calls.mono (his _ (by ((repeat (first | with_reducible exact Ext.refl _ | with_reducible exact hw | with_reducible exact hb9 | with_reducible exact hb8 | with_reducible exact hb7 | with_reducible exact hb6 | with_reducible exact hb5 | with_reducible exact hb4 | with_reducible exact hb3 | with_reducible exact hb2 | with_reducible exact hb1 | with_reducible refine Ext.alloc ?_ _ | with_reducible refine Ext.drew ?_ | ((with_reducible refine Ext.set ?_ ?_ _); focus (dsimp only; omega)) | with_reducible refine Ext.trans ?_ hb9 | with_reducible refine Ext.trans ?_ hb8 | with_reducible refine Ext.trans ?_ hb7 | with_reducible refine Ext.trans ?_ hb6 | with_reducible refine Ext.trans ?_ hb5 | with_reducible refine Ext.trans ?_ hb4 | with_reducible refine Ext.trans ?_ hb3 | with_reducible refine Ext.trans ?_ hb2 | with_reducible refine Ext.trans ?_ hb1 | with_reducible refine Ext.trans ?_ hw))))) ?_
    rintro e w1 ⟨rfl, hb1⟩
    obtain ⟨hc1, hf1, hz1⟩ := bcell3 hb1
    try simp at hz1
    have hz1_0 : w.heap.size < w1.heap.size := by omega
    go_wp2
    rw [hv.out]
    have c0 : w1.cell? ⟨w.heap.size, 0, none⟩ = some (.string ⟨#[]⟩) := by go_simp
    have c1 : w1.cell? ⟨w.heap.size, 1, none⟩ = some (.int .u64 0) := by go_simp
    have c2 : w1.cell? ⟨w.heap.size, 2, none⟩ = some (.int .u64 0) := by go_simp
    try clear hc1 hf1
    try clear hc2 hf2
    try clear hc3 hf3
    try clear hc4 hf4
    try clear hc5 hf5
    try clear hc6 hf6
    try clear hc7 hf7
    try clear hc8 hf8
    try clear hc9 hf9
    refine bodyPost_ret (v := .tuple #[.agg #[.string ⟨#[]⟩, .int .u64 0, .int .u64 0], .int .i64 1]) (by simp [results, Tryd.results38, go_sem, c0, c1, c2]) rfl ⟨rfl, ?_⟩
    (repeat (first | with_reducible exact Ext.refl _ | with_reducible exact hw | with_reducible exact hb9 | with_reducible exact hb8 | with_reducible exact hb7 | with_reducible exact hb6 | with_reducible exact hb5 | with_reducible exact hb4 | with_reducible exact hb3 | with_reducible exact hb2 | with_reducible exact hb1 | with_reducible refine Ext.alloc ?_ _ | with_reducible refine Ext.drew ?_ | ((with_reducible refine Ext.set ?_ ?_ _); focus (dsimp only; omega)) | with_reducible refine Ext.trans ?_ hb9 | with_reducible refine Ext.trans ?_ hb8 | with_reducible refine Ext.trans ?_ hb7 | with_reducible refine Ext.trans ?_ hb6 | with_reducible refine Ext.trans ?_ hb5 | with_reducible refine Ext.trans ?_ hb4 | with_reducible refine Ext.trans ?_ hb3 | with_reducible refine Ext.trans ?_ hb2 | with_reducible refine Ext.trans ?_ hb1 | with_reducible refine Ext.trans ?_ hw))
  | true =>
    rw [hs] at his
    have hin := fun W => spec_l01Name nm W hnm
    cases hN : isNameB nm with
    | false =>
      have hv := hd (makeC_name (vs := vs) hs (.inl hN))
      rw [hN] at hin
      go_enter Tryd.func38, Tryd.ntmps38
      go_wp2_with fail
      refine Calls.mono (his _ (by ((repeat (first | with_reducible exact Ext.refl _ | with_reducible exact hw | with_reducible exact hb9 | with_reducible exact hb8 | with_reducible exact hb7 | with_reducible exact hb6 | with_reducible exact hb5 | with_reducible exact hb4 | with_reducible exact hb3 | with_reducible exact hb2 | with_reducible exact hb1 | with_reducible refine Ext.alloc ?_ _ | with_reducible refine Ext.drew ?_ | ((with_reducible refine Ext.set ?_ ?_ _); focus (dsimp only; omega)) | with_reducible refine Ext.trans ?_ hb9 | with_reducible refine Ext.trans ?_ hb8 | with_reducible refine Ext.trans ?_ hb7 | with_reducible refine Ext.trans ?_ hb6 | with_reducible refine Ext.trans ?_ hb5 | with_reducible refine Ext.trans ?_ hb4 | with_reducible refine Ext.trans ?_ hb3 | with_reducible refine Ext.trans ?_ hb2 | with_reducible refine Ext.trans ?_ hb1 | with_reducible refine Ext.trans ?_ hw))))) ?_
      rintro e w1 ⟨rfl, hb1⟩
      obtain ⟨hc1, hf1, hz1⟩ := bcell3 hb1
      try simp at hz1
      have hz1_0 : w.heap.size < w1.heap.size := by omega
      go_wp2_with fail
      refine Calls.mono (hin _) ?_
      rintro e w2 ⟨rfl, hb2⟩
      obtain ⟨hc2, hf2, hz2⟩ := bcell3 hb2
      try simp at hz2
      have hz2_0 : w.heap.size < w2.heap.size := by omega
      go_wp2
      rw [hv.out]
      have c0 : w2.cell? ⟨w.heap.size, 0, none⟩ = some (.string ⟨#[]⟩) := by go_simp
      have c1 : w2.cell? ⟨w.heap.size, 1, none⟩ = some (.int .u64 0) := by go_simp
      have c2 : w2.cell? ⟨w.heap.size, 2, none⟩ = some (.int .u64 0) := by go_simp
      try clear hc1 hf1
      try clear hc2 hf2
      try clear hc3 hf3
      try clear hc4 hf4
      try clear hc5 hf5
      try clear hc6 hf6
      try clear hc7 hf7
      try clear hc8 hf8
      try clear hc9 hf9
      refine bodyPost_ret (v := .tuple #[.agg #[.string ⟨#[]⟩, .int .u64 0, .int .u64 0], .int .i64 2]) (by simp [results, Tryd.results38, go_sem, c0, c1, c2]) rfl ⟨rfl, ?_⟩
      (repeat (first | with_reducible exact Ext.refl _ | with_reducible exact hw | with_reducible exact hb9 | with_reducible exact hb8 | with_reducible exact hb7 | with_reducible exact hb6 | with_reducible exact hb5 | with_reducible exact hb4 | with_reducible exact hb3 | with_reducible exact hb2 | with_reducible exact hb1 | with_reducible refine Ext.alloc ?_ _ | with_reducible refine Ext.drew ?_ | ((with_reducible refine Ext.set ?_ ?_ _); focus (dsimp only; omega)) | with_reducible refine Ext.trans ?_ hb9 | with_reducible refine Ext.trans ?_ hb8 | with_reducible refine Ext.trans ?_ hb7 | with_reducible refine Ext.trans ?_ hb6 | with_reducible refine Ext.trans ?_ hb5 | with_reducible refine Ext.trans ?_ hb4 | with_reducible refine Ext.trans ?_ hb3 | with_reducible refine Ext.trans ?_ hb2 | with_reducible refine Ext.trans ?_ hb1 | with_reducible refine Ext.trans ?_ hw))
    | true =>
      rw [hN] at hin
      by_cases hl : vs.length = xs.length
      · have hlI : ((vs.length : Int) != (xs.length : Int)) = false := by rw [hl]; simp
        have hbad := fun k h1 h2 h3 => hd (makeC_bad hs hN hl k h1 h2 h3)
        have hgood := fun h => hd (makeC_good hs hN hl h)
        have hl2 := hd hl
        clear hl
        go_enter Tryd.func38, Tryd.ntmps38
        go_wp2_with fail
        refine Calls.mono (his _ (by ((repeat (first | with_reducible exact Ext.refl _ | with_reducible exact hw | with_reducible exact hb9 | with_reducible exact hb8 | with_reducible exact hb7 | with_reducible exact hb6 | with_reducible exact hb5 | with_reducible exact hb4 | with_reducible exact hb3 | with_reducible exact hb2 | with_reducible exact hb1 | with_reducible refine Ext.alloc ?_ _ | with_reducible refine Ext.drew ?_ | ((with_reducible refine Ext.set ?_ ?_ _); focus (dsimp only; omega)) | with_reducible refine Ext.trans ?_ hb9 | with_reducible refine Ext.trans ?_ hb8 | with_reducible refine Ext.trans ?_ hb7 | with_reducible refine Ext.trans ?_ hb6 | with_reducible refine Ext.trans ?_ hb5 | with_reducible refine Ext.trans ?_ hb4 | with_reducible refine Ext.trans ?_ hb3 | with_reducible refine Ext.trans ?_ hb2 | with_reducible refine Ext.trans ?_ hb1 | with_reducible refine Ext.trans ?_ hw))))) ?_
        rintro e w1 ⟨rfl, hb1⟩
        obtain ⟨hc1, hf1, hz1⟩ := bcell3 hb1
        try simp at hz1
        have hz1_0 : w.heap.size < w1.heap.size := by omega
        go_wp2_with fail
        refine Calls.mono (hin _) ?_
        rintro e w2 ⟨rfl, hb2⟩
        have bC : BoxAt w2 w.heap.size #[.string ⟨#[]⟩, .int .u64 0, .int .u64 0] 68 := ((BoxAt.new' rfl).ext hb1).ext hb2
        have hw2 : Ext w w2 := by ((repeat (first | with_reducible exact Ext.refl _ | with_reducible exact hw | with_reducible exact hb9 | with_reducible exact hb8 | with_reducible exact hb7 | with_reducible exact hb6 | with_reducible exact hb5 | with_reducible exact hb4 | with_reducible exact hb3 | with_reducible exact hb2 | with_reducible exact hb1 | with_reducible refine Ext.alloc ?_ _ | with_reducible refine Ext.drew ?_ | ((with_reducible refine Ext.set ?_ ?_ _); focus (dsimp only; omega)) | with_reducible refine Ext.trans ?_ hb9 | with_reducible refine Ext.trans ?_ hb8 | with_reducible refine Ext.trans ?_ hb7 | with_reducible refine Ext.trans ?_ hb6 | with_reducible refine Ext.trans ?_ hb5 | with_reducible refine Ext.trans ?_ hb4 | with_reducible refine Ext.trans ?_ hb3 | with_reducible refine Ext.trans ?_ hb2 | with_reducible refine Ext.trans ?_ hb1 | with_reducible refine Ext.trans ?_ hw)))
        have l2 := bC.lt
        clear hc1 hf1 hb1 hb2 hz1 hz1_0
        go_wp2
        go_loopg [9] xs.length (fun g i wr => ∃ k : Nat, g = xs.length - k ∧ k ≤ xs.length ∧ i = .int .i64 k ∧ Ext w wr ∧ Hd (okTo xs vs k = true) ∧ BoxAt wr w2.heap.size #[.string nm, .int .u64 (lo (cardTo xs vs k)), .int .u64 (hi (cardTo xs vs k))] 68 ∧ BoxAt wr w.heap.size #[.string ⟨#[]⟩, .int .u64 0, .int .u64 0] 68)
        case atStart => exact ⟨0, by omega, by omega, rfl, hw2.alloc _, hd rfl, by rw [cardTo_zero, lo_zero, hi_zero]; exact BoxAt.new' rfl, bC.alloc _⟩
        case round =>
          obtain ⟨k, hg, hk, rfl, hw, hQ, hB, hC⟩ := hrel
          clear bC
          have hwl := hw2.size
          by_cases hkl : k < xs.length
          · have hkv : k < vs.length := by have := hl2.out; omega
            obtain ⟨b, off, hA, hlt, _⟩ := hR k hkl
            subst hA
            obtain ⟨b', off', hA', hlt', _⟩ := hS k hkv
            subst hA'
            have hF := (hR.ext hw).fldAt k hkl
            have v0 := (hS.ext hw).i64 k hkv
            have lv := World.block_lt_of_cell? _ _ v0
            dsimp only at lv
            have hf := (sch_all hs).2 k hkl
            have hmo := fun (W : World) (h : Ext wr W) => spec_l01Most xs[k] hf b (off + k * 4) W (hF.ext h)
            have hio := fun W => spec_l00In vs[k] (-1) (mostF xs[k]) W
            have henc := fun (h0 : 0 ≤ vs[k]) (h1 : vs[k] ≤ mostF xs[k]) (W : World) (h : Ext wr W) => spec_l01Code xs[k] hf vs[k] h0 h1 b (off + k * 4) W (hF.ext h)
            have hsu := cardTo_succ xs vs k hkl hkv
            have hsv : 0 ≤ vs[k] → Hd (cardTo xs vs (k + 1) = mjoin (cardTo xs vs k) (codeF xs[k] vs[k])) := fun h => hd (by rw [hsu]; unfold putV; rw [if_pos h])
            have hsn : ¬ 0 ≤ vs[k] → Hd (cardTo xs vs (k + 1) = cardTo xs vs k) := fun h => hd (by rw [hsu]; unfold putV; rw [if_neg h])
            have hout : inB vs[k] (-1) (mostF xs[k]) = false → Hd (makeCF xs nm vs = (Crd.z, 2)) := fun h => hbad k hkl hkv (by unfold okV; unfold inB at h; rw [decide_eq_false_iff_not]; intro h2; rw [decide_eq_true h2.1, decide_eq_true h2.2] at h; cases h)
            have hin2 : inB vs[k] (-1) (mostF xs[k]) = true → vs[k] ≤ mostF xs[k] ∧ Hd (okTo xs vs (k + 1) = true) := fun h => by
              unfold inB at h
              rw [Bool.and_eq_true, decide_eq_true_eq, decide_eq_true_eq] at h
              exact ⟨h.2, hd (by rw [okTo_succ, hQ.out, getF xs k hkl, getI vs k hkv]; unfold okV; rw [decide_eq_true h]; rfl)⟩
            have hml := mostF_le _ hf
            clear hbad hsu hgood
            generalize codeF xs[k] vs[k] = cm at henc hsv
            generalize mostF xs[k] = mo at hmo henc hout hin2 hml hio
            generalize vs[k] = v at v0 henc hsv hsn hout hin2 hio
            have lB := hB.lt
            have lC := hC.lt
            cases hi2 : inB v (-1) mo with
            | false =>
              have hv := hout hi2
              rw [hi2] at hio
              clear hsv hsn hout hin2
              go_wp2
              refine wp_region_ext (by kernel_rfl) (by kernel_rfl) ?_
              repeat (first | go_big_quiet_step ((first | (go_at_call 57; with_reducible exact Calls.ext_all (fun W h => hmo W h)) | (go_at_call 67; with_reducible exact Calls.ext_all (fun W _ => hio W)))) | quiet_step ((first | (go_at_call 57; with_reducible exact Calls.ext_all (fun W h => hmo W h)) | (go_at_call 67; with_reducible exact Calls.ext_all (fun W _ => hio W)))))
              refine wpQuiet_nil ?_
              intro w3 hq3
              have hb3 := ext_of_class hq3
              clear hq3
              obtain ⟨hc3, hf3, hz3⟩ := bcell3 hb3
              try simp at hz3
              have hC3 := hC.ext hb3
              have hw3 : Ext w w3 := by ((repeat (first | with_reducible exact Ext.refl _ | with_reducible exact hw | with_reducible exact hb9 | with_reducible exact hb8 | with_reducible exact hb7 | with_reducible exact hb6 | with_reducible exact hb5 | with_reducible exact hb4 | with_reducible exact hb3 | with_reducible exact hb2 | with_reducible exact hb1 | with_reducible refine Ext.alloc ?_ _ | with_reducible refine Ext.drew ?_ | ((with_reducible refine Ext.set ?_ ?_ _); focus (dsimp only; omega)) | with_reducible refine Ext.trans ?_ hb9 | with_reducible refine Ext.trans ?_ hb8 | with_reducible refine Ext.trans ?_ hb7 | with_reducible refine Ext.trans ?_ hb6 | with_reducible refine Ext.trans ?_ hb5 | with_reducible refine Ext.trans ?_ hb4 | with_reducible refine Ext.trans ?_ hb3 | with_reducible refine Ext.trans ?_ hb2 | with_reducible refine Ext.trans ?_ hb1 | with_reducible refine Ext.trans ?_ hw)))
              have g0 := hC3.frozen 0
              have g1 := hC3.frozen 1
              have g2 := hC3.frozen 2
              have x0 : w3.cell? ⟨w.heap.size, 0, none⟩ = some (.string ⟨#[]⟩) := hC3.cell 0
              have x1 : w3.cell? ⟨w.heap.size, 1, none⟩ = some (.int .u64 0) := hC3.cell 1
              have x2 : w3.cell? ⟨w.heap.size, 2, none⟩ = some (.int .u64 0) := hC3.cell 2
              clear hc3 hf3 hb3
              go_wp2
              rw [hv.out]
              refine bodyPost_ret (v := .tuple #[.agg #[.string ⟨#[]⟩, .int .u64 0, .int .u64 0], .int .i64 2]) (by simp [results, Tryd.results38, go_sem, x0, x1, x2]) rfl ⟨rfl, ?_⟩
              exact ((hw3.setCell (by simp) _).setCell (by simp) _).setCell (by simp) _
            | true =>
              obtain ⟨hvm, hQ2⟩ := hin2 hi2
              rw [hi2] at hio
              clear hout hin2
              by_cases q3 : 0 ≤ v
              · have hs := hsv q3
                have henc := henc q3 hvm
                clear hsv hsn
                go_wp2
                refine wp_region_ext (by kernel_rfl) (by kernel_rfl) ?_
                repeat (first | go_big_quiet_step ((first | (go_at_call 57; with_reducible exact Calls.ext_all (fun W h => hmo W h)) | (go_at_call 67; with_reducible exact Calls.ext_all (fun W _ => hio W)))) | quiet_step ((first | (go_at_call 57; with_reducible exact Calls.ext_all (fun W h => hmo W h)) | (go_at_call 67; with_reducible exact Calls.ext_all (fun W _ => hio W)))))
                refine wpQuiet_nil ?_
                intro w3 hq3
                have hb3 := ext_of_class hq3
                clear hq3
                obtain ⟨hc3, hf3, hz3⟩ := bcell3 hb3
                try simp at hz3
                have u0 := hb3.cell v0
                have hB3 := hB.ext hb3
                have hC3 := hC.ext hb3
                have d1 := hB3.cell 1
                have d2 := hB3.cell 2
                have lu := World.block_lt_of_cell? _ _ u0
                have lB3 := hB3.lt
                dsimp only at lu
                have hw3 := hw.trans hb3
                have henc := fun W (h : Ext w3 W) => henc W (hb3.trans h)
                clear hc3 hf3 v0 lv hB hC hb3
                go_wp2
                refine wp_region_ext_tail 11 11 (by kernel_rfl) (by kernel_rfl) (by intro d _ _ _ _ h; cases d <;> exact h) ?_
                simp only [List.take_succ_cons, List.take_zero, List.drop_succ_cons, List.drop_zero]
                repeat (first | go_big_quiet_step ((first | (go_at_call 70; with_reducible exact Calls.ext_all (fun W h => henc W h)) | (go_at_call 87; with_reducible exact Calls.ext_of (spec_l01Join _ _ _)))) | quiet_step ((first | (go_at_call 70; with_reducible exact Calls.ext_all (fun W h => henc W h)) | (go_at_call 87; with_reducible exact Calls.ext_of (spec_l01Join _ _ _)))))
                refine wpQuiet_nil ?_
                intro w4 hq4
                have hb4 := ext_of_class hq4
                clear hq4
                obtain ⟨hc4, hf4, hz4⟩ := bcell3 hb4
                try simp at hz4
                have hB4 := hB3.ext hb4
                have f0 := hB4.frozen 0
                have f1 := hB4.frozen 1
                have f2 := hB4.frozen 2
                have e1 := hB4.cell 1
                have e2 := hB4.cell 2
                have lB4 := hB4.lt
                clear hc4 hf4 hz4
                go_wp2
                go_roundg (xs.length - (k + 1))
                case rel => exact ⟨k + 1, rfl, hkl, by simp, Ext.set (by dsimp only; omega) (Ext.set (by dsimp only; omega) (hw3.trans hb4) _) _, hQ2, by rw [hs.out]; exact (hB4.set 1 _).set 2 _, ((hC3.ext hb4).setOther (by first | omega | (simp; done) | (simp; omega) | (dsimp only; omega)) _).setOther (by first | omega | (simp; done) | (simp; omega) | (dsimp only; omega)) _⟩
                case measure => omega
              · have hs := hsn q3
                clear hsv hsn
                go_wp2
                refine wp_region_ext (by kernel_rfl) (by kernel_rfl) ?_
                repeat (first | go_big_quiet_step ((first | (go_at_call 57; with_reducible exact Calls.ext_all (fun W h => hmo W h)) | (go_at_call 67; with_reducible exact Calls.ext_all (fun W _ => hio W)))) | quiet_step ((first | (go_at_call 57; with_reducible exact Calls.ext_all (fun W h => hmo W h)) | (go_at_call 67; with_reducible exact Calls.ext_all (fun W _ => hio W)))))
                refine wpQuiet_nil ?_
                intro w3 hq3
                have hb3 := ext_of_class hq3
                clear hq3
                obtain ⟨hc3, hf3, hz3⟩ := bcell3 hb3
                try simp at hz3
                have u0 := hb3.cell v0
                have lu := World.block_lt_of_cell? _ _ u0
                dsimp only at lu
                go_wp2
                go_roundg (xs.length - (k + 1))
                case rel => exact ⟨k + 1, rfl, hkl, by simp, hw.trans hb3, hQ2, by rw [hs.out]; exact hB.ext hb3, hC.ext hb3⟩
                case measure => omega
          · obtain rfl : k = xs.length := by omega
            have hv := hgood hQ.out
            have c0 := hB.cell 0
            have c1 := hB.cell 1
            have c2 := hB.cell 2
            have l3 := hB.lt
            have l4 := hC.lt
            have g0 := hC.frozen 0
            have g1 := hC.frozen 1
            have g2 := hC.frozen 2
            have x0 : wr.cell? ⟨w.heap.size, 0, none⟩ = some (.string ⟨#[]⟩) := hC.cell 0
            have x1 : wr.cell? ⟨w.heap.size, 1, none⟩ = some (.int .u64 0) := hC.cell 1
            have x2 : wr.cell? ⟨w.heap.size, 2, none⟩ = some (.int .u64 0) := hC.cell 2
            go_wp2
            rw [hv.out]
            refine bodyPost_ret (v := .tuple #[.agg #[.string nm, .int .u64 (lo (cardTo xs vs xs.length)), .int .u64 (hi (cardTo xs vs xs.length))], .int .i64 0]) (by simp [results, Tryd.results38, go_sem, x0, x1, x2]) rfl ⟨rfl, ?_⟩
            (repeat (first | with_reducible exact Ext.refl _ | with_reducible exact hw | with_reducible exact hb9 | with_reducible exact hb8 | with_reducible exact hb7 | with_reducible exact hb6 | with_reducible exact hb5 | with_reducible exact hb4 | with_reducible exact hb3 | with_reducible exact hb2 | with_reducible exact hb1 | with_reducible refine Ext.alloc ?_ _ | with_reducible refine Ext.drew ?_ | ((with_reducible refine Ext.set ?_ ?_ _); focus (dsimp only; omega)) | with_reducible refine Ext.trans ?_ hb9 | with_reducible refine Ext.trans ?_ hb8 | with_reducible refine Ext.trans ?_ hb7 | with_reducible refine Ext.trans ?_ hb6 | with_reducible refine Ext.trans ?_ hb5 | with_reducible refine Ext.trans ?_ hb4 | with_reducible refine Ext.trans ?_ hb3 | with_reducible refine Ext.trans ?_ hb2 | with_reducible refine Ext.trans ?_ hb1 | with_reducible refine Ext.trans ?_ hw))
      · have hv := hd (makeC_name (nm := nm) hs (.inr hl))
        have hlI : ((vs.length : Int) != (xs.length : Int)) = true := by simp; omega
        clear hl
        go_enter Tryd.func38, Tryd.ntmps38
        go_wp2_with fail
        refine Calls.mono (his _ (by ((repeat (first | with_reducible exact Ext.refl _ | with_reducible exact hw | with_reducible exact hb9 | with_reducible exact hb8 | with_reducible exact hb7 | with_reducible exact hb6 | with_reducible exact hb5 | with_reducible exact hb4 | with_reducible exact hb3 | with_reducible exact hb2 | with_reducible exact hb1 | with_reducible refine Ext.alloc ?_ _ | with_reducible refine Ext.drew ?_ | ((with_reducible refine Ext.set ?_ ?_ _); focus (dsimp only; omega)) | with_reducible refine Ext.trans ?_ hb9 | with_reducible refine Ext.trans ?_ hb8 | with_reducible refine Ext.trans ?_ hb7 | with_reducible refine Ext.trans ?_ hb6 | with_reducible refine Ext.trans ?_ hb5 | with_reducible refine Ext.trans ?_ hb4 | with_reducible refine Ext.trans ?_ hb3 | with_reducible refine Ext.trans ?_ hb2 | with_reducible refine Ext.trans ?_ hb1 | with_reducible refine Ext.trans ?_ hw))))) ?_
        rintro e w1 ⟨rfl, hb1⟩
        obtain ⟨hc1, hf1, hz1⟩ := bcell3 hb1
        try simp at hz1
        have hz1_0 : w.heap.size < w1.heap.size := by omega
        go_wp2_with fail
        refine Calls.mono (hin _) ?_
        rintro e w2 ⟨rfl, hb2⟩
        obtain ⟨hc2, hf2, hz2⟩ := bcell3 hb2
        try simp at hz2
        have hz2_0 : w.heap.size < w2.heap.size := by omega
        go_wp2
        rw [hv.out]
        have c0 : w2.cell? ⟨w.heap.size, 0, none⟩ = some (.string ⟨#[]⟩) := by go_simp
        have c1 : w2.cell? ⟨w.heap.size, 1, none⟩ = some (.int .u64 0) := by go_simp
        have c2 : w2.cell? ⟨w.heap.size, 2, none⟩ = some (.int .u64 0) := by go_simp
        try clear hc1 hf1
        try clear hc2 hf2
        try clear hc3 hf3
        try clear hc4 hf4
        try clear hc5 hf5
        try clear hc6 hf6
        try clear hc7 hf7
        try clear hc8 hf8
        try clear hc9 hf9
        refine bodyPost_ret (v := .tuple #[.agg #[.string ⟨#[]⟩, .int .u64 0, .int .u64 0], .int .i64 2]) (by simp [results, Tryd.results38, go_sem, c0, c1, c2]) rfl ⟨rfl, ?_⟩
        (repeat (first | with_reducible exact Ext.refl _ | with_reducible exact hw | with_reducible exact hb9 | with_reducible exact hb8 | with_reducible exact hb7 | with_reducible exact hb6 | with_reducible exact hb5 | with_reducible exact hb4 | with_reducible exact hb3 | with_reducible exact hb2 | with_reducible exact hb1 | with_reducible refine Ext.alloc ?_ _ | with_reducible refine Ext.drew ?_ | ((with_reducible refine Ext.set ?_ ?_ _); focus (dsimp only; omega)) | with_reducible refine Ext.trans ?_ hb9 | with_reducible refine Ext.trans ?_ hb8 | with_reducible refine Ext.trans ?_ hb7 | with_reducible refine Ext.trans ?_ hb6 | with_reducible refine Ext.trans ?_ hb5 | with_reducible refine Ext.trans ?_ hb4 | with_reducible refine Ext.trans ?_ hb3 | with_reducible refine Ext.trans ?_ hb2 | with_reducible refine Ext.trans ?_ hb1 | with_reducible refine Ext.trans ?_ hw))
set_option maxHeartbeats 2000000 in
theorem laws_FnExactMakeCard (xs : List Fld) (A : Option Addr) (cap : Nat) (nm : ByteArray) (vs : List Int) (B : Option Addr) (cap' : Nat) (w : World) (hn : xs.length ≤ 9223372036854775807) (hR : Rd encFld w A xs) (hok : ∀ x ∈ xs, FldIn x)
    (hnm : nm.size ≤ 9223372036854775807) (hm : vs.length ≤ 9223372036854775807) (hS : Rd encI64 w B vs) :
    Calls Tryd.prog 8 #[.slice A xs.length cap, .string nm, .slice B vs.length cap'] w fun e w' => e = .returned (.bool true) ∧ Ext w w' := by
  have rr := eqL_refl fldEqB fldEqB_refl xs
  rcases Nat.lt_or_ge 1048576 nm.size with hnl | hnl
  · go_enter Tryd.func8, Tryd.ntmps8
    go_wp2
    go_ret
    exact ⟨rfl, Ext.refl _⟩
  rcases Nat.lt_or_ge 1048576 vs.length with hvl | hvl
  · go_enter Tryd.func8, Tryd.ntmps8
    go_wp2
    go_ret
    exact ⟨rfl, Ext.refl _⟩
  go_enter Tryd.func8, Tryd.ntmps8
  go_wp2_with fail
  refine Calls.mono (laws_szFieldS xs A cap 1048576 (by omega) (by omega) hn _ hR (fun x hx => (hok x hx).2)) ?_
  rintro e w1 ⟨r, rfl, hr, hb1⟩
  by_cases hr0 : r < 0
  · go_wp2
    go_ret
    exact ⟨rfl, hb1⟩
  obtain ⟨g0, g1, g2⟩ := hr.resolve_left hr0
  have hn1 : xs.length ≤ 1048576 := by omega
  clear hr
  go_wp2_with fail
  refine Calls.mono (laws_toFieldS xs A cap _ (hR.ext hb1) hn1) ?_
  rintro e w2 ⟨v2, rfl, hO2, hb2⟩
  obtain ⟨A2, cap2, rfl, hle2, hR2⟩ := hO2.slice
  obtain ⟨hc2, hf2, hz2⟩ := bcell3 hb2
  try simp at hz2
  clear hc2 hf2 hz2 hO2
  have hW2 := hb1.trans hb2
  go_wp2_with fail
  refine Calls.mono (laws_toInt64S vs B cap' _ (hS.ext hW2) hvl) ?_
  rintro e w3 ⟨v3, rfl, hO3, hb3⟩
  obtain ⟨A3, cap3, rfl, hle3, hR3⟩ := hO3.slice
  obtain ⟨hc3, hf3, hz3⟩ := bcell3 hb3
  try simp at hz3
  clear hc3 hf3 hz3 hO3
  have hW3 := hW2.trans hb3
  have hR2at3 := hR2.ext hb3
  have hsp := spec_MakeCard xs A2 cap2 nm vs A3 cap3 _ hR2at3 hn1 hok hnm hR3 hvl
  have him := fun (a : Option Addr) (c : Nat) (b : Option Addr) (c' : Nat) (W : World) (h1 : Rd encFld W a xs) (hc : xs.length ≤ c) (h2 : Rd encI64 W b vs) => impl_MakeCard xs a c nm vs b c' W h1 hc hn1 hok hnm h2 hvl
  generalize makeCF xs nm vs = q at hsp him
  obtain ⟨c, code⟩ := q
  dsimp only at hsp him
  have rc := crdB_refl c
  go_wp2_with fail
  refine Calls.mono (hsp) ?_
  rintro e w4 ⟨rfl, hb4⟩
  have hW4 := hW3.trans hb4
  go_wp2_with fail
  have bD : BoxAt (w4.alloc (.cells #[.string c.nm, .int .u64 (lo c.m), .int .u64 (hi c.m)] 68)) w4.heap.size #[.string c.nm, .int .u64 (lo c.m), .int .u64 (hi c.m)] 68 := BoxAt.new' rfl
  have hWa : Ext w (w4.alloc (.cells #[.string c.nm, .int .u64 (lo c.m), .int .u64 (hi c.m)] 68)) := hW4.alloc _
  clear hb2 hb3 hb4 hR2 hR2at3 hR3
  generalize w4.alloc (.cells #[.string c.nm, .int .u64 (lo c.m), .int .u64 (hi c.m)] 68) = W5 at bD hWa
  refine Calls.mono (laws_toFieldS xs A cap _ (hR.ext hWa) hn1) ?_
  rintro e w6 ⟨v6, rfl, hO6, hb6⟩
  obtain ⟨A6, cap6, rfl, hle6, hR6⟩ := hO6.slice
  have hW6 := hWa.trans hb6
  go_wp2_with fail
  refine Calls.mono (laws_toInt64S vs B cap' _ (hS.ext hW6) hvl) ?_
  rintro e w7 ⟨v7, rfl, hO7, hb7⟩
  obtain ⟨A7, cap7, rfl, hle7, hR7⟩ := hO7.slice
  have hW7 := hW6.trans hb7
  have hR6 := hR6.ext hb7
  have bD := bD.ext (hb6.trans hb7)
  go_wp2_with fail
  refine Calls.mono (him A6 cap6 A7 cap7 _ hR6 hle6 hR7) ?_
  rintro e w8 ⟨rfl, hb8⟩
  have hW8 := hW7.trans hb8
  have bD := bD.ext hb8
  have d0 := bD.cell 0
  have d1 := bD.cell 1
  have d2 := bD.cell 2
  have lD := bD.lt
  have hR6 := hR6.ext hb8
  have hR7 := hR7.ext hb8
  clear hO6 hO7 hb6 hb7
  go_wp2_with fail
  refine Calls.mono (laws_eqCard c c _) ?_
  rintro e w9 ⟨rfl, hb9⟩
  rw [rc]
  have hW9 := (hW8.alloc (.cells #[.string c.nm, .int .u64 (lo c.m), .int .u64 (hi c.m)] 68)).trans hb9
  have hb89 : Ext w8 w9 := ((Ext.refl w8).alloc _).trans hb9
  have hR6 := hR6.ext hb89
  have hR7 := hR7.ext hb89
  clear hb8 hb9 hb89 bD d0 d1 d2
  go_wp2_with fail
  refine Calls.mono (laws_toFieldS xs A cap _ (hR.ext hW9) hn1) ?_
  rintro e w10 ⟨v10, rfl, hO10, hb10⟩
  obtain ⟨A10, cap10, rfl, hle10, hR10⟩ := hO10.slice
  go_wp2_with fail
  refine Calls.mono (laws_eqFieldS xs xs _ _ _ _ _ (hR6.ext hb10) hR10 hn1 hn1) ?_
  rintro e w11 ⟨rfl, hb11⟩
  rw [rr]
  have hW11 := (hW9.trans hb10).trans hb11
  go_wp2_with fail
  refine Calls.mono (laws_toInt64S vs B cap' _ (hS.ext hW11) hvl) ?_
  rintro e w12 ⟨v12, rfl, hO12, hb12⟩
  obtain ⟨A12, cap12, rfl, hle12, hR12⟩ := hO12.slice
  go_wp2_with fail
  refine Calls.mono (laws_eqInt64S vs _ _ _ _ _ ((hR7.ext (hb10.trans hb11)).ext hb12) hR12 hvl) ?_
  rintro e w13 ⟨rfl, hb13⟩
  go_wp2
  go_ret
  exact ⟨rfl, (hW11.trans hb12).trans hb13⟩
end Go.Proofs.YtknbebglabpegaaDoor
