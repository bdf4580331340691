/-
  Contract of the reference's function that makes the mask of a value of a field.
-/
import Derived.Test.YtdlpifgkponnmaaDoorF10
set_option linter.unusedVariables false
set_option linter.unusedSimpArgs false
set_option maxRecDepth 100000
namespace Go.Proofs.YtdlpifgkponnmaaDoor
open Go.RowKit
theorem mostF_pow {f : Fld} (hf : fldB f = true) : mostF f ≤ 99999 := by have := (mostF_le f hf).2; omega
set_option maxHeartbeats 2000000 in
theorem spec_l01Code (f : Fld) (hf : fldB f = true) (v : Int) (v0 : 0 ≤ v) (v1 : v ≤ mostF f) (b o : Nat) (w : World) (hF : FldAt w b o f) :
    Calls Tryd.prog 81 #[.pointer (some ⟨b, o, none⟩), .int .i64 v] w fun e w' => e = .returned (.agg #[.int .u64 (lo (codeF f v)), .int .u64 (hi (codeF f v))]) ∧ Ext w w' := by
  have hx := @ExtOf.cell
  have hm9 := (mostF_le _ hf).2
  obtain ⟨_, k0, k3, s0, z0, z1, z2⟩ := fldB_parts hf
  have hz : f.sz ≤ 24 := by unfold mostSz at z1; split at z1 <;> (first | omega | (split at z1 <;> omega))
  have hmb := (manyF_bd f.kd f.sz z0 (by omega)).1
  have hlt : b < w.heap.size := World.block_lt_of_cell? w _ hF.1
  have wst : IntKind.i64.wrap f.st = f.st := IntWalk.i64_in _ (by omega)
  have wsz : IntKind.i64.wrap f.sz = f.sz := IntWalk.i64_in _ (by omega)
  obtain ⟨d0, d1, d2, d3⟩ := hF
  have nb : ¬ b = w.heap.size + 1 := by omega
  have nb2 : ¬ b = w.heap.size := by omega
  obtain ⟨nm, kd, st, sz⟩ := f
  dsimp only at *
  rcases (show kd = 0 ∨ kd = 3 ∨ kd = 1 ∨ kd = 2 by omega) with rfl | rfl | rfl | rfl
  · have hv := hd (show codeF ⟨nm, 0, st, sz⟩ v = mbit (st + v) from rfl)
    have v2 : v ≤ sz - 1 := v1
    rw [manyF0 sz (by decide) (by decide) (by decide)] at z2
    have wr1 : IntKind.i64.wrap (st + v) = st + v := IntWalk.i64_in _ (by omega)
    rw [hv.out]
    clear hv
    go_enter Tryd.func81, Tryd.ntmps81
    go_wp2_with fail
    refine Calls.mono (spec_l01Bit (st + v) (by omega) (by omega) _) ?_
    rintro e w3 ⟨rfl, hb3⟩
    have bC : BoxAt w3 w.heap.size #[.int .u64 0, .int .u64 0] 58 := ((BoxAt.new' rfl).alloc _).ext hb3
    have x0 : w3.cell? ⟨w.heap.size, 0, none⟩ = some (.int .u64 0) := bC.cell 0
    have x1 : w3.cell? ⟨w.heap.size, 1, none⟩ = some (.int .u64 0) := bC.cell 1
    have g0 := bC.frozen 0
    have g1 := bC.frozen 1
    have l3 := bC.lt
    have hw3 : Ext w w3 := by ((repeat (first | with_reducible exact Ext.refl _ | with_reducible exact hw | with_reducible exact hb9 | with_reducible exact hb8 | with_reducible exact hb7 | with_reducible exact hb6 | with_reducible exact hb5 | with_reducible exact hb4 | with_reducible exact hb3 | with_reducible exact hb2 | with_reducible exact hb1 | with_reducible refine Ext.alloc ?_ _ | with_reducible refine Ext.drew ?_ | ((with_reducible refine Ext.set ?_ ?_ _); focus (dsimp only; omega)) | with_reducible refine Ext.trans ?_ hb9 | with_reducible refine Ext.trans ?_ hb8 | with_reducible refine Ext.trans ?_ hb7 | with_reducible refine Ext.trans ?_ hb6 | with_reducible refine Ext.trans ?_ hb5 | with_reducible refine Ext.trans ?_ hb4 | with_reducible refine Ext.trans ?_ hb3 | with_reducible refine Ext.trans ?_ hb2 | with_reducible refine Ext.trans ?_ hb1 | with_reducible refine Ext.trans ?_ hw)))
    clear hb3
    go_wp2
    refine bodyPost_ret (v := .agg #[.int .u64 (lo (mbit (st + v))), .int .u64 (hi (mbit (st + v)))]) (by simp [results, Tryd.results81, go_sem, x0, x1]) rfl ⟨rfl, ?_⟩
    exact (hw3.setCell (by simp) _).setCell (by simp) _
  · have hv := hd (show codeF ⟨nm, 3, st, sz⟩ v = binF st sz v from rfl)
    have h12 : sz ≤ 12 := z1
    rw [manyF3] at z2
    have hm9b : v ≤ 9999 := by omega
    clear v1
    have hp := hd (show binF st sz v = if mcount (notchTo 0 st sz v sz.toNat) % 2 = 0 then mjoin (notchTo 0 st sz v sz.toNat) (mbit (st + sz)) else notchTo 0 st sz v sz.toNat from rfl)
    have hno := fun W => spec_l01Notch 0 st sz v s0 (by omega) h12 (by omega) v0 (by omega) W
    rw [lo_zero, hi_zero] at hno
    rw [hv.out]
    clear hv
    generalize notchTo 0 st sz v sz.toNat = q at hp hno
    have hcn := mcount_ge q
    have hcl := mcount_le q
    have wr1 : IntKind.i64.wrap (st + sz) = st + sz := IntWalk.i64_in _ (by omega)
    go_enter Tryd.func81, Tryd.ntmps81
    go_wp2_with fail
    refine Calls.mono (hno _) ?_
    rintro e w2 ⟨rfl, hb2⟩
    have bC : BoxAt w2 w.heap.size #[.int .u64 0, .int .u64 0] 58 := ((BoxAt.new' rfl).alloc _).ext hb2
    have bB : BoxAt w2 (w.heap.size + 1) #[.int .u64 0, .int .u64 0] 58 := (BoxAt.new' (by simp)).ext hb2
    have c0 := bB.cell 0
    have c1 := bB.cell 1
    have f0 := bB.frozen 0
    have f1 := bB.frozen 1
    have l2 := bB.lt
    have hw2 : Ext w w2 := by ((repeat (first | with_reducible exact Ext.refl _ | with_reducible exact hw | with_reducible exact hb9 | with_reducible exact hb8 | with_reducible exact hb7 | with_reducible exact hb6 | with_reducible exact hb5 | with_reducible exact hb4 | with_reducible exact hb3 | with_reducible exact hb2 | with_reducible exact hb1 | with_reducible refine Ext.alloc ?_ _ | with_reducible refine Ext.drew ?_ | ((with_reducible refine Ext.set ?_ ?_ _); focus (dsimp only; omega)) | with_reducible refine Ext.trans ?_ hb9 | with_reducible refine Ext.trans ?_ hb8 | with_reducible refine Ext.trans ?_ hb7 | with_reducible refine Ext.trans ?_ hb6 | with_reducible refine Ext.trans ?_ hb5 | with_reducible refine Ext.trans ?_ hb4 | with_reducible refine Ext.trans ?_ hb3 | with_reducible refine Ext.trans ?_ hb2 | with_reducible refine Ext.trans ?_ hb1 | with_reducible refine Ext.trans ?_ hw)))
    clear hb2
    go_wp2_with fail
    refine Calls.mono (spec_CountHoles q _) ?_
    rintro e w3 ⟨rfl, hb3⟩
    have bB3 := ((bB.set 0 _).set 1 _ : BoxAt _ (w.heap.size + 1) #[.int .u64 (lo q), .int .u64 (hi q)] 58).ext hb3
    have bC3 := ((bC.setOther (by first | omega | (simp; done) | (simp; omega) | (dsimp only; omega)) _).setOther (by first | omega | (simp; done) | (simp; omega) | (dsimp only; omega)) _ : BoxAt ((w2.setCell ⟨w.heap.size + 1, 0, none⟩ (.int .u64 (lo q))).setCell ⟨w.heap.size + 1, 1, none⟩ (.int .u64 (hi q))) w.heap.size _ _).ext hb3
    have hw : Ext w w3 := Ext.trans (Ext.set (by simp) (Ext.set (by simp) hw2 _) _) hb3
    clear bB bC c0 c1 f0 f1 l2 hw2 hb3
    have e0 := bB3.cell 0
    have e1 := bB3.cell 1
    have f0 := bB3.frozen 0
    have f1 := bB3.frozen 1
    have l3 := bB3.lt
    by_cases hpar : mcount q % 2 = 0
    · have hp2 := hd (hp.out.trans (if_pos hpar))
      clear hp
      generalize mcount q = cn at hpar hcn hcl
      go_wp2
      refine wp_region_ext_tail 6 6 (by kernel_rfl) (by kernel_rfl) (by intro d _ _ _ _ h; cases d <;> exact h) ?_
      simp only [List.take_succ_cons, List.take_zero, List.drop_succ_cons, List.drop_zero]
      repeat (first | go_big_quiet_step ((first | (go_at_call 83; with_reducible exact Calls.ext_of (spec_l01Bit (st + sz) (by omega) (by omega) _)) | (go_at_call 80; with_reducible exact Calls.ext_of (spec_l01Join _ _ _)))) | quiet_step ((first | (go_at_call 83; with_reducible exact Calls.ext_of (spec_l01Bit (st + sz) (by omega) (by omega) _)) | (go_at_call 80; with_reducible exact Calls.ext_of (spec_l01Join _ _ _)))))
      refine wpQuiet_nil ?_
      intro w4 hq4
      have hb4 := ext_of_class hq4
      clear hq4
      obtain ⟨hc4, hf4, hz4⟩ := bcell3 hb4
      try simp at hz4
      have bB4 := bB3.ext hb4
      have bC4 := bC3.ext hb4
      have e2 := bB4.cell 0
      have e3 := bB4.cell 1
      have f2 := bB4.frozen 0
      have f3 := bB4.frozen 1
      have l4 := bB4.lt
      have g0 := bC4.frozen 0
      have g1 := bC4.frozen 1
      have x0 : w4.cell? ⟨w.heap.size, 0, none⟩ = some (.int .u64 0) := bC4.cell 0
      have x1 : w4.cell? ⟨w.heap.size, 1, none⟩ = some (.int .u64 0) := bC4.cell 1
      have hw4 := hw.trans hb4
      clear hb4 hc4 hf4
      go_wp2
      rw [hp2.out]
      refine bodyPost_ret (v := .agg #[.int .u64 (lo (mjoin q (mbit (st + sz)))), .int .u64 (hi (mjoin q (mbit (st + sz))))]) (by simp [results, Tryd.results81, go_sem, x0, x1]) rfl ⟨rfl, ?_⟩
      exact (((hw4.setCell (by simp) _).setCell (by simp) _).setCell (by simp) _).setCell (by simp) _
    · have hp2 := hd (hp.out.trans (if_neg hpar))
      clear hp
      generalize mcount q = cn at hpar hcn hcl
      have g0 := bC3.frozen 0
      have g1 := bC3.frozen 1
      have x0 : w3.cell? ⟨w.heap.size, 0, none⟩ = some (.int .u64 0) := bC3.cell 0
      have x1 : w3.cell? ⟨w.heap.size, 1, none⟩ = some (.int .u64 0) := bC3.cell 1
      go_wp2
      rw [hp2.out]
      refine bodyPost_ret (v := .agg #[.int .u64 (lo q), .int .u64 (hi q)]) (by simp [results, Tryd.results81, go_sem, x0, x1]) rfl ⟨rfl, ?_⟩
      exact (hw.setCell (by simp) _).setCell (by simp) _
  · have hz4 : sz ≤ 4 := z1
    have hm9b : v ≤ 9999 := by omega
    clear v1
    rw [manyF1] at z2
    have hv := hd (show codeF ⟨nm, 1, st, sz⟩ v = orTo (digG 1 st sz v) sz.toNat from rfl)
    rw [hv.out]
    clear hv
    go_enter Tryd.func81, Tryd.ntmps81
    go_wp2_with fail
    refine Calls.mono (spec_l01Sums _) ?_
    rintro e w3 ⟨bS, cap, rfl, hS, hle, hb3⟩
    have bC : BoxAt w3 w.heap.size #[.int .u64 0, .int .u64 0] 58 := ((BoxAt.new' rfl).alloc _).ext hb3
    have bB : BoxAt w3 (w.heap.size + 1) #[.int .u64 0, .int .u64 0] 58 := (BoxAt.new' (by simp)).ext hb3
    have hlS : w.heap.size + 1 < bS := by simp at hle; omega
    have hw3 : Ext w w3 := by ((repeat (first | with_reducible exact Ext.refl _ | with_reducible exact hw | with_reducible exact hb9 | with_reducible exact hb8 | with_reducible exact hb7 | with_reducible exact hb6 | with_reducible exact hb5 | with_reducible exact hb4 | with_reducible exact hb3 | with_reducible exact hb2 | with_reducible exact hb1 | with_reducible refine Ext.alloc ?_ _ | with_reducible refine Ext.drew ?_ | ((with_reducible refine Ext.set ?_ ?_ _); focus (dsimp only; omega)) | with_reducible refine Ext.trans ?_ hb9 | with_reducible refine Ext.trans ?_ hb8 | with_reducible refine Ext.trans ?_ hb7 | with_reducible refine Ext.trans ?_ hb6 | with_reducible refine Ext.trans ?_ hb5 | with_reducible refine Ext.trans ?_ hb4 | with_reducible refine Ext.trans ?_ hb3 | with_reducible refine Ext.trans ?_ hb2 | with_reducible refine Ext.trans ?_ hb1 | with_reducible refine Ext.trans ?_ hw)))
    have y1 := hw3.cell d1
    have lb : b < w3.heap.size := Nat.lt_of_lt_of_le hlt hw3.size
    clear hb3 hle
    go_wp2
    clear y1 lb
    generalize hT : orTo (digG 1 st sz v) sz.toNat = T
    go_loopg [10] sz.toNat (fun g i wr => ∃ (k : Nat), g = sz.toNat - k ∧ k ≤ sz.toNat ∧ i = .int .i64 k ∧ Ext w wr ∧ BoxAt wr (w.heap.size + 1) #[.int .u64 (lo (orTo (digG 1 st sz v) k)), .int .u64 (hi (orTo (digG 1 st sz v) k))] 58 ∧ BoxAt wr w.heap.size #[.int .u64 0, .int .u64 0] 58 ∧ Rd encI64 wr (some ⟨bS, 0, none⟩) sumsL)
    case atStart => exact ⟨0, by omega, by omega, rfl, hw3, by rw [show orTo (digG 1 st sz v) 0 = 0 from rfl, lo_zero, hi_zero]; exact bB, bC, hS⟩
    case round =>
      obtain ⟨k, hg, hk, rfl, hw, hB, hC, hR⟩ := hrel
      clear bB bC hw3 hS
      by_cases hkl : k < sz.toNat
      · have hks : (k : Int) < sz := by omega
        have wr1 : IntKind.i64.wrap (sz - 1) = sz - 1 := IntWalk.i64_in _ (by omega)
        have wr2 : IntKind.i64.wrap (sz - 1 - k) = sz - 1 - k := IntWalk.i64_in _ (by omega)
        have wr3 : IntKind.i64.wrap (4 * k) = 4 * k := IntWalk.i64_in _ (by omega)
        have wr4 : IntKind.i64.wrap (st + 4 * k) = st + 4 * k := IntWalk.i64_in _ (by omega)
        have hpw := fun W => spec_l01Power 10 (sz - 1 - k) (.inr rfl) (by omega) (by omega) W
        have hP1 := (powB (b := 10) (.inr rfl) (sz - 1 - (k : Int)).toNat (by omega)).1
        have hda : digAt sz v k = v / 10 ^ (sz - 1 - (k : Int)).toNat % 10 := rfl
        generalize (10 : Int) ^ (sz - 1 - (k : Int)).toNat = P at hpw hP1 hda
        have wq : IntKind.i64.wrap (v.tdiv P) = v / P := IntWalk.i64_quo _ _ (by omega)
        have hq0 : 0 ≤ v / P := (IntWalk.tdiv_le v P v0 hP1).1
        have hP0 : (P == 0) = false := by simp; omega
        have hdn : ∃ d : Nat, v / P % 10 = (d : Int) ∧ d < 10 := ⟨(v / P % 10).toNat, by omega, by omega⟩
        obtain ⟨d, hd1, hd10⟩ := hdn
        have wm : (v / P).tmod 10 = (d : Int) := (IntWalk.rem_in _ _ hq0).trans hd1
        rw [hd1] at hda
        have hnx := hd (show notchTo (orTo (digG 1 st sz v) k) (st + 4 * k) 4 (digN 1 d) 4 = orTo (digG 1 st sz v) (k + 1) by
          have h := dig_notch 1 (d : Int) (by decide) (by omega) (by omega) (orTo (digG 1 st sz v) k) (st + 4 * k)
          rw [show digW 1 = 4 from rfl, show ((4 : Int)).toNat = 4 from rfl] at h
          rw [h, orTo_succ]
          unfold digG
          rw [hda, show digW 1 = 4 from rfl])
        have hbd := digN_bd 1 ⟨d, hd10⟩
        have htb := sums_at ⟨d, hd10⟩
        dsimp only at hbd htb
        go_wp2_with fail
        refine Calls.mono (hpw _) ?_
        rintro e w1 ⟨rfl, hb1⟩
        have hB := hB.ext hb1
        have hC := hC.ext hb1
        have hR := hR.ext hb1
        have hw := hw.trans hb1
        clear hb1 hda
        have m0 : w1.cell? ⟨bS, d, none⟩ = some (.int .i64 (digN 1 d)) := by have := hR.i64 d hd10; rw [Nat.zero_add] at this; rw [this]; exact congrArg (fun x => some (Value.int .i64 x)) htb
        have lS : bS < w1.heap.size := (hR d hd10).elim (fun _ h => by obtain ⟨_, h1, h2, _⟩ := h; simp only [Option.some.injEq, Addr.mk.injEq, and_true] at h1; obtain ⟨rfl, rfl⟩ := h1; exact h2)
        generalize digN 1 (d : Int) = cd at hnx hbd htb m0
        have hno := fun W => spec_l01Notch (orTo (digG 1 st sz v) k) (st + 4 * k) 4 cd (by omega) (by decide) (by decide) (by omega) (by omega) (by omega) W
        rw [show ((4 : Int)).toNat = 4 from rfl, hnx.out] at hno
        have c0 := hB.cell 0
        have c1 := hB.cell 1
        have f0 := hB.frozen 0
        have f1 := hB.frozen 1
        have l2 := hB.lt
        go_wp2
        refine wp_region_ext_tail 12 12 (by kernel_rfl) (by kernel_rfl) (by intro d _ _ _ _ h; cases d <;> exact h) ?_
        simp only [List.take_succ_cons, List.take_zero, List.drop_succ_cons, List.drop_zero]
        repeat (first | go_big_quiet_step (((go_at_call 91; with_reducible exact Calls.ext_of (hno _)))) | quiet_step (((go_at_call 91; with_reducible exact Calls.ext_of (hno _)))))
        refine wpQuiet_nil ?_
        intro w2 hq2
        have hb2 := ext_of_class hq2
        clear hq2
        obtain ⟨hc2, hf2, hz2⟩ := bcell3 hb2
        try simp at hz2
        have hB2 := hB.ext hb2
        have g0 := hB2.frozen 0
        have g1 := hB2.frozen 1
        have y0 := hB2.cell 0
        have y1 := hB2.cell 1
        have l3 := hB2.lt
        go_wp2
        go_roundg (sz.toNat - (k + 1))
        case rel => exact ⟨k + 1, rfl, hkl, by simp, by ((repeat (first | with_reducible exact Ext.refl _ | with_reducible exact hw | with_reducible exact hb9 | with_reducible exact hb8 | with_reducible exact hb7 | with_reducible exact hb6 | with_reducible exact hb5 | with_reducible exact hb4 | with_reducible exact hb3 | with_reducible exact hb2 | with_reducible exact hb1 | with_reducible refine Ext.alloc ?_ _ | with_reducible refine Ext.drew ?_ | ((with_reducible refine Ext.set ?_ ?_ _); focus (dsimp only; omega)) | with_reducible refine Ext.trans ?_ hb9 | with_reducible refine Ext.trans ?_ hb8 | with_reducible refine Ext.trans ?_ hb7 | with_reducible refine Ext.trans ?_ hb6 | with_reducible refine Ext.trans ?_ hb5 | with_reducible refine Ext.trans ?_ hb4 | with_reducible refine Ext.trans ?_ hb3 | with_reducible refine Ext.trans ?_ hb2 | with_reducible refine Ext.trans ?_ hb1 | with_reducible refine Ext.trans ?_ hw))), (hB2.set 0 _).set 1 _, ((hC.ext hb2).setOther (by first | omega | (simp; done) | (simp; omega) | (dsimp only; omega)) _).setOther (by first | omega | (simp; done) | (simp; omega) | (dsimp only; omega)) _, ((hR.ext hb2).setB (by first | omega | (simp; done) | (simp; omega) | (dsimp only; omega)) _).setB (by first | omega | (simp; done) | (simp; omega) | (dsimp only; omega)) _⟩
        case measure => omega
      · obtain rfl : k = sz.toNat := by omega
        have hks : ((sz.toNat : Nat) : Int) = sz := by omega
        rw [hT] at hB
        have c0 := hB.cell 0
        have c1 := hB.cell 1
        have l2 := hB.lt
        have g0 := hC.frozen 0
        have g1 := hC.frozen 1
        have x0 : wr.cell? ⟨w.heap.size, 0, none⟩ = some (.int .u64 0) := hC.cell 0
        have x1 : wr.cell? ⟨w.heap.size, 1, none⟩ = some (.int .u64 0) := hC.cell 1
        go_wp2
        refine bodyPost_ret (v := .agg #[.int .u64 (lo T), .int .u64 (hi T)]) (by simp [results, Tryd.results81, go_sem, x0, x1]) rfl ⟨by rw [hT], ?_⟩
        (repeat (first | with_reducible exact Ext.refl _ | with_reducible exact hw | with_reducible exact hb9 | with_reducible exact hb8 | with_reducible exact hb7 | with_reducible exact hb6 | with_reducible exact hb5 | with_reducible exact hb4 | with_reducible exact hb3 | with_reducible exact hb2 | with_reducible exact hb1 | with_reducible refine Ext.alloc ?_ _ | with_reducible refine Ext.drew ?_ | ((with_reducible refine Ext.set ?_ ?_ _); focus (dsimp only; omega)) | with_reducible refine Ext.trans ?_ hb9 | with_reducible refine Ext.trans ?_ hb8 | with_reducible refine Ext.trans ?_ hb7 | with_reducible refine Ext.trans ?_ hb6 | with_reducible refine Ext.trans ?_ hb5 | with_reducible refine Ext.trans ?_ hb4 | with_reducible refine Ext.trans ?_ hb3 | with_reducible refine Ext.trans ?_ hb2 | with_reducible refine Ext.trans ?_ hb1 | with_reducible refine Ext.trans ?_ hw))
  · have hz4 : sz ≤ 4 := z1
    have hm9b : v ≤ 9999 := by omega
    clear v1
    rw [manyF2] at z2
    have hv := hd (show codeF ⟨nm, 2, st, sz⟩ v = orTo (digG 2 st sz v) sz.toNat from rfl)
    rw [hv.out]
    clear hv
    go_enter Tryd.func81, Tryd.ntmps81
    go_wp2_with fail
    refine Calls.mono (spec_l01Sums _) ?_
    rintro e w3 ⟨bS, cap, rfl, hS, hle, hb3⟩
    have bC : BoxAt w3 w.heap.size #[.int .u64 0, .int .u64 0] 58 := ((BoxAt.new' rfl).alloc _).ext hb3
    have bB : BoxAt w3 (w.heap.size + 1) #[.int .u64 0, .int .u64 0] 58 := (BoxAt.new' (by simp)).ext hb3
    have hlS : w.heap.size + 1 < bS := by simp at hle; omega
    have hw3 : Ext w w3 := by ((repeat (first | with_reducible exact Ext.refl _ | with_reducible exact hw | with_reducible exact hb9 | with_reducible exact hb8 | with_reducible exact hb7 | with_reducible exact hb6 | with_reducible exact hb5 | with_reducible exact hb4 | with_reducible exact hb3 | with_reducible exact hb2 | with_reducible exact hb1 | with_reducible refine Ext.alloc ?_ _ | with_reducible refine Ext.drew ?_ | ((with_reducible refine Ext.set ?_ ?_ _); focus (dsimp only; omega)) | with_reducible refine Ext.trans ?_ hb9 | with_reducible refine Ext.trans ?_ hb8 | with_reducible refine Ext.trans ?_ hb7 | with_reducible refine Ext.trans ?_ hb6 | with_reducible refine Ext.trans ?_ hb5 | with_reducible refine Ext.trans ?_ hb4 | with_reducible refine Ext.trans ?_ hb3 | with_reducible refine Ext.trans ?_ hb2 | with_reducible refine Ext.trans ?_ hb1 | with_reducible refine Ext.trans ?_ hw)))
    have y1 := hw3.cell d1
    have lb : b < w3.heap.size := Nat.lt_of_lt_of_le hlt hw3.size
    clear hb3 hle
    go_wp2_with fail
    refine Calls.mono (spec_l01Pairs _) ?_
    rintro e w4 ⟨bP, cap2, rfl, hS4, hle4, hb4⟩
    have lw3 := bB.lt
    have hlP : w.heap.size + 1 < bP := by omega
    have bC := bC.ext hb4
    have bB := bB.ext hb4
    have hw3 := hw3.trans hb4
    clear y1 lb
    have y1 := hw3.cell d1
    have lb : b < w4.heap.size := Nat.lt_of_lt_of_le hlt hw3.size
    clear hb4 hle4 hS hlS lw3
    have hS := hS4
    go_wp2
    clear y1 lb
    generalize hT : orTo (digG 2 st sz v) sz.toNat = T
    go_loopg [10] sz.toNat (fun g i wr => ∃ (k : Nat), g = sz.toNat - k ∧ k ≤ sz.toNat ∧ i = .int .i64 k ∧ Ext w wr ∧ BoxAt wr (w.heap.size + 1) #[.int .u64 (lo (orTo (digG 2 st sz v) k)), .int .u64 (hi (orTo (digG 2 st sz v) k))] 58 ∧ BoxAt wr w.heap.size #[.int .u64 0, .int .u64 0] 58 ∧ Rd encI64 wr (some ⟨bP, 0, none⟩) pairsL)
    case atStart => exact ⟨0, by omega, by omega, rfl, hw3, by rw [show orTo (digG 2 st sz v) 0 = 0 from rfl, lo_zero, hi_zero]; exact bB, bC, hS⟩
    case round =>
      obtain ⟨k, hg, hk, rfl, hw, hB, hC, hR⟩ := hrel
      clear bB bC hw3 hS
      by_cases hkl : k < sz.toNat
      · have hks : (k : Int) < sz := by omega
        have wr1 : IntKind.i64.wrap (sz - 1) = sz - 1 := IntWalk.i64_in _ (by omega)
        have wr2 : IntKind.i64.wrap (sz - 1 - k) = sz - 1 - k := IntWalk.i64_in _ (by omega)
        have wr3 : IntKind.i64.wrap (5 * k) = 5 * k := IntWalk.i64_in _ (by omega)
        have wr4 : IntKind.i64.wrap (st + 5 * k) = st + 5 * k := IntWalk.i64_in _ (by omega)
        have hpw := fun W => spec_l01Power 10 (sz - 1 - k) (.inr rfl) (by omega) (by omega) W
        have hP1 := (powB (b := 10) (.inr rfl) (sz - 1 - (k : Int)).toNat (by omega)).1
        have hda : digAt sz v k = v / 10 ^ (sz - 1 - (k : Int)).toNat % 10 := rfl
        generalize (10 : Int) ^ (sz - 1 - (k : Int)).toNat = P at hpw hP1 hda
        have wq : IntKind.i64.wrap (v.tdiv P) = v / P := IntWalk.i64_quo _ _ (by omega)
        have hq0 : 0 ≤ v / P := (IntWalk.tdiv_le v P v0 hP1).1
        have hP0 : (P == 0) = false := by simp; omega
        have hdn : ∃ d : Nat, v / P % 10 = (d : Int) ∧ d < 10 := ⟨(v / P % 10).toNat, by omega, by omega⟩
        obtain ⟨d, hd1, hd10⟩ := hdn
        have wm : (v / P).tmod 10 = (d : Int) := (IntWalk.rem_in _ _ hq0).trans hd1
        rw [hd1] at hda
        have hnx := hd (show notchTo (orTo (digG 2 st sz v) k) (st + 5 * k) 5 (digN 2 d) 5 = orTo (digG 2 st sz v) (k + 1) by
          have h := dig_notch 2 (d : Int) (by decide) (by omega) (by omega) (orTo (digG 2 st sz v) k) (st + 5 * k)
          rw [show digW 2 = 5 from rfl, show ((5 : Int)).toNat = 5 from rfl] at h
          rw [h, orTo_succ]
          unfold digG
          rw [hda, show digW 2 = 5 from rfl])
        have hbd := digN_bd 2 ⟨d, hd10⟩
        have htb := pairs_at ⟨d, hd10⟩
        dsimp only at hbd htb
        go_wp2_with fail
        refine Calls.mono (hpw _) ?_
        rintro e w1 ⟨rfl, hb1⟩
        have hB := hB.ext hb1
        have hC := hC.ext hb1
        have hR := hR.ext hb1
        have hw := hw.trans hb1
        clear hb1 hda
        have m0 : w1.cell? ⟨bP, d, none⟩ = some (.int .i64 (digN 2 d)) := by have := hR.i64 d hd10; rw [Nat.zero_add] at this; rw [this]; exact congrArg (fun x => some (Value.int .i64 x)) htb
        have lS : bP < w1.heap.size := (hR d hd10).elim (fun _ h => by obtain ⟨_, h1, h2, _⟩ := h; simp only [Option.some.injEq, Addr.mk.injEq, and_true] at h1; obtain ⟨rfl, rfl⟩ := h1; exact h2)
        generalize digN 2 (d : Int) = cd at hnx hbd htb m0
        have hno := fun W => spec_l01Notch (orTo (digG 2 st sz v) k) (st + 5 * k) 5 cd (by omega) (by decide) (by decide) (by omega) (by omega) (by omega) W
        rw [show ((5 : Int)).toNat = 5 from rfl, hnx.out] at hno
        have c0 := hB.cell 0
        have c1 := hB.cell 1
        have f0 := hB.frozen 0
        have f1 := hB.frozen 1
        have l2 := hB.lt
        go_wp2
        refine wp_region_ext_tail 12 12 (by kernel_rfl) (by kernel_rfl) (by intro d _ _ _ _ h; cases d <;> exact h) ?_
        simp only [List.take_succ_cons, List.take_zero, List.drop_succ_cons, List.drop_zero]
        repeat (first | go_big_quiet_step (((go_at_call 91; with_reducible exact Calls.ext_of (hno _)))) | quiet_step (((go_at_call 91; with_reducible exact Calls.ext_of (hno _)))))
        refine wpQuiet_nil ?_
        intro w2 hq2
        have hb2 := ext_of_class hq2
        clear hq2
        obtain ⟨hc2, hf2, hz2⟩ := bcell3 hb2
        try simp at hz2
        have hB2 := hB.ext hb2
        have g0 := hB2.frozen 0
        have g1 := hB2.frozen 1
        have y0 := hB2.cell 0
        have y1 := hB2.cell 1
        have l3 := hB2.lt
        go_wp2
        go_roundg (sz.toNat - (k + 1))
        case rel => exact ⟨k + 1, rfl, hkl, by simp, by ((repeat (first | with_reducible exact Ext.refl _ | with_reducible exact hw | with_reducible exact hb9 | with_reducible exact hb8 | with_reducible exact hb7 | with_reducible exact hb6 | with_reducible exact hb5 | with_reducible exact hb4 | with_reducible exact hb3 | with_reducible exact hb2 | with_reducible exact hb1 | with_reducible refine Ext.alloc ?_ _ | with_reducible refine Ext.drew ?_ | ((with_reducible refine Ext.set ?_ ?_ _); focus (dsimp only; omega)) | with_reducible refine Ext.trans ?_ hb9 | with_reducible refine Ext.trans ?_ hb8 | with_reducible refine Ext.trans ?_ hb7 | with_reducible refine Ext.trans ?_ hb6 | with_reducible refine Ext.trans ?_ hb5 | with_reducible refine Ext.trans ?_ hb4 | with_reducible refine Ext.trans ?_ hb3 | with_reducible refine Ext.trans ?_ hb2 | with_reducible refine Ext.trans ?_ hb1 | with_reducible refine Ext.trans ?_ hw))), (hB2.set 0 _).set 1 _, ((hC.ext hb2).setOther (by first | omega | (simp; done) | (simp; omega) | (dsimp only; omega)) _).setOther (by first | omega | (simp; done) | (simp; omega) | (dsimp only; omega)) _, ((hR.ext hb2).setB (by first | omega | (simp; done) | (simp; omega) | (dsimp only; omega)) _).setB (by first | omega | (simp; done) | (simp; omega) | (dsimp only; omega)) _⟩
        case measure => omega
      · obtain rfl : k = sz.toNat := by omega
        have hks : ((sz.toNat : Nat) : Int) = sz := by omega
        rw [hT] at hB
        have c0 := hB.cell 0
        have c1 := hB.cell 1
        have l2 := hB.lt
        have g0 := hC.frozen 0
        have g1 := hC.frozen 1
        have x0 : wr.cell? ⟨w.heap.size, 0, none⟩ = some (.int .u64 0) := hC.cell 0
        have x1 : wr.cell? ⟨w.heap.size, 1, none⟩ = some (.int .u64 0) := hC.cell 1
        go_wp2
        refine bodyPost_ret (v := .agg #[.int .u64 (lo T), .int .u64 (hi T)]) (by simp [results, Tryd.results81, go_sem, x0, x1]) rfl ⟨by rw [hT], ?_⟩
        (repeat (first | with_reducible exact Ext.refl _ | with_reducible exact hw | with_reducible exact hb9 | with_reducible exact hb8 | with_reducible exact hb7 | with_reducible exact hb6 | with_reducible exact hb5 | with_reducible exact hb4 | with_reducible exact hb3 | with_reducible exact hb2 | with_reducible exact hb1 | with_reducible refine Ext.alloc ?_ _ | with_reducible refine Ext.drew ?_ | ((with_reducible refine Ext.set ?_ ?_ _); focus (dsimp only; omega)) | with_reducible refine Ext.trans ?_ hb9 | with_reducible refine Ext.trans ?_ hb8 | with_reducible refine Ext.trans ?_ hb7 | with_reducible refine Ext.trans ?_ hb6 | with_reducible refine Ext.trans ?_ hb5 | with_reducible refine Ext.trans ?_ hb4 | with_reducible refine Ext.trans ?_ hb3 | with_reducible refine Ext.trans ?_ hb2 | with_reducible refine Ext.trans ?_ hb1 | with_reducible refine Ext.trans ?_ hw))
end Go.Proofs.YtdlpifgkponnmaaDoor
