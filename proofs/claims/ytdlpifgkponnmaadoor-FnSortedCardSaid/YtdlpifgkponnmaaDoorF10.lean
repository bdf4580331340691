/-
  Contracts of the reference's functions on codes of fields: notches, tables of digits, the greatest value.
-/
import Derived.Test.YtdlpifgkponnmaaDoorF9
import Derived.Test.YtdlpifgkponnmaaDoorF6D
set_option linter.unusedVariables false
set_option linter.unusedSimpArgs false
set_option maxRecDepth 100000
namespace Go.Proofs.YtdlpifgkponnmaaDoor
open Go.RowKit
set_option maxHeartbeats 1000000 in
theorem spec_l01Notch (m : Mask) (st holes b : Int) (s0 : 0 ≤ st) (h0 : 0 ≤ holes) (h12 : holes ≤ 12) (hb : st + holes ≤ 128) (b0 : 0 ≤ b) (b1 : b ≤ 99999) (w : World) :
    Calls Tryd.prog 91 #[.agg #[.int .u64 (lo m), .int .u64 (hi m)], .int .i64 st, .int .i64 holes, .int .i64 b] w fun e w' => e = .returned (.agg #[.int .u64 (lo (notchTo m st holes b holes.toNat)), .int .u64 (hi (notchTo m st holes b holes.toNat))]) ∧ Ext w w' := by
  have hx := @ExtOf.cell
  go_enter Tryd.func91, Tryd.ntmps91
  go_wp2
  go_loopg [9] holes.toNat (fun g i wr => ∃ k : Nat, g = holes.toNat - k ∧ k ≤ holes.toNat ∧ i = .int .i64 k ∧ Ext w wr ∧ BoxAt wr w.heap.size #[.int .u64 (lo (notchTo m st holes b k)), .int .u64 (hi (notchTo m st holes b k))] 58 ∧ BoxAt wr (w.heap.size + 1) #[.int .u64 0, .int .u64 0] 58)
  case atStart => exact ⟨0, by omega, by omega, rfl, by ((repeat (first | with_reducible exact Ext.refl _ | with_reducible exact hw | with_reducible exact hb9 | with_reducible exact hb8 | with_reducible exact hb7 | with_reducible exact hb6 | with_reducible exact hb5 | with_reducible exact hb4 | with_reducible exact hb3 | with_reducible exact hb2 | with_reducible exact hb1 | with_reducible refine Ext.alloc ?_ _ | with_reducible refine Ext.drew ?_ | ((with_reducible refine Ext.set ?_ ?_ _); focus (dsimp only; omega)) | with_reducible refine Ext.trans ?_ hb9 | with_reducible refine Ext.trans ?_ hb8 | with_reducible refine Ext.trans ?_ hb7 | with_reducible refine Ext.trans ?_ hb6 | with_reducible refine Ext.trans ?_ hb5 | with_reducible refine Ext.trans ?_ hb4 | with_reducible refine Ext.trans ?_ hb3 | with_reducible refine Ext.trans ?_ hb2 | with_reducible refine Ext.trans ?_ hb1 | with_reducible refine Ext.trans ?_ hw))), by rw [notchTo_zero]; exact (BoxAt.new' rfl).alloc _, BoxAt.new' (by simp)⟩
  case round =>
    obtain ⟨k, hg, hk, rfl, hw, hB, hC⟩ := hrel
    by_cases hkl : k < holes.toNat
    · have hks : (k : Int) < holes := by omega
      have wr1 : IntKind.i64.wrap (holes - 1) = holes - 1 := IntWalk.i64_in _ (by omega)
      have wr2 : IntKind.i64.wrap (holes - 1 - k) = holes - 1 - k := IntWalk.i64_in _ (by omega)
      have wr3 : IntKind.i64.wrap (st + k) = st + k := IntWalk.i64_in _ (by omega)
      have hpw := fun W => spec_l01Power 2 (holes - 1 - k) (.inl rfl) (by omega) (by omega) W
      have hP1 := (powB (b := 2) (.inl rfl) (holes - 1 - (k : Int)).toNat (by omega)).1
      have hhit := fun h => hd (notchTo_hit (m := m) (st := st) (holes := holes) (b := b) (k := k) h)
      have hmiss := fun h => hd (notchTo_miss (m := m) (st := st) (holes := holes) (b := b) (k := k) h)
      generalize (2 : Int) ^ (holes - 1 - (k : Int)).toNat = P at hpw hP1 hhit hmiss
      have wq : IntKind.i64.wrap (b.tdiv P) = b / P := IntWalk.i64_quo _ _ (by omega)
      have hq0 : 0 ≤ b / P := (IntWalk.tdiv_le b P b0 hP1).1
      have wm : (b / P).tmod 2 = b / P % 2 := IntWalk.rem_in _ _ hq0
      have hP0 : (P == 0) = false := by simp; omega
      go_wp2_with fail
      refine Calls.mono (hpw _) ?_
      rintro e w1 ⟨rfl, hb1⟩
      have hB := hB.ext hb1
      have hC := hC.ext hb1
      have hw := hw.trans hb1
      clear hb1
      have c0 := hB.cell 0
      have c1 := hB.cell 1
      have f0 := hB.frozen 0
      have f1 := hB.frozen 1
      have l2 := hB.lt
      by_cases hq : b / P % 2 = 1
      · have hs := hhit hq
        clear hhit hmiss
        go_wp2
        refine wp_region_ext_tail 6 6 (by kernel_rfl) (by kernel_rfl) (by intro d _ _ _ _ h; cases d <;> exact h) ?_
        simp only [List.take_succ_cons, List.take_zero, List.drop_succ_cons, List.drop_zero]
        repeat (first | go_big_quiet_step ((first | (go_at_call 83; with_reducible exact Calls.ext_of (spec_l01Bit (st + k) (by omega) (by omega) _)) | (go_at_call 80; with_reducible exact Calls.ext_of (spec_l01Join _ _ _)))) | quiet_step ((first | (go_at_call 83; with_reducible exact Calls.ext_of (spec_l01Bit (st + k) (by omega) (by omega) _)) | (go_at_call 80; with_reducible exact Calls.ext_of (spec_l01Join _ _ _)))))
        refine wpQuiet_nil ?_
        intro w2 hq2
        have hb2 := ext_of_class hq2
        clear hq2
        obtain ⟨hc2, hf2, hz2⟩ := bcell3 hb2
        try simp at hz2
        have hB2 := hB.ext hb2
        have g0 := hB2.frozen 0
        have g1 := hB2.frozen 1
        have y0 := hB2.cell 0
        have y1 := hB2.cell 1
        have l3 := hB2.lt
        go_wp2
        go_roundg (holes.toNat - (k + 1))
        case rel => exact ⟨k + 1, rfl, hkl, by simp, by ((repeat (first | with_reducible exact Ext.refl _ | with_reducible exact hw | with_reducible exact hb9 | with_reducible exact hb8 | with_reducible exact hb7 | with_reducible exact hb6 | with_reducible exact hb5 | with_reducible exact hb4 | with_reducible exact hb3 | with_reducible exact hb2 | with_reducible exact hb1 | with_reducible refine Ext.alloc ?_ _ | with_reducible refine Ext.drew ?_ | ((with_reducible refine Ext.set ?_ ?_ _); focus (dsimp only; omega)) | with_reducible refine Ext.trans ?_ hb9 | with_reducible refine Ext.trans ?_ hb8 | with_reducible refine Ext.trans ?_ hb7 | with_reducible refine Ext.trans ?_ hb6 | with_reducible refine Ext.trans ?_ hb5 | with_reducible refine Ext.trans ?_ hb4 | with_reducible refine Ext.trans ?_ hb3 | with_reducible refine Ext.trans ?_ hb2 | with_reducible refine Ext.trans ?_ hb1 | with_reducible refine Ext.trans ?_ hw))), by rw [hs.out]; exact (hB2.set 0 _).set 1 _, ((hC.ext hb2).setOther (by first | omega | (simp; done) | (simp; omega) | (dsimp only; omega)) _).setOther (by first | omega | (simp; done) | (simp; omega) | (dsimp only; omega)) _⟩
        case measure => omega
      · have hs := hmiss hq
        have hq2 : (b / P % 2 == 1) = false := by simp [hq]
        clear hhit hmiss
        go_wp2
        go_roundg (holes.toNat - (k + 1))
        case rel => exact ⟨k + 1, rfl, hkl, by simp, hw, by rw [hs.out]; exact hB, hC⟩
        case measure => omega
    · obtain rfl : k = holes.toNat := by omega
      have hks : ((holes.toNat : Nat) : Int) = holes := by omega
      have c0 := hB.cell 0
      have c1 := hB.cell 1
      have l2 := hB.lt
      have l3 := hC.lt
      have g0 := hC.frozen 0
      have g1 := hC.frozen 1
      have x0 : wr.cell? ⟨w.heap.size + 1, 0, none⟩ = some (.int .u64 0) := hC.cell 0
      have x1 : wr.cell? ⟨w.heap.size + 1, 1, none⟩ = some (.int .u64 0) := hC.cell 1
      go_wp2
      refine bodyPost_ret (v := .agg #[.int .u64 (lo (notchTo m st holes b holes.toNat)), .int .u64 (hi (notchTo m st holes b holes.toNat))]) (by simp [results, Tryd.results91, go_sem, x0, x1]) rfl ⟨rfl, ?_⟩
      (repeat (first | with_reducible exact Ext.refl _ | with_reducible exact hw | with_reducible exact hb9 | with_reducible exact hb8 | with_reducible exact hb7 | with_reducible exact hb6 | with_reducible exact hb5 | with_reducible exact hb4 | with_reducible exact hb3 | with_reducible exact hb2 | with_reducible exact hb1 | with_reducible refine Ext.alloc ?_ _ | with_reducible refine Ext.drew ?_ | ((with_reducible refine Ext.set ?_ ?_ _); focus (dsimp only; omega)) | with_reducible refine Ext.trans ?_ hb9 | with_reducible refine Ext.trans ?_ hb8 | with_reducible refine Ext.trans ?_ hb7 | with_reducible refine Ext.trans ?_ hb6 | with_reducible refine Ext.trans ?_ hb5 | with_reducible refine Ext.trans ?_ hb4 | with_reducible refine Ext.trans ?_ hb3 | with_reducible refine Ext.trans ?_ hb2 | with_reducible refine Ext.trans ?_ hb1 | with_reducible refine Ext.trans ?_ hw))
def sumsL : List Int := [12, 1, 2, 3, 4, 5, 6, 8, 9, 10]
def pairsL : List Int := [24, 20, 18, 17, 12, 10, 9, 6, 5, 3]
theorem sums_at : ∀ d : Fin 10, sumsL[d.val]'(d.isLt) = digN 1 d.val := by decide
theorem pairs_at : ∀ d : Fin 10, pairsL[d.val]'(d.isLt) = digN 2 d.val := by decide
theorem digN_bd (kd : Int) : ∀ d : Fin 10, 0 ≤ digN 1 d.val ∧ digN 1 d.val ≤ 99 ∧ 0 ≤ digN 2 d.val ∧ digN 2 d.val ≤ 99 := by decide
set_option maxHeartbeats 400000 in
theorem spec_l01Sums (w : World) :
    Calls Tryd.prog 93 #[] w fun e w' => ∃ b cap, e = .returned (.slice (some ⟨b, 0, none⟩) 10 cap) ∧ Rd encI64 w' (some ⟨b, 0, none⟩) sumsL ∧ w.heap.size ≤ b ∧ Ext w w' := by
  go_enter Tryd.func93, Tryd.ntmps93
  go_wp2
  go_ret
  exact ⟨_, _, rfl, Rd.lit encI64 _ sumsL _ _ (by decide) rfl, Nat.le_refl _, by ((repeat (first | with_reducible exact Ext.refl _ | with_reducible exact hw | with_reducible exact hb9 | with_reducible exact hb8 | with_reducible exact hb7 | with_reducible exact hb6 | with_reducible exact hb5 | with_reducible exact hb4 | with_reducible exact hb3 | with_reducible exact hb2 | with_reducible exact hb1 | with_reducible refine Ext.alloc ?_ _ | with_reducible refine Ext.drew ?_ | ((with_reducible refine Ext.set ?_ ?_ _); focus (dsimp only; omega)) | with_reducible refine Ext.trans ?_ hb9 | with_reducible refine Ext.trans ?_ hb8 | with_reducible refine Ext.trans ?_ hb7 | with_reducible refine Ext.trans ?_ hb6 | with_reducible refine Ext.trans ?_ hb5 | with_reducible refine Ext.trans ?_ hb4 | with_reducible refine Ext.trans ?_ hb3 | with_reducible refine Ext.trans ?_ hb2 | with_reducible refine Ext.trans ?_ hb1 | with_reducible refine Ext.trans ?_ hw)))⟩
set_option maxHeartbeats 400000 in
theorem spec_l01Pairs (w : World) :
    Calls Tryd.prog 94 #[] w fun e w' => ∃ b cap, e = .returned (.slice (some ⟨b, 0, none⟩) 10 cap) ∧ Rd encI64 w' (some ⟨b, 0, none⟩) pairsL ∧ w.heap.size ≤ b ∧ Ext w w' := by
  go_enter Tryd.func94, Tryd.ntmps94
  go_wp2
  go_ret
  exact ⟨_, _, rfl, Rd.lit encI64 _ pairsL _ _ (by decide) rfl, Nat.le_refl _, by ((repeat (first | with_reducible exact Ext.refl _ | with_reducible exact hw | with_reducible exact hb9 | with_reducible exact hb8 | with_reducible exact hb7 | with_reducible exact hb6 | with_reducible exact hb5 | with_reducible exact hb4 | with_reducible exact hb3 | with_reducible exact hb2 | with_reducible exact hb1 | with_reducible refine Ext.alloc ?_ _ | with_reducible refine Ext.drew ?_ | ((with_reducible refine Ext.set ?_ ?_ _); focus (dsimp only; omega)) | with_reducible refine Ext.trans ?_ hb9 | with_reducible refine Ext.trans ?_ hb8 | with_reducible refine Ext.trans ?_ hb7 | with_reducible refine Ext.trans ?_ hb6 | with_reducible refine Ext.trans ?_ hb5 | with_reducible refine Ext.trans ?_ hb4 | with_reducible refine Ext.trans ?_ hb3 | with_reducible refine Ext.trans ?_ hb2 | with_reducible refine Ext.trans ?_ hb1 | with_reducible refine Ext.trans ?_ hw)))⟩
set_option maxHeartbeats 1000000 in
theorem spec_l01Most (f : Fld) (hf : fldB f = true) (b o : Nat) (w : World) (hF : FldAt w b o f) :
    Calls Tryd.prog 82 #[.pointer (some ⟨b, o, none⟩)] w fun e w' => e = .returned (.int .i64 (mostF f)) ∧ Ext w w' := by
  obtain ⟨_, k0, k3, s0, z0, z1, z2⟩ := fldB_parts hf
  have hz : f.sz ≤ 24 := by unfold mostSz at z1; split at z1 <;> (first | omega | (split at z1 <;> omega))
  have hlt : b < w.heap.size := World.block_lt_of_cell? w _ hF.1
  have wsz : IntKind.i64.wrap f.sz = f.sz := IntWalk.i64_in _ (by omega)
  obtain ⟨d0, d1, d2, d3⟩ := hF
  by_cases h0 : f.kd = 0
  · have hv := hd (show mostF f = f.sz - 1 by unfold mostF; rw [if_pos h0])
    rw [h0] at d1
    have wr1 : IntKind.i64.wrap (f.sz - 1) = f.sz - 1 := IntWalk.i64_in _ (by omega)
    go_enter Tryd.func82, Tryd.ntmps82
    go_wp2
    refine bodyPost_ret (v := .int .i64 (f.sz - 1)) (by simp [results, Tryd.results82, go_sem]) rfl ⟨by rw [hv.out], ?_⟩
    (repeat (first | with_reducible exact Ext.refl _ | with_reducible exact hw | with_reducible exact hb9 | with_reducible exact hb8 | with_reducible exact hb7 | with_reducible exact hb6 | with_reducible exact hb5 | with_reducible exact hb4 | with_reducible exact hb3 | with_reducible exact hb2 | with_reducible exact hb1 | with_reducible refine Ext.alloc ?_ _ | with_reducible refine Ext.drew ?_ | ((with_reducible refine Ext.set ?_ ?_ _); focus (dsimp only; omega)) | with_reducible refine Ext.trans ?_ hb9 | with_reducible refine Ext.trans ?_ hb8 | with_reducible refine Ext.trans ?_ hb7 | with_reducible refine Ext.trans ?_ hb6 | with_reducible refine Ext.trans ?_ hb5 | with_reducible refine Ext.trans ?_ hb4 | with_reducible refine Ext.trans ?_ hb3 | with_reducible refine Ext.trans ?_ hb2 | with_reducible refine Ext.trans ?_ hb1 | with_reducible refine Ext.trans ?_ hw))
  · by_cases h3 : f.kd = 3
    · have hv := hd (show mostF f = 2 ^ f.sz.toNat - 1 by unfold mostF; rw [if_neg h0, if_pos h3])
      rw [h3] at d1 z1
      have h12 : f.sz ≤ 12 := z1
      have hpw := fun W => spec_l01Power 2 f.sz (.inl rfl) (by omega) (by omega) W
      have hP := powB (b := 2) (.inl rfl) f.sz.toNat (by omega)
      generalize (2 : Int) ^ f.sz.toNat = P at hpw hP hv
      have wr1 : IntKind.i64.wrap (P - 1) = P - 1 := IntWalk.i64_in _ (by omega)
      go_enter Tryd.func82, Tryd.ntmps82
      go_wp2_with fail
      refine Calls.mono (hpw _) ?_
      rintro e w1 ⟨rfl, hb1⟩
      go_wp2
      refine bodyPost_ret (v := .int .i64 (P - 1)) (by simp [results, Tryd.results82, go_sem]) rfl ⟨by rw [hv.out], ?_⟩
      (repeat (first | with_reducible exact Ext.refl _ | with_reducible exact hw | with_reducible exact hb9 | with_reducible exact hb8 | with_reducible exact hb7 | with_reducible exact hb6 | with_reducible exact hb5 | with_reducible exact hb4 | with_reducible exact hb3 | with_reducible exact hb2 | with_reducible exact hb1 | with_reducible refine Ext.alloc ?_ _ | with_reducible refine Ext.drew ?_ | ((with_reducible refine Ext.set ?_ ?_ _); focus (dsimp only; omega)) | with_reducible refine Ext.trans ?_ hb9 | with_reducible refine Ext.trans ?_ hb8 | with_reducible refine Ext.trans ?_ hb7 | with_reducible refine Ext.trans ?_ hb6 | with_reducible refine Ext.trans ?_ hb5 | with_reducible refine Ext.trans ?_ hb4 | with_reducible refine Ext.trans ?_ hb3 | with_reducible refine Ext.trans ?_ hb2 | with_reducible refine Ext.trans ?_ hb1 | with_reducible refine Ext.trans ?_ hw))
    · have hv := hd (show mostF f = 10 ^ f.sz.toNat - 1 by unfold mostF; rw [if_neg h0, if_neg h3])
      have h4 : f.sz ≤ 4 := by unfold mostSz at z1; rwa [if_neg h0, if_neg h3] at z1
      have hpw := fun W => spec_l01Power 10 f.sz (.inr rfl) (by omega) (by omega) W
      have hP := powB (b := 10) (.inr rfl) f.sz.toNat (by omega)
      generalize (10 : Int) ^ f.sz.toNat = P at hpw hP hv
      have wr1 : IntKind.i64.wrap (P - 1) = P - 1 := IntWalk.i64_in _ (by omega)
      have q0 : (f.kd == 0) = false := by simp [h0]
      have q3 : (f.kd == 3) = false := by simp [h3]
      go_enter Tryd.func82, Tryd.ntmps82
      go_wp2_with fail
      refine Calls.mono (hpw _) ?_
      rintro e w1 ⟨rfl, hb1⟩
      go_wp2
      refine bodyPost_ret (v := .int .i64 (P - 1)) (by simp [results, Tryd.results82, go_sem]) rfl ⟨by rw [hv.out], ?_⟩
      (repeat (first | with_reducible exact Ext.refl _ | with_reducible exact hw | with_reducible exact hb9 | with_reducible exact hb8 | with_reducible exact hb7 | with_reducible exact hb6 | with_reducible exact hb5 | with_reducible exact hb4 | with_reducible exact hb3 | with_reducible exact hb2 | with_reducible exact hb1 | with_reducible refine Ext.alloc ?_ _ | with_reducible refine Ext.drew ?_ | ((with_reducible refine Ext.set ?_ ?_ _); focus (dsimp only; omega)) | with_reducible refine Ext.trans ?_ hb9 | with_reducible refine Ext.trans ?_ hb8 | with_reducible refine Ext.trans ?_ hb7 | with_reducible refine Ext.trans ?_ hb6 | with_reducible refine Ext.trans ?_ hb5 | with_reducible refine Ext.trans ?_ hb4 | with_reducible refine Ext.trans ?_ hb3 | with_reducible refine Ext.trans ?_ hb2 | with_reducible refine Ext.trans ?_ hb1 | with_reducible refine Ext.trans ?_ hw))
end Go.Proofs.YtdlpifgkponnmaaDoor
