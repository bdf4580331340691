/-
  PK13: the texts F7 F9 F10 F11 in one (written by pack.py).
-/
import Derived.Test.YtdiblmlcapommaaGreatDoorPK12
set_option linter.unusedVariables false
set_option linter.unusedSimpArgs false
set_option maxRecDepth 100000
namespace Go.Proofs.YtdiblmlcapommaaGreatDoor
open Go.RowKit
theorem notch_odd (m : Mask) (st sz v : Int) (k : Nat) : (v / 2 ^ (sz - 1 - k).toNat % 2 == 1) = decide (v / 2 ^ (sz - 1 - k).toNat % 2 = 1) := by
  rw [Bool.eq_iff_iff]; simp
theorem digStep {g : Nat → Mask} {q T : Mask} {k : Nat} (h : mjoin q (orTo g (k + 1)) = T) : mjoin (mjoin q (g k)) (orTo g k) = T := by
  rw [← h, orTo_succ, mjoin_assoc, mjoin_comm (g k)]
theorem digAt_next {sz v x : Int} {j : Nat} (h : x = v / 10 ^ j) (hj : (j : Int) < sz) : digAt sz v (sz.toNat - 1 - j) = x % 10 := by
  unfold digAt
  rw [h, show (sz - 1 - ((sz.toNat - 1 - j : Nat) : Int)).toNat = j by omega]
theorem mwith_mapTake (q : Mask) (L : List Int) (a : Int) (k : Nat) (hk : k < L.length) : mwith q ((L.map (a + ·)).take (k + 1)) = mjoin (mwith q ((L.map (a + ·)).take k)) (mbit (a + L[k])) := by
  rw [mwith_take _ _ k (by rw [List.length_map]; exact hk), List.getElem_map]
theorem map_takeAll (L : List Int) (a : Int) : (L.map (a + ·)).take L.length = L.map (a + ·) := List.take_of_length_le (by rw [List.length_map]; exact Nat.le_refl _)
theorem dig_div {v x : Int} {j : Nat} (h : x = v / 10 ^ j) : x / 10 = v / 10 ^ (j + 1) := by
  rw [h, Int.pow_succ, Int.ediv_ediv_of_nonneg (Int.le_of_lt (Int.pow_pos (by omega)))]
end Go.Proofs.YtdiblmlcapommaaGreatDoor
set_option linter.unusedVariables false
set_option linter.unusedSimpArgs false
set_option maxRecDepth 100000
namespace Go.Proofs.YtdiblmlcapommaaGreatDoor
open Go.RowKit
theorem powB {b : Int} (hb : b = 2 ∨ b = 10) (j : Nat) (hj : j ≤ 13) : 1 ≤ b ^ j ∧ b ^ j ≤ 10000000000000 := by
  rcases hb with rfl | rfl
  · have h : ∀ j : Fin 14, (1 : Int) ≤ 2 ^ j.val ∧ (2 : Int) ^ j.val ≤ 10000000000000 := by decide
    exact h ⟨j, by omega⟩
  · have h : ∀ j : Fin 14, (1 : Int) ≤ 10 ^ j.val ∧ (10 : Int) ^ j.val ≤ 10000000000000 := by decide
    exact h ⟨j, by omega⟩
set_option maxHeartbeats 400000 in
theorem spec_l01Part (f : Fld) (hf : fldB f = true) (b o : Nat) (w : World) (hF : FldAt w b o f) :
    Calls Tryz.prog 22 #[.pointer (some ⟨b, o, none⟩)] w fun e w' => e = .returned (.agg #[.int .u64 (lo (partF f)), .int .u64 (hi (partF f))]) ∧ Ext w w' := by
  have hx := @ExtOf.cell
  obtain ⟨_, k0, k3, s0, z0, z1, z2⟩ := fldB_parts hf
  have hz : f.sz ≤ 24 := by unfold mostSz at z1; split at z1 <;> (first | omega | (split at z1 <;> omega))
  have hmb := manyF_bd f.kd f.sz z0 (by omega)
  have hwid := fun (W : World) (h : FldAt W b o f) => spec_l01Width b o f (by omega) (by omega) W h
  have hv := hd (show partF f = rangeM f.st (manyF f.kd f.sz) from rfl)
  have hlt : b < w.heap.size := World.block_lt_of_cell? w _ hF.1
  generalize manyF f.kd f.sz = mv at hwid hv hmb z2
  rw [hv.out]
  clear hv
  unfold rangeM
  have wst : IntKind.i64.wrap f.st = f.st := IntWalk.i64_in _ (by omega)
  have nb : ¬ b = w.heap.size + 1 := by omega
  have nb2 : ¬ b = w.heap.size := by omega
  go_enter Tryz.func22, Tryz.ntmps22
  go_wp2
  go_loopg [4] mv.toNat (fun g i wr => ∃ k : Nat, g = mv.toNat - k ∧ k ≤ mv.toNat ∧ i = .int .i64 k ∧ Ext w wr ∧ BoxAt wr (w.heap.size + 1) #[.int .u64 (lo (orTo (fun k => mbit (f.st + k)) k)), .int .u64 (hi (orTo (fun k => mbit (f.st + k)) k))] 49 ∧ BoxAt wr w.heap.size #[.int .u64 0, .int .u64 0] 49)
  case atStart => exact ⟨0, by omega, by omega, rfl, by ((repeat (first | with_reducible exact Ext.refl _ | with_reducible exact hw | with_reducible exact hb9 | with_reducible exact hb8 | with_reducible exact hb7 | with_reducible exact hb6 | with_reducible exact hb5 | with_reducible exact hb4 | with_reducible exact hb3 | with_reducible exact hb2 | with_reducible exact hb1 | with_reducible refine Ext.alloc ?_ _ | with_reducible refine Ext.drew ?_ | ((with_reducible refine Ext.set ?_ ?_ _); focus (dsimp only; omega)) | with_reducible refine Ext.trans ?_ hb9 | with_reducible refine Ext.trans ?_ hb8 | with_reducible refine Ext.trans ?_ hb7 | with_reducible refine Ext.trans ?_ hb6 | with_reducible refine Ext.trans ?_ hb5 | with_reducible refine Ext.trans ?_ hb4 | with_reducible refine Ext.trans ?_ hb3 | with_reducible refine Ext.trans ?_ hb2 | with_reducible refine Ext.trans ?_ hb1 | with_reducible refine Ext.trans ?_ hw))), by rw [show orTo (fun k => mbit (f.st + k)) 0 = 0 from rfl, lo_zero, hi_zero]; exact BoxAt.new' (by simp), (BoxAt.new' rfl).alloc _⟩
  case round =>
    obtain ⟨k, hg, hk, rfl, hw, hB, hC⟩ := hrel
    go_wp2_with fail
    refine Calls.mono (hwid _ (hF.ext hw)) ?_
    rintro e w1 ⟨rfl, hb1⟩
    have hB := hB.ext hb1
    have hC := hC.ext hb1
    have hw := hw.trans hb1
    clear hb1
    obtain ⟨d0, d1, d2, d3⟩ := hF.ext hw
    have c0 := hB.cell 0
    have c1 := hB.cell 1
    have f0 := hB.frozen 0
    have f1 := hB.frozen 1
    have l2 := hB.lt
    have lb : b < w1.heap.size := by omega
    by_cases hkl : k < mv.toNat
    · have hks : (k : Int) < mv := by omega
      have wr1 : IntKind.i64.wrap (f.st + k) = f.st + k := IntWalk.i64_in _ (by omega)
      go_wp2
      refine wp_region_ext_tail 10 10 (by kernel_rfl) (by kernel_rfl) (by intro d _ _ _ _ h; cases d <;> exact h) ?_
      simp only [List.take_succ_cons, List.take_zero, List.drop_succ_cons, List.drop_zero]
      repeat (first | go_big_quiet_step ((first | (go_at_call 38; with_reducible exact Calls.ext_of (spec_l01Bit (f.st + k) (by omega) (by omega) _)) | (go_at_call 24; with_reducible exact Calls.ext_of (spec_l01Join _ _ _)))) | quiet_step ((first | (go_at_call 38; with_reducible exact Calls.ext_of (spec_l01Bit (f.st + k) (by omega) (by omega) _)) | (go_at_call 24; with_reducible exact Calls.ext_of (spec_l01Join _ _ _)))))
      refine wpQuiet_nil ?_
      intro w2 hq2
      have hb2 := ext_of_class hq2
      clear hq2
      obtain ⟨hc2, hf2, hz2⟩ := bcell3 hb2
      try simp at hz2
      have hB2 := hB.ext hb2
      have g0 := hB2.frozen 0
      have g1 := hB2.frozen 1
      have y0 := hB2.cell 0
      have y1 := hB2.cell 1
      have l3 := hB2.lt
      go_wp2
      go_roundg (mv.toNat - (k + 1))
      case rel => exact ⟨k + 1, rfl, hkl, by simp, by ((repeat (first | with_reducible exact Ext.refl _ | with_reducible exact hw | with_reducible exact hb9 | with_reducible exact hb8 | with_reducible exact hb7 | with_reducible exact hb6 | with_reducible exact hb5 | with_reducible exact hb4 | with_reducible exact hb3 | with_reducible exact hb2 | with_reducible exact hb1 | with_reducible refine Ext.alloc ?_ _ | with_reducible refine Ext.drew ?_ | ((with_reducible refine Ext.set ?_ ?_ _); focus (dsimp only; omega)) | with_reducible refine Ext.trans ?_ hb9 | with_reducible refine Ext.trans ?_ hb8 | with_reducible refine Ext.trans ?_ hb7 | with_reducible refine Ext.trans ?_ hb6 | with_reducible refine Ext.trans ?_ hb5 | with_reducible refine Ext.trans ?_ hb4 | with_reducible refine Ext.trans ?_ hb3 | with_reducible refine Ext.trans ?_ hb2 | with_reducible refine Ext.trans ?_ hb1 | with_reducible refine Ext.trans ?_ hw))), by rw [orTo_succ]; exact (hB2.set 0 _).set 1 _, ((hC.ext hb2).setOther (by first | omega | (simp; done) | (simp; omega) | (dsimp only; omega)) _).setOther (by first | omega | (simp; done) | (simp; omega) | (dsimp only; omega)) _⟩
      case measure => omega
    · obtain rfl : k = mv.toNat := by omega
      have hks : ((mv.toNat : Nat) : Int) = mv := by omega
      have g0 := hC.frozen 0
      have g1 := hC.frozen 1
      have x0 : w1.cell? ⟨w.heap.size, 0, none⟩ = some (.int .u64 0) := hC.cell 0
      have x1 : w1.cell? ⟨w.heap.size, 1, none⟩ = some (.int .u64 0) := hC.cell 1
      go_wp2
      refine bodyPost_ret (v := .agg #[.int .u64 (lo (orTo (fun k => mbit (f.st + k)) mv.toNat)), .int .u64 (hi (orTo (fun k => mbit (f.st + k)) mv.toNat))]) (by simp [results, Tryz.results22, go_sem, x0, x1]) rfl ⟨rfl, ?_⟩
      (repeat (first | with_reducible exact Ext.refl _ | with_reducible exact hw | with_reducible exact hb9 | with_reducible exact hb8 | with_reducible exact hb7 | with_reducible exact hb6 | with_reducible exact hb5 | with_reducible exact hb4 | with_reducible exact hb3 | with_reducible exact hb2 | with_reducible exact hb1 | with_reducible refine Ext.alloc ?_ _ | with_reducible refine Ext.drew ?_ | ((with_reducible refine Ext.set ?_ ?_ _); focus (dsimp only; omega)) | with_reducible refine Ext.trans ?_ hb9 | with_reducible refine Ext.trans ?_ hb8 | with_reducible refine Ext.trans ?_ hb7 | with_reducible refine Ext.trans ?_ hb6 | with_reducible refine Ext.trans ?_ hb5 | with_reducible refine Ext.trans ?_ hb4 | with_reducible refine Ext.trans ?_ hb3 | with_reducible refine Ext.trans ?_ hb2 | with_reducible refine Ext.trans ?_ hb1 | with_reducible refine Ext.trans ?_ hw))
end Go.Proofs.YtdiblmlcapommaaGreatDoor
set_option linter.unusedVariables false
set_option linter.unusedSimpArgs false
set_option maxRecDepth 100000
namespace Go.Proofs.YtdiblmlcapommaaGreatDoor
open Go.RowKit
end Go.Proofs.YtdiblmlcapommaaGreatDoor
set_option linter.unusedVariables false
set_option linter.unusedSimpArgs false
set_option maxRecDepth 100000
namespace Go.Proofs.YtdiblmlcapommaaGreatDoor
open Go.RowKit
theorem mostF_pow {f : Fld} (hf : fldB f = true) : mostF f ≤ 99999 := by have := (mostF_le f hf).2; omega
end Go.Proofs.YtdiblmlcapommaaGreatDoor
