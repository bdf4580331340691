/-
  TDX: the texts F9 F10 F11 F12 F19 F20 K0 K1 MA F23 EQ FW0 TD0 FC2 F17 F13 F14 F15 K2 TD1 S1 in one (written by merge.py).
-/
import Derived.Test.YtegopgpnjgikeaaDoorF6
import Derived.Test.YtegopgpnjgikeaaDoorC3
import Derived.Test.YtegopgpnjgikeaaDoorF6D
import Derived.Test.YtegopgpnjgikeaaDoorF7
import Derived.Test.YtegopgpnjgikeaaDoorL1
import Derived.Test.YtegopgpnjgikeaaDoorF18
import Derived.Test.YtegopgpnjgikeaaDoorC8
import Derived.Test.YtegopgpnjgikeaaDoorMI
import Derived.Test.YtegopgpnjgikeaaDoorN1
import Derived.Test.YtegopgpnjgikeaaDoorL5
import Derived.Test.YtegopgpnjgikeaaDoorC1
import Derived.Test.YtegopgpnjgikeaaDoorFDX
import Derived.Test.YtegopgpnjgikeaaDoorF8
import Derived.Test.YtegopgpnjgikeaaDoorF4
import Derived.Test.YtegopgpnjgikeaaDoorS0
import Derived.Test.YtegopgpnjgikeaaDoorVM
set_option linter.unusedVariables false
set_option linter.unusedSimpArgs false
set_option maxRecDepth 100000
namespace Go.Proofs.YtegopgpnjgikeaaDoor
open Go.RowKit
theorem powB {b : Int} (hb : b = 2 ∨ b = 10) (j : Nat) (hj : j ≤ 13) : 1 ≤ b ^ j ∧ b ^ j ≤ 10000000000000 := by
  rcases hb with rfl | rfl
  · have h : ∀ j : Fin 14, (1 : Int) ≤ 2 ^ j.val ∧ (2 : Int) ^ j.val ≤ 10000000000000 := by decide
    exact h ⟨j, by omega⟩
  · have h : ∀ j : Fin 14, (1 : Int) ≤ 10 ^ j.val ∧ (10 : Int) ^ j.val ≤ 10000000000000 := by decide
    exact h ⟨j, by omega⟩
set_option maxHeartbeats 400000 in
theorem spec_l01Power (b n : Int) (hb : b = 2 ∨ b = 10) (n0 : 0 ≤ n) (n1 : n ≤ 12) (w : World) :
    Calls Tryd.prog 112 #[.int .i64 b, .int .i64 n] w fun e w' => e = .returned (.int .i64 (b ^ n.toNat)) ∧ Ext w w' := by
  go_enter Tryd.func112, Tryd.ntmps112
  go_wp2
  go_loopg [5, 6] n.toNat (fun g o i wr => ∃ (k : Nat) (p : Int), g = n.toNat - k ∧ k ≤ n.toNat ∧ i = .int .i64 k ∧ o = .int .i64 p ∧ Hd (p = b ^ k) ∧ Ext w wr)
  case atStart => exact ⟨0, 1, by omega, by omega, rfl, rfl, hd (by rw [Int.pow_zero]), by ((repeat (first | with_reducible exact Ext.refl _ | with_reducible exact hw | with_reducible exact hb9 | with_reducible exact hb8 | with_reducible exact hb7 | with_reducible exact hb6 | with_reducible exact hb5 | with_reducible exact hb4 | with_reducible exact hb3 | with_reducible exact hb2 | with_reducible exact hb1 | with_reducible refine Ext.alloc ?_ _ | with_reducible refine Ext.drew ?_ | ((with_reducible refine Ext.set ?_ ?_ _); focus (dsimp only; omega)) | with_reducible refine Ext.trans ?_ hb9 | with_reducible refine Ext.trans ?_ hb8 | with_reducible refine Ext.trans ?_ hb7 | with_reducible refine Ext.trans ?_ hb6 | with_reducible refine Ext.trans ?_ hb5 | with_reducible refine Ext.trans ?_ hb4 | with_reducible refine Ext.trans ?_ hb3 | with_reducible refine Ext.trans ?_ hb2 | with_reducible refine Ext.trans ?_ hb1 | with_reducible refine Ext.trans ?_ hw)))⟩
  case round =>
    obtain ⟨k, p, hg, hk, rfl, rfl, hp, hw⟩ := hrel
    by_cases hkl : k < n.toNat
    · have hks : (k : Int) < n := by omega
      have hn := hd (show p * b = b ^ (k + 1) by rw [hp.out, Int.pow_succ])
      have hB := powB hb (k + 1) (by omega)
      rw [← hn.out] at hB
      have wr1 : IntKind.i64.wrap (p * b) = p * b := IntWalk.i64_in _ (by omega)
      clear hB hp
      go_wp2
      go_roundg (n.toNat - (k + 1))
      case rel => exact ⟨k + 1, p * b, rfl, hkl, by simp, rfl, hn, hw⟩
      case measure => omega
    · obtain rfl : k = n.toNat := by omega
      have hks : ((n.toNat : Nat) : Int) = n := by omega
      go_wp2
      go_ret
      refine ⟨?_, hw⟩
      have := hp.out
      subst this
      rfl
set_option maxHeartbeats 400000 in
theorem spec_l01Part (f : Fld) (hf : fldB f = true) (b o : Nat) (w : World) (hF : FldAt w b o f) :
    Calls Tryd.prog 77 #[.pointer (some ⟨b, o, none⟩)] w fun e w' => e = .returned (.agg #[.int .u64 (lo (partF f)), .int .u64 (hi (partF f))]) ∧ Ext w w' := by
  have hx := @ExtOf.cell
  obtain ⟨_, k0, k3, s0, z0, z1, z2⟩ := fldB_parts hf
  have hz : f.sz ≤ 24 := by unfold mostSz at z1; split at z1 <;> (first | omega | (split at z1 <;> omega))
  have hmb := manyF_bd f.kd f.sz z0 (by omega)
  have hwid := fun (W : World) (h : FldAt W b o f) => spec_l01Width b o f (by omega) (by omega) W h
  have hv := hd (show partF f = rangeM f.st (manyF f.kd f.sz) from rfl)
  have hlt : b < w.heap.size := World.block_lt_of_cell? w _ hF.1
  generalize manyF f.kd f.sz = mv at hwid hv hmb z2
  rw [hv.out]
  clear hv
  unfold rangeM
  have wst : IntKind.i64.wrap f.st = f.st := IntWalk.i64_in _ (by omega)
  have nb : ¬ b = w.heap.size + 1 := by omega
  have nb2 : ¬ b = w.heap.size := by omega
  go_enter Tryd.func77, Tryd.ntmps77
  go_wp2
  go_loopg [4] mv.toNat (fun g i wr => ∃ k : Nat, g = mv.toNat - k ∧ k ≤ mv.toNat ∧ i = .int .i64 k ∧ Ext w wr ∧ BoxAt wr (w.heap.size + 1) #[.int .u64 (lo (orTo (fun k => mbit (f.st + k)) k)), .int .u64 (hi (orTo (fun k => mbit (f.st + k)) k))] 33 ∧ BoxAt wr w.heap.size #[.int .u64 0, .int .u64 0] 33)
  case atStart => exact ⟨0, by omega, by omega, rfl, by ((repeat (first | with_reducible exact Ext.refl _ | with_reducible exact hw | with_reducible exact hb9 | with_reducible exact hb8 | with_reducible exact hb7 | with_reducible exact hb6 | with_reducible exact hb5 | with_reducible exact hb4 | with_reducible exact hb3 | with_reducible exact hb2 | with_reducible exact hb1 | with_reducible refine Ext.alloc ?_ _ | with_reducible refine Ext.drew ?_ | ((with_reducible refine Ext.set ?_ ?_ _); focus (dsimp only; omega)) | with_reducible refine Ext.trans ?_ hb9 | with_reducible refine Ext.trans ?_ hb8 | with_reducible refine Ext.trans ?_ hb7 | with_reducible refine Ext.trans ?_ hb6 | with_reducible refine Ext.trans ?_ hb5 | with_reducible refine Ext.trans ?_ hb4 | with_reducible refine Ext.trans ?_ hb3 | with_reducible refine Ext.trans ?_ hb2 | with_reducible refine Ext.trans ?_ hb1 | with_reducible refine Ext.trans ?_ hw))), by rw [show orTo (fun k => mbit (f.st + k)) 0 = 0 from rfl, lo_zero, hi_zero]; exact BoxAt.new' (by simp), (BoxAt.new' rfl).alloc _⟩
  case round =>
    obtain ⟨k, hg, hk, rfl, hw, hB, hC⟩ := hrel
    go_wp2_with fail
    refine Calls.mono (hwid _ (hF.ext hw)) ?_
    rintro e w1 ⟨rfl, hb1⟩
    have hB := hB.ext hb1
    have hC := hC.ext hb1
    have hw := hw.trans hb1
    clear hb1
    obtain ⟨d0, d1, d2, d3⟩ := hF.ext hw
    have c0 := hB.cell 0
    have c1 := hB.cell 1
    have f0 := hB.frozen 0
    have f1 := hB.frozen 1
    have l2 := hB.lt
    have lb : b < w1.heap.size := by omega
    by_cases hkl : k < mv.toNat
    · have hks : (k : Int) < mv := by omega
      have wr1 : IntKind.i64.wrap (f.st + k) = f.st + k := IntWalk.i64_in _ (by omega)
      go_wp2
      refine wp_region_ext_tail 10 10 (by kernel_rfl) (by kernel_rfl) (by intro d _ _ _ _ h; cases d <;> exact h) ?_
      simp only [List.take_succ_cons, List.take_zero, List.drop_succ_cons, List.drop_zero]
      repeat (first | go_big_quiet_step ((first | (go_at_call 106; with_reducible exact Calls.ext_of (spec_l01Bit (f.st + k) (by omega) (by omega) _)) | (go_at_call 61; with_reducible exact Calls.ext_of (spec_l01Join _ _ _)))) | quiet_step ((first | (go_at_call 106; with_reducible exact Calls.ext_of (spec_l01Bit (f.st + k) (by omega) (by omega) _)) | (go_at_call 61; with_reducible exact Calls.ext_of (spec_l01Join _ _ _)))))
      refine wpQuiet_nil ?_
      intro w2 hq2
      have hb2 := ext_of_class hq2
      clear hq2
      obtain ⟨hc2, hf2, hz2⟩ := bcell3 hb2
      try simp at hz2
      have hB2 := hB.ext hb2
      have g0 := hB2.frozen 0
      have g1 := hB2.frozen 1
      have y0 := hB2.cell 0
      have y1 := hB2.cell 1
      have l3 := hB2.lt
      go_wp2
      go_roundg (mv.toNat - (k + 1))
      case rel => exact ⟨k + 1, rfl, hkl, by simp, by ((repeat (first | with_reducible exact Ext.refl _ | with_reducible exact hw | with_reducible exact hb9 | with_reducible exact hb8 | with_reducible exact hb7 | with_reducible exact hb6 | with_reducible exact hb5 | with_reducible exact hb4 | with_reducible exact hb3 | with_reducible exact hb2 | with_reducible exact hb1 | with_reducible refine Ext.alloc ?_ _ | with_reducible refine Ext.drew ?_ | ((with_reducible refine Ext.set ?_ ?_ _); focus (dsimp only; omega)) | with_reducible refine Ext.trans ?_ hb9 | with_reducible refine Ext.trans ?_ hb8 | with_reducible refine Ext.trans ?_ hb7 | with_reducible refine Ext.trans ?_ hb6 | with_reducible refine Ext.trans ?_ hb5 | with_reducible refine Ext.trans ?_ hb4 | with_reducible refine Ext.trans ?_ hb3 | with_reducible refine Ext.trans ?_ hb2 | with_reducible refine Ext.trans ?_ hb1 | with_reducible refine Ext.trans ?_ hw))), by rw [orTo_succ]; exact (hB2.set 0 _).set 1 _, ((hC.ext hb2).setOther (by first | omega | (simp; done) | (simp; omega) | (dsimp only; omega)) _).setOther (by first | omega | (simp; done) | (simp; omega) | (dsimp only; omega)) _⟩
      case measure => omega
    · obtain rfl : k = mv.toNat := by omega
      have hks : ((mv.toNat : Nat) : Int) = mv := by omega
      have g0 := hC.frozen 0
      have g1 := hC.frozen 1
      have x0 : w1.cell? ⟨w.heap.size, 0, none⟩ = some (.int .u64 0) := hC.cell 0
      have x1 : w1.cell? ⟨w.heap.size, 1, none⟩ = some (.int .u64 0) := hC.cell 1
      go_wp2
      refine bodyPost_ret (v := .agg #[.int .u64 (lo (orTo (fun k => mbit (f.st + k)) mv.toNat)), .int .u64 (hi (orTo (fun k => mbit (f.st + k)) mv.toNat))]) (by simp [results, Tryd.results77, go_sem, x0, x1]) rfl ⟨rfl, ?_⟩
      (repeat (first | with_reducible exact Ext.refl _ | with_reducible exact hw | with_reducible exact hb9 | with_reducible exact hb8 | with_reducible exact hb7 | with_reducible exact hb6 | with_reducible exact hb5 | with_reducible exact hb4 | with_reducible exact hb3 | with_reducible exact hb2 | with_reducible exact hb1 | with_reducible refine Ext.alloc ?_ _ | with_reducible refine Ext.drew ?_ | ((with_reducible refine Ext.set ?_ ?_ _); focus (dsimp only; omega)) | with_reducible refine Ext.trans ?_ hb9 | with_reducible refine Ext.trans ?_ hb8 | with_reducible refine Ext.trans ?_ hb7 | with_reducible refine Ext.trans ?_ hb6 | with_reducible refine Ext.trans ?_ hb5 | with_reducible refine Ext.trans ?_ hb4 | with_reducible refine Ext.trans ?_ hb3 | with_reducible refine Ext.trans ?_ hb2 | with_reducible refine Ext.trans ?_ hb1 | with_reducible refine Ext.trans ?_ hw))
end Go.Proofs.YtegopgpnjgikeaaDoor
set_option linter.unusedVariables false
set_option linter.unusedSimpArgs false
set_option maxRecDepth 100000
namespace Go.Proofs.YtegopgpnjgikeaaDoor
open Go.RowKit
set_option maxHeartbeats 1000000 in
theorem spec_l01Notch (m : Mask) (st holes b : Int) (s0 : 0 ≤ st) (h0 : 0 ≤ holes) (h12 : holes ≤ 12) (hb : st + holes ≤ 128) (b0 : 0 ≤ b) (b1 : b ≤ 99999) (w : World) :
    Calls Tryd.prog 113 #[.agg #[.int .u64 (lo m), .int .u64 (hi m)], .int .i64 st, .int .i64 holes, .int .i64 b] w fun e w' => e = .returned (.agg #[.int .u64 (lo (notchTo m st holes b holes.toNat)), .int .u64 (hi (notchTo m st holes b holes.toNat))]) ∧ Ext w w' := by
  have hx := @ExtOf.cell
  go_enter Tryd.func113, Tryd.ntmps113
  go_wp2
  go_loopg [9] holes.toNat (fun g i wr => ∃ k : Nat, g = holes.toNat - k ∧ k ≤ holes.toNat ∧ i = .int .i64 k ∧ Ext w wr ∧ BoxAt wr w.heap.size #[.int .u64 (lo (notchTo m st holes b k)), .int .u64 (hi (notchTo m st holes b k))] 33 ∧ BoxAt wr (w.heap.size + 1) #[.int .u64 0, .int .u64 0] 33)
  case atStart => exact ⟨0, by omega, by omega, rfl, by ((repeat (first | with_reducible exact Ext.refl _ | with_reducible exact hw | with_reducible exact hb9 | with_reducible exact hb8 | with_reducible exact hb7 | with_reducible exact hb6 | with_reducible exact hb5 | with_reducible exact hb4 | with_reducible exact hb3 | with_reducible exact hb2 | with_reducible exact hb1 | with_reducible refine Ext.alloc ?_ _ | with_reducible refine Ext.drew ?_ | ((with_reducible refine Ext.set ?_ ?_ _); focus (dsimp only; omega)) | with_reducible refine Ext.trans ?_ hb9 | with_reducible refine Ext.trans ?_ hb8 | with_reducible refine Ext.trans ?_ hb7 | with_reducible refine Ext.trans ?_ hb6 | with_reducible refine Ext.trans ?_ hb5 | with_reducible refine Ext.trans ?_ hb4 | with_reducible refine Ext.trans ?_ hb3 | with_reducible refine Ext.trans ?_ hb2 | with_reducible refine Ext.trans ?_ hb1 | with_reducible refine Ext.trans ?_ hw))), by rw [notchTo_zero]; exact (BoxAt.new' rfl).alloc _, BoxAt.new' (by simp)⟩
  case round =>
    obtain ⟨k, hg, hk, rfl, hw, hB, hC⟩ := hrel
    by_cases hkl : k < holes.toNat
    · have hks : (k : Int) < holes := by omega
      have wr1 : IntKind.i64.wrap (holes - 1) = holes - 1 := IntWalk.i64_in _ (by omega)
      have wr2 : IntKind.i64.wrap (holes - 1 - k) = holes - 1 - k := IntWalk.i64_in _ (by omega)
      have wr3 : IntKind.i64.wrap (st + k) = st + k := IntWalk.i64_in _ (by omega)
      have hpw := fun W => spec_l01Power 2 (holes - 1 - k) (.inl rfl) (by omega) (by omega) W
      have hP1 := (powB (b := 2) (.inl rfl) (holes - 1 - (k : Int)).toNat (by omega)).1
      have hhit := fun h => hd (notchTo_hit (m := m) (st := st) (holes := holes) (b := b) (k := k) h)
      have hmiss := fun h => hd (notchTo_miss (m := m) (st := st) (holes := holes) (b := b) (k := k) h)
      generalize (2 : Int) ^ (holes - 1 - (k : Int)).toNat = P at hpw hP1 hhit hmiss
      have wq : IntKind.i64.wrap (b.tdiv P) = b / P := IntWalk.i64_quo _ _ (by omega)
      have hq0 : 0 ≤ b / P := (IntWalk.tdiv_le b P b0 hP1).1
      have wm : (b / P).tmod 2 = b / P % 2 := IntWalk.rem_in _ _ hq0
      have hP0 : (P == 0) = false := by simp; omega
      go_wp2_with fail
      refine Calls.mono (hpw _) ?_
      rintro e w1 ⟨rfl, hb1⟩
      have hB := hB.ext hb1
      have hC := hC.ext hb1
      have hw := hw.trans hb1
      clear hb1
      have c0 := hB.cell 0
      have c1 := hB.cell 1
      have f0 := hB.frozen 0
      have f1 := hB.frozen 1
      have l2 := hB.lt
      by_cases hq : b / P % 2 = 1
      · have hs := hhit hq
        clear hhit hmiss
        go_wp2
        refine wp_region_ext_tail 6 6 (by kernel_rfl) (by kernel_rfl) (by intro d _ _ _ _ h; cases d <;> exact h) ?_
        simp only [List.take_succ_cons, List.take_zero, List.drop_succ_cons, List.drop_zero]
        repeat (first | go_big_quiet_step ((first | (go_at_call 106; with_reducible exact Calls.ext_of (spec_l01Bit (st + k) (by omega) (by omega) _)) | (go_at_call 61; with_reducible exact Calls.ext_of (spec_l01Join _ _ _)))) | quiet_step ((first | (go_at_call 106; with_reducible exact Calls.ext_of (spec_l01Bit (st + k) (by omega) (by omega) _)) | (go_at_call 61; with_reducible exact Calls.ext_of (spec_l01Join _ _ _)))))
        refine wpQuiet_nil ?_
        intro w2 hq2
        have hb2 := ext_of_class hq2
        clear hq2
        obtain ⟨hc2, hf2, hz2⟩ := bcell3 hb2
        try simp at hz2
        have hB2 := hB.ext hb2
        have g0 := hB2.frozen 0
        have g1 := hB2.frozen 1
        have y0 := hB2.cell 0
        have y1 := hB2.cell 1
        have l3 := hB2.lt
        go_wp2
        go_roundg (holes.toNat - (k + 1))
        case rel => exact ⟨k + 1, rfl, hkl, by simp, by ((repeat (first | with_reducible exact Ext.refl _ | with_reducible exact hw | with_reducible exact hb9 | with_reducible exact hb8 | with_reducible exact hb7 | with_reducible exact hb6 | with_reducible exact hb5 | with_reducible exact hb4 | with_reducible exact hb3 | with_reducible exact hb2 | with_reducible exact hb1 | with_reducible refine Ext.alloc ?_ _ | with_reducible refine Ext.drew ?_ | ((with_reducible refine Ext.set ?_ ?_ _); focus (dsimp only; omega)) | with_reducible refine Ext.trans ?_ hb9 | with_reducible refine Ext.trans ?_ hb8 | with_reducible refine Ext.trans ?_ hb7 | with_reducible refine Ext.trans ?_ hb6 | with_reducible refine Ext.trans ?_ hb5 | with_reducible refine Ext.trans ?_ hb4 | with_reducible refine Ext.trans ?_ hb3 | with_reducible refine Ext.trans ?_ hb2 | with_reducible refine Ext.trans ?_ hb1 | with_reducible refine Ext.trans ?_ hw))), by rw [hs.out]; exact (hB2.set 0 _).set 1 _, ((hC.ext hb2).setOther (by first | omega | (simp; done) | (simp; omega) | (dsimp only; omega)) _).setOther (by first | omega | (simp; done) | (simp; omega) | (dsimp only; omega)) _⟩
        case measure => omega
      · have hs := hmiss hq
        have hq2 : (b / P % 2 == 1) = false := by simp [hq]
        clear hhit hmiss
        go_wp2
        go_roundg (holes.toNat - (k + 1))
        case rel => exact ⟨k + 1, rfl, hkl, by simp, hw, by rw [hs.out]; exact hB, hC⟩
        case measure => omega
    · obtain rfl : k = holes.toNat := by omega
      have hks : ((holes.toNat : Nat) : Int) = holes := by omega
      have c0 := hB.cell 0
      have c1 := hB.cell 1
      have l2 := hB.lt
      have l3 := hC.lt
      have g0 := hC.frozen 0
      have g1 := hC.frozen 1
      have x0 : wr.cell? ⟨w.heap.size + 1, 0, none⟩ = some (.int .u64 0) := hC.cell 0
      have x1 : wr.cell? ⟨w.heap.size + 1, 1, none⟩ = some (.int .u64 0) := hC.cell 1
      go_wp2
      refine bodyPost_ret (v := .agg #[.int .u64 (lo (notchTo m st holes b holes.toNat)), .int .u64 (hi (notchTo m st holes b holes.toNat))]) (by simp [results, Tryd.results113, go_sem, x0, x1]) rfl ⟨rfl, ?_⟩
      (repeat (first | with_reducible exact Ext.refl _ | with_reducible exact hw | with_reducible exact hb9 | with_reducible exact hb8 | with_reducible exact hb7 | with_reducible exact hb6 | with_reducible exact hb5 | with_reducible exact hb4 | with_reducible exact hb3 | with_reducible exact hb2 | with_reducible exact hb1 | with_reducible refine Ext.alloc ?_ _ | with_reducible refine Ext.drew ?_ | ((with_reducible refine Ext.set ?_ ?_ _); focus (dsimp only; omega)) | with_reducible refine Ext.trans ?_ hb9 | with_reducible refine Ext.trans ?_ hb8 | with_reducible refine Ext.trans ?_ hb7 | with_reducible refine Ext.trans ?_ hb6 | with_reducible refine Ext.trans ?_ hb5 | with_reducible refine Ext.trans ?_ hb4 | with_reducible refine Ext.trans ?_ hb3 | with_reducible refine Ext.trans ?_ hb2 | with_reducible refine Ext.trans ?_ hb1 | with_reducible refine Ext.trans ?_ hw))
def sumsL : List Int := [12, 1, 2, 3, 4, 5, 6, 8, 9, 10]
def pairsL : List Int := [24, 20, 18, 17, 12, 10, 9, 6, 5, 3]
theorem sums_at : ∀ d : Fin 10, sumsL[d.val]'(d.isLt) = digN 1 d.val := by decide
theorem pairs_at : ∀ d : Fin 10, pairsL[d.val]'(d.isLt) = digN 2 d.val := by decide
theorem digN_bd (kd : Int) : ∀ d : Fin 10, 0 ≤ digN 1 d.val ∧ digN 1 d.val ≤ 99 ∧ 0 ≤ digN 2 d.val ∧ digN 2 d.val ≤ 99 := by decide
set_option maxHeartbeats 400000 in
theorem spec_l01Sums (w : World) :
    Calls Tryd.prog 114 #[] w fun e w' => ∃ b cap, e = .returned (.slice (some ⟨b, 0, none⟩) 10 cap) ∧ Rd encI64 w' (some ⟨b, 0, none⟩) sumsL ∧ w.heap.size ≤ b ∧ Ext w w' := by
  go_enter Tryd.func114, Tryd.ntmps114
  go_wp2
  go_ret
  exact ⟨_, _, rfl, Rd.lit encI64 _ sumsL _ _ (by decide) rfl, Nat.le_refl _, by ((repeat (first | with_reducible exact Ext.refl _ | with_reducible exact hw | with_reducible exact hb9 | with_reducible exact hb8 | with_reducible exact hb7 | with_reducible exact hb6 | with_reducible exact hb5 | with_reducible exact hb4 | with_reducible exact hb3 | with_reducible exact hb2 | with_reducible exact hb1 | with_reducible refine Ext.alloc ?_ _ | with_reducible refine Ext.drew ?_ | ((with_reducible refine Ext.set ?_ ?_ _); focus (dsimp only; omega)) | with_reducible refine Ext.trans ?_ hb9 | with_reducible refine Ext.trans ?_ hb8 | with_reducible refine Ext.trans ?_ hb7 | with_reducible refine Ext.trans ?_ hb6 | with_reducible refine Ext.trans ?_ hb5 | with_reducible refine Ext.trans ?_ hb4 | with_reducible refine Ext.trans ?_ hb3 | with_reducible refine Ext.trans ?_ hb2 | with_reducible refine Ext.trans ?_ hb1 | with_reducible refine Ext.trans ?_ hw)))⟩
set_option maxHeartbeats 400000 in
theorem spec_l01Pairs (w : World) :
    Calls Tryd.prog 115 #[] w fun e w' => ∃ b cap, e = .returned (.slice (some ⟨b, 0, none⟩) 10 cap) ∧ Rd encI64 w' (some ⟨b, 0, none⟩) pairsL ∧ w.heap.size ≤ b ∧ Ext w w' := by
  go_enter Tryd.func115, Tryd.ntmps115
  go_wp2
  go_ret
  exact ⟨_, _, rfl, Rd.lit encI64 _ pairsL _ _ (by decide) rfl, Nat.le_refl _, by ((repeat (first | with_reducible exact Ext.refl _ | with_reducible exact hw | with_reducible exact hb9 | with_reducible exact hb8 | with_reducible exact hb7 | with_reducible exact hb6 | with_reducible exact hb5 | with_reducible exact hb4 | with_reducible exact hb3 | with_reducible exact hb2 | with_reducible exact hb1 | with_reducible refine Ext.alloc ?_ _ | with_reducible refine Ext.drew ?_ | ((with_reducible refine Ext.set ?_ ?_ _); focus (dsimp only; omega)) | with_reducible refine Ext.trans ?_ hb9 | with_reducible refine Ext.trans ?_ hb8 | with_reducible refine Ext.trans ?_ hb7 | with_reducible refine Ext.trans ?_ hb6 | with_reducible refine Ext.trans ?_ hb5 | with_reducible refine Ext.trans ?_ hb4 | with_reducible refine Ext.trans ?_ hb3 | with_reducible refine Ext.trans ?_ hb2 | with_reducible refine Ext.trans ?_ hb1 | with_reducible refine Ext.trans ?_ hw)))⟩
set_option maxHeartbeats 1000000 in
theorem spec_l01Most (f : Fld) (hf : fldB f = true) (b o : Nat) (w : World) (hF : FldAt w b o f) :
    Calls Tryd.prog 72 #[.pointer (some ⟨b, o, none⟩)] w fun e w' => e = .returned (.int .i64 (mostF f)) ∧ Ext w w' := by
  obtain ⟨_, k0, k3, s0, z0, z1, z2⟩ := fldB_parts hf
  have hz : f.sz ≤ 24 := by unfold mostSz at z1; split at z1 <;> (first | omega | (split at z1 <;> omega))
  have hlt : b < w.heap.size := World.block_lt_of_cell? w _ hF.1
  have wsz : IntKind.i64.wrap f.sz = f.sz := IntWalk.i64_in _ (by omega)
  obtain ⟨d0, d1, d2, d3⟩ := hF
  by_cases h0 : f.kd = 0
  · have hv := hd (show mostF f = f.sz - 1 by unfold mostF; rw [if_pos h0])
    rw [h0] at d1
    have wr1 : IntKind.i64.wrap (f.sz - 1) = f.sz - 1 := IntWalk.i64_in _ (by omega)
    go_enter Tryd.func72, Tryd.ntmps72
    go_wp2
    refine bodyPost_ret (v := .int .i64 (f.sz - 1)) (by simp [results, Tryd.results72, go_sem]) rfl ⟨by rw [hv.out], ?_⟩
    (repeat (first | with_reducible exact Ext.refl _ | with_reducible exact hw | with_reducible exact hb9 | with_reducible exact hb8 | with_reducible exact hb7 | with_reducible exact hb6 | with_reducible exact hb5 | with_reducible exact hb4 | with_reducible exact hb3 | with_reducible exact hb2 | with_reducible exact hb1 | with_reducible refine Ext.alloc ?_ _ | with_reducible refine Ext.drew ?_ | ((with_reducible refine Ext.set ?_ ?_ _); focus (dsimp only; omega)) | with_reducible refine Ext.trans ?_ hb9 | with_reducible refine Ext.trans ?_ hb8 | with_reducible refine Ext.trans ?_ hb7 | with_reducible refine Ext.trans ?_ hb6 | with_reducible refine Ext.trans ?_ hb5 | with_reducible refine Ext.trans ?_ hb4 | with_reducible refine Ext.trans ?_ hb3 | with_reducible refine Ext.trans ?_ hb2 | with_reducible refine Ext.trans ?_ hb1 | with_reducible refine Ext.trans ?_ hw))
  · by_cases h3 : f.kd = 3
    · have hv := hd (show mostF f = 2 ^ f.sz.toNat - 1 by unfold mostF; rw [if_neg h0, if_pos h3])
      rw [h3] at d1 z1
      have h12 : f.sz ≤ 12 := z1
      have hpw := fun W => spec_l01Power 2 f.sz (.inl rfl) (by omega) (by omega) W
      have hP := powB (b := 2) (.inl rfl) f.sz.toNat (by omega)
      generalize (2 : Int) ^ f.sz.toNat = P at hpw hP hv
      have wr1 : IntKind.i64.wrap (P - 1) = P - 1 := IntWalk.i64_in _ (by omega)
      go_enter Tryd.func72, Tryd.ntmps72
      go_wp2_with fail
      refine Calls.mono (hpw _) ?_
      rintro e w1 ⟨rfl, hb1⟩
      go_wp2
      refine bodyPost_ret (v := .int .i64 (P - 1)) (by simp [results, Tryd.results72, go_sem]) rfl ⟨by rw [hv.out], ?_⟩
      (repeat (first | with_reducible exact Ext.refl _ | with_reducible exact hw | with_reducible exact hb9 | with_reducible exact hb8 | with_reducible exact hb7 | with_reducible exact hb6 | with_reducible exact hb5 | with_reducible exact hb4 | with_reducible exact hb3 | with_reducible exact hb2 | with_reducible exact hb1 | with_reducible refine Ext.alloc ?_ _ | with_reducible refine Ext.drew ?_ | ((with_reducible refine Ext.set ?_ ?_ _); focus (dsimp only; omega)) | with_reducible refine Ext.trans ?_ hb9 | with_reducible refine Ext.trans ?_ hb8 | with_reducible refine Ext.trans ?_ hb7 | with_reducible refine Ext.trans ?_ hb6 | with_reducible refine Ext.trans ?_ hb5 | with_reducible refine Ext.trans ?_ hb4 | with_reducible refine Ext.trans ?_ hb3 | with_reducible refine Ext.trans ?_ hb2 | with_reducible refine Ext.trans ?_ hb1 | with_reducible refine Ext.trans ?_ hw))
    · have hv := hd (show mostF f = 10 ^ f.sz.toNat - 1 by unfold mostF; rw [if_neg h0, if_neg h3])
      have h4 : f.sz ≤ 4 := by unfold mostSz at z1; rwa [if_neg h0, if_neg h3] at z1
      have hpw := fun W => spec_l01Power 10 f.sz (.inr rfl) (by omega) (by omega) W
      have hP := powB (b := 10) (.inr rfl) f.sz.toNat (by omega)
      generalize (10 : Int) ^ f.sz.toNat = P at hpw hP hv
      have wr1 : IntKind.i64.wrap (P - 1) = P - 1 := IntWalk.i64_in _ (by omega)
      have q0 : (f.kd == 0) = false := by simp [h0]
      have q3 : (f.kd == 3) = false := by simp [h3]
      go_enter Tryd.func72, Tryd.ntmps72
      go_wp2_with fail
      refine Calls.mono (hpw _) ?_
      rintro e w1 ⟨rfl, hb1⟩
      go_wp2
      refine bodyPost_ret (v := .int .i64 (P - 1)) (by simp [results, Tryd.results72, go_sem]) rfl ⟨by rw [hv.out], ?_⟩
      (repeat (first | with_reducible exact Ext.refl _ | with_reducible exact hw | with_reducible exact hb9 | with_reducible exact hb8 | with_reducible exact hb7 | with_reducible exact hb6 | with_reducible exact hb5 | with_reducible exact hb4 | with_reducible exact hb3 | with_reducible exact hb2 | with_reducible exact hb1 | with_reducible refine Ext.alloc ?_ _ | with_reducible refine Ext.drew ?_ | ((with_reducible refine Ext.set ?_ ?_ _); focus (dsimp only; omega)) | with_reducible refine Ext.trans ?_ hb9 | with_reducible refine Ext.trans ?_ hb8 | with_reducible refine Ext.trans ?_ hb7 | with_reducible refine Ext.trans ?_ hb6 | with_reducible refine Ext.trans ?_ hb5 | with_reducible refine Ext.trans ?_ hb4 | with_reducible refine Ext.trans ?_ hb3 | with_reducible refine Ext.trans ?_ hb2 | with_reducible refine Ext.trans ?_ hb1 | with_reducible refine Ext.trans ?_ hw))
end Go.Proofs.YtegopgpnjgikeaaDoor
set_option linter.unusedVariables false
set_option linter.unusedSimpArgs false
set_option maxRecDepth 100000
namespace Go.Proofs.YtegopgpnjgikeaaDoor
open Go.RowKit
theorem mostF_pow {f : Fld} (hf : fldB f = true) : mostF f ≤ 99999 := by have := (mostF_le f hf).2; omega
set_option maxHeartbeats 2000000 in
theorem spec_l01Code (f : Fld) (hf : fldB f = true) (v : Int) (v0 : 0 ≤ v) (v1 : v ≤ mostF f) (b o : Nat) (w : World) (hF : FldAt w b o f) :
    Calls Tryd.prog 75 #[.pointer (some ⟨b, o, none⟩), .int .i64 v] w fun e w' => e = .returned (.agg #[.int .u64 (lo (codeF f v)), .int .u64 (hi (codeF f v))]) ∧ Ext w w' := by
  have hx := @ExtOf.cell
  have hm9 := (mostF_le _ hf).2
  obtain ⟨_, k0, k3, s0, z0, z1, z2⟩ := fldB_parts hf
  have hz : f.sz ≤ 24 := by unfold mostSz at z1; split at z1 <;> (first | omega | (split at z1 <;> omega))
  have hmb := (manyF_bd f.kd f.sz z0 (by omega)).1
  have hlt : b < w.heap.size := World.block_lt_of_cell? w _ hF.1
  have wst : IntKind.i64.wrap f.st = f.st := IntWalk.i64_in _ (by omega)
  have wsz : IntKind.i64.wrap f.sz = f.sz := IntWalk.i64_in _ (by omega)
  obtain ⟨d0, d1, d2, d3⟩ := hF
  have nb : ¬ b = w.heap.size + 1 := by omega
  have nb2 : ¬ b = w.heap.size := by omega
  obtain ⟨nm, kd, st, sz⟩ := f
  dsimp only at *
  rcases (show kd = 0 ∨ kd = 3 ∨ kd = 1 ∨ kd = 2 by omega) with rfl | rfl | rfl | rfl
  · have hv := hd (show codeF ⟨nm, 0, st, sz⟩ v = mbit (st + v) from rfl)
    have v2 : v ≤ sz - 1 := v1
    rw [manyF0 sz (by decide) (by decide) (by decide)] at z2
    have wr1 : IntKind.i64.wrap (st + v) = st + v := IntWalk.i64_in _ (by omega)
    rw [hv.out]
    clear hv
    go_enter Tryd.func75, Tryd.ntmps75
    go_wp2_with fail
    refine Calls.mono (spec_l01Bit (st + v) (by omega) (by omega) _) ?_
    rintro e w3 ⟨rfl, hb3⟩
    have bC : BoxAt w3 w.heap.size #[.int .u64 0, .int .u64 0] 33 := ((BoxAt.new' rfl).alloc _).ext hb3
    have x0 : w3.cell? ⟨w.heap.size, 0, none⟩ = some (.int .u64 0) := bC.cell 0
    have x1 : w3.cell? ⟨w.heap.size, 1, none⟩ = some (.int .u64 0) := bC.cell 1
    have g0 := bC.frozen 0
    have g1 := bC.frozen 1
    have l3 := bC.lt
    have hw3 : Ext w w3 := by ((repeat (first | with_reducible exact Ext.refl _ | with_reducible exact hw | with_reducible exact hb9 | with_reducible exact hb8 | with_reducible exact hb7 | with_reducible exact hb6 | with_reducible exact hb5 | with_reducible exact hb4 | with_reducible exact hb3 | with_reducible exact hb2 | with_reducible exact hb1 | with_reducible refine Ext.alloc ?_ _ | with_reducible refine Ext.drew ?_ | ((with_reducible refine Ext.set ?_ ?_ _); focus (dsimp only; omega)) | with_reducible refine Ext.trans ?_ hb9 | with_reducible refine Ext.trans ?_ hb8 | with_reducible refine Ext.trans ?_ hb7 | with_reducible refine Ext.trans ?_ hb6 | with_reducible refine Ext.trans ?_ hb5 | with_reducible refine Ext.trans ?_ hb4 | with_reducible refine Ext.trans ?_ hb3 | with_reducible refine Ext.trans ?_ hb2 | with_reducible refine Ext.trans ?_ hb1 | with_reducible refine Ext.trans ?_ hw)))
    clear hb3
    go_wp2
    refine bodyPost_ret (v := .agg #[.int .u64 (lo (mbit (st + v))), .int .u64 (hi (mbit (st + v)))]) (by simp [results, Tryd.results75, go_sem, x0, x1]) rfl ⟨rfl, ?_⟩
    exact (hw3.setCell (by simp) _).setCell (by simp) _
  · have hv := hd (show codeF ⟨nm, 3, st, sz⟩ v = binF st sz v from rfl)
    have h12 : sz ≤ 12 := z1
    rw [manyF3] at z2
    have hm9b : v ≤ 9999 := by omega
    clear v1
    have hp := hd (show binF st sz v = if mcount (notchTo 0 st sz v sz.toNat) % 2 = 0 then mjoin (notchTo 0 st sz v sz.toNat) (mbit (st + sz)) else notchTo 0 st sz v sz.toNat from rfl)
    have hno := fun W => spec_l01Notch 0 st sz v s0 (by omega) h12 (by omega) v0 (by omega) W
    rw [lo_zero, hi_zero] at hno
    rw [hv.out]
    clear hv
    generalize notchTo 0 st sz v sz.toNat = q at hp hno
    have hcn := mcount_ge q
    have hcl := mcount_le q
    have wr1 : IntKind.i64.wrap (st + sz) = st + sz := IntWalk.i64_in _ (by omega)
    go_enter Tryd.func75, Tryd.ntmps75
    go_wp2_with fail
    refine Calls.mono (hno _) ?_
    rintro e w2 ⟨rfl, hb2⟩
    have bC : BoxAt w2 w.heap.size #[.int .u64 0, .int .u64 0] 33 := ((BoxAt.new' rfl).alloc _).ext hb2
    have bB : BoxAt w2 (w.heap.size + 1) #[.int .u64 0, .int .u64 0] 33 := (BoxAt.new' (by simp)).ext hb2
    have c0 := bB.cell 0
    have c1 := bB.cell 1
    have f0 := bB.frozen 0
    have f1 := bB.frozen 1
    have l2 := bB.lt
    have hw2 : Ext w w2 := by ((repeat (first | with_reducible exact Ext.refl _ | with_reducible exact hw | with_reducible exact hb9 | with_reducible exact hb8 | with_reducible exact hb7 | with_reducible exact hb6 | with_reducible exact hb5 | with_reducible exact hb4 | with_reducible exact hb3 | with_reducible exact hb2 | with_reducible exact hb1 | with_reducible refine Ext.alloc ?_ _ | with_reducible refine Ext.drew ?_ | ((with_reducible refine Ext.set ?_ ?_ _); focus (dsimp only; omega)) | with_reducible refine Ext.trans ?_ hb9 | with_reducible refine Ext.trans ?_ hb8 | with_reducible refine Ext.trans ?_ hb7 | with_reducible refine Ext.trans ?_ hb6 | with_reducible refine Ext.trans ?_ hb5 | with_reducible refine Ext.trans ?_ hb4 | with_reducible refine Ext.trans ?_ hb3 | with_reducible refine Ext.trans ?_ hb2 | with_reducible refine Ext.trans ?_ hb1 | with_reducible refine Ext.trans ?_ hw)))
    clear hb2
    go_wp2_with fail
    refine Calls.mono (spec_CountHoles q _) ?_
    rintro e w3 ⟨rfl, hb3⟩
    have bB3 := ((bB.set 0 _).set 1 _ : BoxAt _ (w.heap.size + 1) #[.int .u64 (lo q), .int .u64 (hi q)] 33).ext hb3
    have bC3 := ((bC.setOther (by first | omega | (simp; done) | (simp; omega) | (dsimp only; omega)) _).setOther (by first | omega | (simp; done) | (simp; omega) | (dsimp only; omega)) _ : BoxAt ((w2.setCell ⟨w.heap.size + 1, 0, none⟩ (.int .u64 (lo q))).setCell ⟨w.heap.size + 1, 1, none⟩ (.int .u64 (hi q))) w.heap.size _ _).ext hb3
    have hw : Ext w w3 := Ext.trans (Ext.set (by simp) (Ext.set (by simp) hw2 _) _) hb3
    clear bB bC c0 c1 f0 f1 l2 hw2 hb3
    have e0 := bB3.cell 0
    have e1 := bB3.cell 1
    have f0 := bB3.frozen 0
    have f1 := bB3.frozen 1
    have l3 := bB3.lt
    by_cases hpar : mcount q % 2 = 0
    · have hp2 := hd (hp.out.trans (if_pos hpar))
      clear hp
      generalize mcount q = cn at hpar hcn hcl
      go_wp2
      refine wp_region_ext_tail 6 6 (by kernel_rfl) (by kernel_rfl) (by intro d _ _ _ _ h; cases d <;> exact h) ?_
      simp only [List.take_succ_cons, List.take_zero, List.drop_succ_cons, List.drop_zero]
      repeat (first | go_big_quiet_step ((first | (go_at_call 106; with_reducible exact Calls.ext_of (spec_l01Bit (st + sz) (by omega) (by omega) _)) | (go_at_call 61; with_reducible exact Calls.ext_of (spec_l01Join _ _ _)))) | quiet_step ((first | (go_at_call 106; with_reducible exact Calls.ext_of (spec_l01Bit (st + sz) (by omega) (by omega) _)) | (go_at_call 61; with_reducible exact Calls.ext_of (spec_l01Join _ _ _)))))
      refine wpQuiet_nil ?_
      intro w4 hq4
      have hb4 := ext_of_class hq4
      clear hq4
      obtain ⟨hc4, hf4, hz4⟩ := bcell3 hb4
      try simp at hz4
      have bB4 := bB3.ext hb4
      have bC4 := bC3.ext hb4
      have e2 := bB4.cell 0
      have e3 := bB4.cell 1
      have f2 := bB4.frozen 0
      have f3 := bB4.frozen 1
      have l4 := bB4.lt
      have g0 := bC4.frozen 0
      have g1 := bC4.frozen 1
      have x0 : w4.cell? ⟨w.heap.size, 0, none⟩ = some (.int .u64 0) := bC4.cell 0
      have x1 : w4.cell? ⟨w.heap.size, 1, none⟩ = some (.int .u64 0) := bC4.cell 1
      have hw4 := hw.trans hb4
      clear hb4 hc4 hf4
      go_wp2
      rw [hp2.out]
      refine bodyPost_ret (v := .agg #[.int .u64 (lo (mjoin q (mbit (st + sz)))), .int .u64 (hi (mjoin q (mbit (st + sz))))]) (by simp [results, Tryd.results75, go_sem, x0, x1]) rfl ⟨rfl, ?_⟩
      exact (((hw4.setCell (by simp) _).setCell (by simp) _).setCell (by simp) _).setCell (by simp) _
    · have hp2 := hd (hp.out.trans (if_neg hpar))
      clear hp
      generalize mcount q = cn at hpar hcn hcl
      have g0 := bC3.frozen 0
      have g1 := bC3.frozen 1
      have x0 : w3.cell? ⟨w.heap.size, 0, none⟩ = some (.int .u64 0) := bC3.cell 0
      have x1 : w3.cell? ⟨w.heap.size, 1, none⟩ = some (.int .u64 0) := bC3.cell 1
      go_wp2
      rw [hp2.out]
      refine bodyPost_ret (v := .agg #[.int .u64 (lo q), .int .u64 (hi q)]) (by simp [results, Tryd.results75, go_sem, x0, x1]) rfl ⟨rfl, ?_⟩
      exact (hw.setCell (by simp) _).setCell (by simp) _
  · have hz4 : sz ≤ 4 := z1
    have hm9b : v ≤ 9999 := by omega
    clear v1
    rw [manyF1] at z2
    have hv := hd (show codeF ⟨nm, 1, st, sz⟩ v = orTo (digG 1 st sz v) sz.toNat from rfl)
    rw [hv.out]
    clear hv
    go_enter Tryd.func75, Tryd.ntmps75
    go_wp2_with fail
    refine Calls.mono (spec_l01Sums _) ?_
    rintro e w3 ⟨bS, cap, rfl, hS, hle, hb3⟩
    have bC : BoxAt w3 w.heap.size #[.int .u64 0, .int .u64 0] 33 := ((BoxAt.new' rfl).alloc _).ext hb3
    have bB : BoxAt w3 (w.heap.size + 1) #[.int .u64 0, .int .u64 0] 33 := (BoxAt.new' (by simp)).ext hb3
    have hlS : w.heap.size + 1 < bS := by simp at hle; omega
    have hw3 : Ext w w3 := by ((repeat (first | with_reducible exact Ext.refl _ | with_reducible exact hw | with_reducible exact hb9 | with_reducible exact hb8 | with_reducible exact hb7 | with_reducible exact hb6 | with_reducible exact hb5 | with_reducible exact hb4 | with_reducible exact hb3 | with_reducible exact hb2 | with_reducible exact hb1 | with_reducible refine Ext.alloc ?_ _ | with_reducible refine Ext.drew ?_ | ((with_reducible refine Ext.set ?_ ?_ _); focus (dsimp only; omega)) | with_reducible refine Ext.trans ?_ hb9 | with_reducible refine Ext.trans ?_ hb8 | with_reducible refine Ext.trans ?_ hb7 | with_reducible refine Ext.trans ?_ hb6 | with_reducible refine Ext.trans ?_ hb5 | with_reducible refine Ext.trans ?_ hb4 | with_reducible refine Ext.trans ?_ hb3 | with_reducible refine Ext.trans ?_ hb2 | with_reducible refine Ext.trans ?_ hb1 | with_reducible refine Ext.trans ?_ hw)))
    have y1 := hw3.cell d1
    have lb : b < w3.heap.size := Nat.lt_of_lt_of_le hlt hw3.size
    clear hb3 hle
    go_wp2
    clear y1 lb
    generalize hT : orTo (digG 1 st sz v) sz.toNat = T
    go_loopg [10] sz.toNat (fun g i wr => ∃ (k : Nat), g = sz.toNat - k ∧ k ≤ sz.toNat ∧ i = .int .i64 k ∧ Ext w wr ∧ BoxAt wr (w.heap.size + 1) #[.int .u64 (lo (orTo (digG 1 st sz v) k)), .int .u64 (hi (orTo (digG 1 st sz v) k))] 33 ∧ BoxAt wr w.heap.size #[.int .u64 0, .int .u64 0] 33 ∧ Rd encI64 wr (some ⟨bS, 0, none⟩) sumsL)
    case atStart => exact ⟨0, by omega, by omega, rfl, hw3, by rw [show orTo (digG 1 st sz v) 0 = 0 from rfl, lo_zero, hi_zero]; exact bB, bC, hS⟩
    case round =>
      obtain ⟨k, hg, hk, rfl, hw, hB, hC, hR⟩ := hrel
      clear bB bC hw3 hS
      by_cases hkl : k < sz.toNat
      · have hks : (k : Int) < sz := by omega
        have wr1 : IntKind.i64.wrap (sz - 1) = sz - 1 := IntWalk.i64_in _ (by omega)
        have wr2 : IntKind.i64.wrap (sz - 1 - k) = sz - 1 - k := IntWalk.i64_in _ (by omega)
        have wr3 : IntKind.i64.wrap (4 * k) = 4 * k := IntWalk.i64_in _ (by omega)
        have wr4 : IntKind.i64.wrap (st + 4 * k) = st + 4 * k := IntWalk.i64_in _ (by omega)
        have hpw := fun W => spec_l01Power 10 (sz - 1 - k) (.inr rfl) (by omega) (by omega) W
        have hP1 := (powB (b := 10) (.inr rfl) (sz - 1 - (k : Int)).toNat (by omega)).1
        have hda : digAt sz v k = v / 10 ^ (sz - 1 - (k : Int)).toNat % 10 := rfl
        generalize (10 : Int) ^ (sz - 1 - (k : Int)).toNat = P at hpw hP1 hda
        have wq : IntKind.i64.wrap (v.tdiv P) = v / P := IntWalk.i64_quo _ _ (by omega)
        have hq0 : 0 ≤ v / P := (IntWalk.tdiv_le v P v0 hP1).1
        have hP0 : (P == 0) = false := by simp; omega
        have hdn : ∃ d : Nat, v / P % 10 = (d : Int) ∧ d < 10 := ⟨(v / P % 10).toNat, by omega, by omega⟩
        obtain ⟨d, hd1, hd10⟩ := hdn
        have wm : (v / P).tmod 10 = (d : Int) := (IntWalk.rem_in _ _ hq0).trans hd1
        rw [hd1] at hda
        have hnx := hd (show notchTo (orTo (digG 1 st sz v) k) (st + 4 * k) 4 (digN 1 d) 4 = orTo (digG 1 st sz v) (k + 1) by
          have h := dig_notch 1 (d : Int) (by decide) (by omega) (by omega) (orTo (digG 1 st sz v) k) (st + 4 * k)
          rw [show digW 1 = 4 from rfl, show ((4 : Int)).toNat = 4 from rfl] at h
          rw [h, orTo_succ]
          unfold digG
          rw [hda, show digW 1 = 4 from rfl])
        have hbd := digN_bd 1 ⟨d, hd10⟩
        have htb := sums_at ⟨d, hd10⟩
        dsimp only at hbd htb
        go_wp2_with fail
        refine Calls.mono (hpw _) ?_
        rintro e w1 ⟨rfl, hb1⟩
        have hB := hB.ext hb1
        have hC := hC.ext hb1
        have hR := hR.ext hb1
        have hw := hw.trans hb1
        clear hb1 hda
        have m0 : w1.cell? ⟨bS, d, none⟩ = some (.int .i64 (digN 1 d)) := by have := hR.i64 d hd10; rw [Nat.zero_add] at this; rw [this]; exact congrArg (fun x => some (Value.int .i64 x)) htb
        have lS : bS < w1.heap.size := (hR d hd10).elim (fun _ h => by obtain ⟨_, h1, h2, _⟩ := h; simp only [Option.some.injEq, Addr.mk.injEq, and_true] at h1; obtain ⟨rfl, rfl⟩ := h1; exact h2)
        generalize digN 1 (d : Int) = cd at hnx hbd htb m0
        have hno := fun W => spec_l01Notch (orTo (digG 1 st sz v) k) (st + 4 * k) 4 cd (by omega) (by decide) (by decide) (by omega) (by omega) (by omega) W
        rw [show ((4 : Int)).toNat = 4 from rfl, hnx.out] at hno
        have c0 := hB.cell 0
        have c1 := hB.cell 1
        have f0 := hB.frozen 0
        have f1 := hB.frozen 1
        have l2 := hB.lt
        go_wp2
        refine wp_region_ext_tail 12 12 (by kernel_rfl) (by kernel_rfl) (by intro d _ _ _ _ h; cases d <;> exact h) ?_
        simp only [List.take_succ_cons, List.take_zero, List.drop_succ_cons, List.drop_zero]
        repeat (first | go_big_quiet_step (((go_at_call 113; with_reducible exact Calls.ext_of (hno _)))) | quiet_step (((go_at_call 113; with_reducible exact Calls.ext_of (hno _)))))
        refine wpQuiet_nil ?_
        intro w2 hq2
        have hb2 := ext_of_class hq2
        clear hq2
        obtain ⟨hc2, hf2, hz2⟩ := bcell3 hb2
        try simp at hz2
        have hB2 := hB.ext hb2
        have g0 := hB2.frozen 0
        have g1 := hB2.frozen 1
        have y0 := hB2.cell 0
        have y1 := hB2.cell 1
        have l3 := hB2.lt
        go_wp2
        go_roundg (sz.toNat - (k + 1))
        case rel => exact ⟨k + 1, rfl, hkl, by simp, by ((repeat (first | with_reducible exact Ext.refl _ | with_reducible exact hw | with_reducible exact hb9 | with_reducible exact hb8 | with_reducible exact hb7 | with_reducible exact hb6 | with_reducible exact hb5 | with_reducible exact hb4 | with_reducible exact hb3 | with_reducible exact hb2 | with_reducible exact hb1 | with_reducible refine Ext.alloc ?_ _ | with_reducible refine Ext.drew ?_ | ((with_reducible refine Ext.set ?_ ?_ _); focus (dsimp only; omega)) | with_reducible refine Ext.trans ?_ hb9 | with_reducible refine Ext.trans ?_ hb8 | with_reducible refine Ext.trans ?_ hb7 | with_reducible refine Ext.trans ?_ hb6 | with_reducible refine Ext.trans ?_ hb5 | with_reducible refine Ext.trans ?_ hb4 | with_reducible refine Ext.trans ?_ hb3 | with_reducible refine Ext.trans ?_ hb2 | with_reducible refine Ext.trans ?_ hb1 | with_reducible refine Ext.trans ?_ hw))), (hB2.set 0 _).set 1 _, ((hC.ext hb2).setOther (by first | omega | (simp; done) | (simp; omega) | (dsimp only; omega)) _).setOther (by first | omega | (simp; done) | (simp; omega) | (dsimp only; omega)) _, ((hR.ext hb2).setB (by first | omega | (simp; done) | (simp; omega) | (dsimp only; omega)) _).setB (by first | omega | (simp; done) | (simp; omega) | (dsimp only; omega)) _⟩
        case measure => omega
      · obtain rfl : k = sz.toNat := by omega
        have hks : ((sz.toNat : Nat) : Int) = sz := by omega
        rw [hT] at hB
        have c0 := hB.cell 0
        have c1 := hB.cell 1
        have l2 := hB.lt
        have g0 := hC.frozen 0
        have g1 := hC.frozen 1
        have x0 : wr.cell? ⟨w.heap.size, 0, none⟩ = some (.int .u64 0) := hC.cell 0
        have x1 : wr.cell? ⟨w.heap.size, 1, none⟩ = some (.int .u64 0) := hC.cell 1
        go_wp2
        refine bodyPost_ret (v := .agg #[.int .u64 (lo T), .int .u64 (hi T)]) (by simp [results, Tryd.results75, go_sem, x0, x1]) rfl ⟨by rw [hT], ?_⟩
        (repeat (first | with_reducible exact Ext.refl _ | with_reducible exact hw | with_reducible exact hb9 | with_reducible exact hb8 | with_reducible exact hb7 | with_reducible exact hb6 | with_reducible exact hb5 | with_reducible exact hb4 | with_reducible exact hb3 | with_reducible exact hb2 | with_reducible exact hb1 | with_reducible refine Ext.alloc ?_ _ | with_reducible refine Ext.drew ?_ | ((with_reducible refine Ext.set ?_ ?_ _); focus (dsimp only; omega)) | with_reducible refine Ext.trans ?_ hb9 | with_reducible refine Ext.trans ?_ hb8 | with_reducible refine Ext.trans ?_ hb7 | with_reducible refine Ext.trans ?_ hb6 | with_reducible refine Ext.trans ?_ hb5 | with_reducible refine Ext.trans ?_ hb4 | with_reducible refine Ext.trans ?_ hb3 | with_reducible refine Ext.trans ?_ hb2 | with_reducible refine Ext.trans ?_ hb1 | with_reducible refine Ext.trans ?_ hw))
  · have hz4 : sz ≤ 4 := z1
    have hm9b : v ≤ 9999 := by omega
    clear v1
    rw [manyF2] at z2
    have hv := hd (show codeF ⟨nm, 2, st, sz⟩ v = orTo (digG 2 st sz v) sz.toNat from rfl)
    rw [hv.out]
    clear hv
    go_enter Tryd.func75, Tryd.ntmps75
    go_wp2_with fail
    refine Calls.mono (spec_l01Sums _) ?_
    rintro e w3 ⟨bS, cap, rfl, hS, hle, hb3⟩
    have bC : BoxAt w3 w.heap.size #[.int .u64 0, .int .u64 0] 33 := ((BoxAt.new' rfl).alloc _).ext hb3
    have bB : BoxAt w3 (w.heap.size + 1) #[.int .u64 0, .int .u64 0] 33 := (BoxAt.new' (by simp)).ext hb3
    have hlS : w.heap.size + 1 < bS := by simp at hle; omega
    have hw3 : Ext w w3 := by ((repeat (first | with_reducible exact Ext.refl _ | with_reducible exact hw | with_reducible exact hb9 | with_reducible exact hb8 | with_reducible exact hb7 | with_reducible exact hb6 | with_reducible exact hb5 | with_reducible exact hb4 | with_reducible exact hb3 | with_reducible exact hb2 | with_reducible exact hb1 | with_reducible refine Ext.alloc ?_ _ | with_reducible refine Ext.drew ?_ | ((with_reducible refine Ext.set ?_ ?_ _); focus (dsimp only; omega)) | with_reducible refine Ext.trans ?_ hb9 | with_reducible refine Ext.trans ?_ hb8 | with_reducible refine Ext.trans ?_ hb7 | with_reducible refine Ext.trans ?_ hb6 | with_reducible refine Ext.trans ?_ hb5 | with_reducible refine Ext.trans ?_ hb4 | with_reducible refine Ext.trans ?_ hb3 | with_reducible refine Ext.trans ?_ hb2 | with_reducible refine Ext.trans ?_ hb1 | with_reducible refine Ext.trans ?_ hw)))
    have y1 := hw3.cell d1
    have lb : b < w3.heap.size := Nat.lt_of_lt_of_le hlt hw3.size
    clear hb3 hle
    go_wp2_with fail
    refine Calls.mono (spec_l01Pairs _) ?_
    rintro e w4 ⟨bP, cap2, rfl, hS4, hle4, hb4⟩
    have lw3 := bB.lt
    have hlP : w.heap.size + 1 < bP := by omega
    have bC := bC.ext hb4
    have bB := bB.ext hb4
    have hw3 := hw3.trans hb4
    clear y1 lb
    have y1 := hw3.cell d1
    have lb : b < w4.heap.size := Nat.lt_of_lt_of_le hlt hw3.size
    clear hb4 hle4 hS hlS lw3
    have hS := hS4
    go_wp2
    clear y1 lb
    generalize hT : orTo (digG 2 st sz v) sz.toNat = T
    go_loopg [10] sz.toNat (fun g i wr => ∃ (k : Nat), g = sz.toNat - k ∧ k ≤ sz.toNat ∧ i = .int .i64 k ∧ Ext w wr ∧ BoxAt wr (w.heap.size + 1) #[.int .u64 (lo (orTo (digG 2 st sz v) k)), .int .u64 (hi (orTo (digG 2 st sz v) k))] 33 ∧ BoxAt wr w.heap.size #[.int .u64 0, .int .u64 0] 33 ∧ Rd encI64 wr (some ⟨bP, 0, none⟩) pairsL)
    case atStart => exact ⟨0, by omega, by omega, rfl, hw3, by rw [show orTo (digG 2 st sz v) 0 = 0 from rfl, lo_zero, hi_zero]; exact bB, bC, hS⟩
    case round =>
      obtain ⟨k, hg, hk, rfl, hw, hB, hC, hR⟩ := hrel
      clear bB bC hw3 hS
      by_cases hkl : k < sz.toNat
      · have hks : (k : Int) < sz := by omega
        have wr1 : IntKind.i64.wrap (sz - 1) = sz - 1 := IntWalk.i64_in _ (by omega)
        have wr2 : IntKind.i64.wrap (sz - 1 - k) = sz - 1 - k := IntWalk.i64_in _ (by omega)
        have wr3 : IntKind.i64.wrap (5 * k) = 5 * k := IntWalk.i64_in _ (by omega)
        have wr4 : IntKind.i64.wrap (st + 5 * k) = st + 5 * k := IntWalk.i64_in _ (by omega)
        have hpw := fun W => spec_l01Power 10 (sz - 1 - k) (.inr rfl) (by omega) (by omega) W
        have hP1 := (powB (b := 10) (.inr rfl) (sz - 1 - (k : Int)).toNat (by omega)).1
        have hda : digAt sz v k = v / 10 ^ (sz - 1 - (k : Int)).toNat % 10 := rfl
        generalize (10 : Int) ^ (sz - 1 - (k : Int)).toNat = P at hpw hP1 hda
        have wq : IntKind.i64.wrap (v.tdiv P) = v / P := IntWalk.i64_quo _ _ (by omega)
        have hq0 : 0 ≤ v / P := (IntWalk.tdiv_le v P v0 hP1).1
        have hP0 : (P == 0) = false := by simp; omega
        have hdn : ∃ d : Nat, v / P % 10 = (d : Int) ∧ d < 10 := ⟨(v / P % 10).toNat, by omega, by omega⟩
        obtain ⟨d, hd1, hd10⟩ := hdn
        have wm : (v / P).tmod 10 = (d : Int) := (IntWalk.rem_in _ _ hq0).trans hd1
        rw [hd1] at hda
        have hnx := hd (show notchTo (orTo (digG 2 st sz v) k) (st + 5 * k) 5 (digN 2 d) 5 = orTo (digG 2 st sz v) (k + 1) by
          have h := dig_notch 2 (d : Int) (by decide) (by omega) (by omega) (orTo (digG 2 st sz v) k) (st + 5 * k)
          rw [show digW 2 = 5 from rfl, show ((5 : Int)).toNat = 5 from rfl] at h
          rw [h, orTo_succ]
          unfold digG
          rw [hda, show digW 2 = 5 from rfl])
        have hbd := digN_bd 2 ⟨d, hd10⟩
        have htb := pairs_at ⟨d, hd10⟩
        dsimp only at hbd htb
        go_wp2_with fail
        refine Calls.mono (hpw _) ?_
        rintro e w1 ⟨rfl, hb1⟩
        have hB := hB.ext hb1
        have hC := hC.ext hb1
        have hR := hR.ext hb1
        have hw := hw.trans hb1
        clear hb1 hda
        have m0 : w1.cell? ⟨bP, d, none⟩ = some (.int .i64 (digN 2 d)) := by have := hR.i64 d hd10; rw [Nat.zero_add] at this; rw [this]; exact congrArg (fun x => some (Value.int .i64 x)) htb
        have lS : bP < w1.heap.size := (hR d hd10).elim (fun _ h => by obtain ⟨_, h1, h2, _⟩ := h; simp only [Option.some.injEq, Addr.mk.injEq, and_true] at h1; obtain ⟨rfl, rfl⟩ := h1; exact h2)
        generalize digN 2 (d : Int) = cd at hnx hbd htb m0
        have hno := fun W => spec_l01Notch (orTo (digG 2 st sz v) k) (st + 5 * k) 5 cd (by omega) (by decide) (by decide) (by omega) (by omega) (by omega) W
        rw [show ((5 : Int)).toNat = 5 from rfl, hnx.out] at hno
        have c0 := hB.cell 0
        have c1 := hB.cell 1
        have f0 := hB.frozen 0
        have f1 := hB.frozen 1
        have l2 := hB.lt
        go_wp2
        refine wp_region_ext_tail 12 12 (by kernel_rfl) (by kernel_rfl) (by intro d _ _ _ _ h; cases d <;> exact h) ?_
        simp only [List.take_succ_cons, List.take_zero, List.drop_succ_cons, List.drop_zero]
        repeat (first | go_big_quiet_step (((go_at_call 113; with_reducible exact Calls.ext_of (hno _)))) | quiet_step (((go_at_call 113; with_reducible exact Calls.ext_of (hno _)))))
        refine wpQuiet_nil ?_
        intro w2 hq2
        have hb2 := ext_of_class hq2
        clear hq2
        obtain ⟨hc2, hf2, hz2⟩ := bcell3 hb2
        try simp at hz2
        have hB2 := hB.ext hb2
        have g0 := hB2.frozen 0
        have g1 := hB2.frozen 1
        have y0 := hB2.cell 0
        have y1 := hB2.cell 1
        have l3 := hB2.lt
        go_wp2
        go_roundg (sz.toNat - (k + 1))
        case rel => exact ⟨k + 1, rfl, hkl, by simp, by ((repeat (first | with_reducible exact Ext.refl _ | with_reducible exact hw | with_reducible exact hb9 | with_reducible exact hb8 | with_reducible exact hb7 | with_reducible exact hb6 | with_reducible exact hb5 | with_reducible exact hb4 | with_reducible exact hb3 | with_reducible exact hb2 | with_reducible exact hb1 | with_reducible refine Ext.alloc ?_ _ | with_reducible refine Ext.drew ?_ | ((with_reducible refine Ext.set ?_ ?_ _); focus (dsimp only; omega)) | with_reducible refine Ext.trans ?_ hb9 | with_reducible refine Ext.trans ?_ hb8 | with_reducible refine Ext.trans ?_ hb7 | with_reducible refine Ext.trans ?_ hb6 | with_reducible refine Ext.trans ?_ hb5 | with_reducible refine Ext.trans ?_ hb4 | with_reducible refine Ext.trans ?_ hb3 | with_reducible refine Ext.trans ?_ hb2 | with_reducible refine Ext.trans ?_ hb1 | with_reducible refine Ext.trans ?_ hw))), (hB2.set 0 _).set 1 _, ((hC.ext hb2).setOther (by first | omega | (simp; done) | (simp; omega) | (dsimp only; omega)) _).setOther (by first | omega | (simp; done) | (simp; omega) | (dsimp only; omega)) _, ((hR.ext hb2).setB (by first | omega | (simp; done) | (simp; omega) | (dsimp only; omega)) _).setB (by first | omega | (simp; done) | (simp; omega) | (dsimp only; omega)) _⟩
        case measure => omega
      · obtain rfl : k = sz.toNat := by omega
        have hks : ((sz.toNat : Nat) : Int) = sz := by omega
        rw [hT] at hB
        have c0 := hB.cell 0
        have c1 := hB.cell 1
        have l2 := hB.lt
        have g0 := hC.frozen 0
        have g1 := hC.frozen 1
        have x0 : wr.cell? ⟨w.heap.size, 0, none⟩ = some (.int .u64 0) := hC.cell 0
        have x1 : wr.cell? ⟨w.heap.size, 1, none⟩ = some (.int .u64 0) := hC.cell 1
        go_wp2
        refine bodyPost_ret (v := .agg #[.int .u64 (lo T), .int .u64 (hi T)]) (by simp [results, Tryd.results75, go_sem, x0, x1]) rfl ⟨by rw [hT], ?_⟩
        (repeat (first | with_reducible exact Ext.refl _ | with_reducible exact hw | with_reducible exact hb9 | with_reducible exact hb8 | with_reducible exact hb7 | with_reducible exact hb6 | with_reducible exact hb5 | with_reducible exact hb4 | with_reducible exact hb3 | with_reducible exact hb2 | with_reducible exact hb1 | with_reducible refine Ext.alloc ?_ _ | with_reducible refine Ext.drew ?_ | ((with_reducible refine Ext.set ?_ ?_ _); focus (dsimp only; omega)) | with_reducible refine Ext.trans ?_ hb9 | with_reducible refine Ext.trans ?_ hb8 | with_reducible refine Ext.trans ?_ hb7 | with_reducible refine Ext.trans ?_ hb6 | with_reducible refine Ext.trans ?_ hb5 | with_reducible refine Ext.trans ?_ hb4 | with_reducible refine Ext.trans ?_ hb3 | with_reducible refine Ext.trans ?_ hb2 | with_reducible refine Ext.trans ?_ hb1 | with_reducible refine Ext.trans ?_ hw))
end Go.Proofs.YtegopgpnjgikeaaDoor
set_option linter.unusedVariables false
set_option linter.unusedSimpArgs false
set_option maxRecDepth 100000
namespace Go.Proofs.YtegopgpnjgikeaaDoor
open Go.RowKit
theorem ExtOf.prop {w : World} (x : ExtOf w) : Ext w x.val := x.2
set_option maxHeartbeats 1000000 in
theorem impl_decode (nm : ByteArray) (kd st sz : Int) (hf : fldB ⟨nm, kd, st, sz⟩ = true) (m : Mask) (w : World) :
    Calls Tryd.prog 68 #[.agg #[.string nm, .int .i8 kd, .int .i16 st, .int .i16 sz], .agg #[.int .u64 (lo m), .int .u64 (hi m)]] w fun e w' => e = .returned (.tuple #[.int .i64 (valueF ⟨nm, kd, st, sz⟩ m).1, .int .i64 (valueF ⟨nm, kd, st, sz⟩ m).2]) ∧ Ext w w' := by
  have hx := @ExtOf.cell
  obtain ⟨_, k0, k3, s0, z0, z1, z2⟩ := fldB_parts hf
  dsimp only at k0 k3 s0 z0 z1 z2
  have hmo := fun W => impl_most nm kd st sz k0 k3 z0 z1 W
  have hml := mostF_le _ hf
  have henc := fun (v : Int) (h0 : 0 ≤ v) (h1 : v ≤ mostF ⟨nm, kd, st, sz⟩) (W : World) => impl_encode nm kd st sz v hf h0 h1 W
  have hpa := fun W => impl_part nm kd st sz hf W
  have hz0 := fun h => hd (valueF_zero (f := ⟨nm, kd, st, sz⟩) (m := m) h)
  have hhit := fun k h1 h2 h3 h4 => hd (valueF_hit (f := ⟨nm, kd, st, sz⟩) (m := m) (k := k) h1 h2 h3 h4)
  have hmiss := fun h1 h2 => hd (valueF_miss (f := ⟨nm, kd, st, sz⟩) (m := m) h1 h2)
  have hxx := hd (show mmeet m (partF ⟨nm, kd, st, sz⟩) = mmeet m (partF ⟨nm, kd, st, sz⟩) from rfl)
  generalize partF ⟨nm, kd, st, sz⟩ = p at hpa hz0 hhit hmiss hxx
  have e1 := lohi_zero (mmeet m p)
  have e2 := eqA_Mask
  generalize mostF ⟨nm, kd, st, sz⟩ = mo at hmo hml henc hhit hmiss
  go_enter Tryd.func68, Tryd.ntmps68
  go_wp2_with fail
  refine wp_region_float 4 4 6 _ #[.int .u64 0, .int .u64 0] 33 (by kernel_rfl) (by kernel_rfl) rfl rfl rfl rfl (fun _ _ => by go_simp) (by intro d _ _ _ _ h; cases d <;> exact h) ?_
  simp only [List.take_succ_cons, List.take_zero, List.drop_succ_cons, List.drop_zero]
  repeat (refine wpX_step (fun K hK => ?_); go_simp; first | (refine hK _ ?_; clear hK K) | (apply Exists.intro; refine ⟨fun x => ?_, hK _ ?_⟩; ((first | (go_at_call 84; with_reducible exact hpa _) | (go_at_call 52; with_reducible exact impl_MeetMasks m p _))); clear hK K))
  refine wpX_nil ?_
  intro b2 w2 hb2 hbb2 hcb2
  obtain ⟨hc2, hf2, hz2⟩ := bcell3 hb2
  try simp at hz2
  try simp at hbb2
  have hz2_0 : w.heap.size < w2.heap.size := by omega
  have hn2_0 : ¬ (b2 = w.heap.size) := by omega
  have hz2_1 : w.heap.size + 1 < w2.heap.size := by omega
  have hn2_1 : ¬ (b2 = w.heap.size + 1) := by omega
  have hbl2 := blk_lt hcb2
  have hbf2 := blk_free hcb2
  have hbc2_0 : w2.cell? ⟨b2, 0, none⟩ = some (.int .u64 0) := blk_cell hcb2 0 rfl
  have hbc2_1 : w2.cell? ⟨b2, 1, none⟩ = some (.int .u64 0) := blk_cell hcb2 1 rfl
  clear hcb2
  have hcz : mzero (mmeet m p) = true ↔ mmeet m p = 0 := by unfold mzero; rw [beq_iff_eq]
  generalize mmeet m p = x at e1 hcz hz0 hhit hmiss
  clear hxx
  cases hz : mzero x with
  | true =>
    have hv := hz0 (hcz.1 hz)
    rw [hz] at e1
    go_wp2
    refine bodyPost_ret (v := .tuple #[.int .i64 0, .int .i64 6]) (by simp [results, Tryd.results68, go_sem]) rfl ⟨by rw [hv.out], ?_⟩
    (repeat (first | with_reducible exact Ext.refl _ | with_reducible exact hw | with_reducible exact hb9 | with_reducible exact hb8 | with_reducible exact hb7 | with_reducible exact hb6 | with_reducible exact hb5 | with_reducible exact hb4 | with_reducible exact hb3 | with_reducible exact hb2 | with_reducible exact hb1 | with_reducible refine Ext.alloc ?_ _ | with_reducible refine Ext.drew ?_ | ((with_reducible refine Ext.set ?_ ?_ _); focus (dsimp only; omega)) | with_reducible refine Ext.trans ?_ hb9 | with_reducible refine Ext.trans ?_ hb8 | with_reducible refine Ext.trans ?_ hb7 | with_reducible refine Ext.trans ?_ hb6 | with_reducible refine Ext.trans ?_ hb5 | with_reducible refine Ext.trans ?_ hb4 | with_reducible refine Ext.trans ?_ hb3 | with_reducible refine Ext.trans ?_ hb2 | with_reducible refine Ext.trans ?_ hb1 | with_reducible refine Ext.trans ?_ hw))
  | false =>
    have hxz : ¬ x = 0 := fun h => by rw [hcz.2 h] at hz; cases hz
    rw [hz] at e1
    go_wp2_with fail
    refine Calls.mono (hmo _) ?_
    rintro e w3 ⟨rfl, hb3⟩
    have o0 : w3.cell? ⟨b2, 0, none⟩ = some (.int .u64 (lo x)) := hb3.cell (by go_simp)
    have o1 : w3.cell? ⟨b2, 1, none⟩ = some (.int .u64 (hi x)) := hb3.cell (by go_simp)
    have m0 : w3.cell? ⟨w.heap.size, 0, none⟩ = some (.string nm) := hb3.cell (by go_simp)
    have m1 : w3.cell? ⟨w.heap.size, 1, none⟩ = some (.int .i8 kd) := hb3.cell (by go_simp)
    have m2 : w3.cell? ⟨w.heap.size, 2, none⟩ = some (.int .i16 st) := hb3.cell (by go_simp)
    have m3 : w3.cell? ⟨w.heap.size, 3, none⟩ = some (.int .i16 sz) := hb3.cell (by go_simp)
    have hw3 : Ext w w3 := by ((repeat (first | with_reducible exact Ext.refl _ | with_reducible exact hw | with_reducible exact hb9 | with_reducible exact hb8 | with_reducible exact hb7 | with_reducible exact hb6 | with_reducible exact hb5 | with_reducible exact hb4 | with_reducible exact hb3 | with_reducible exact hb2 | with_reducible exact hb1 | with_reducible refine Ext.alloc ?_ _ | with_reducible refine Ext.drew ?_ | ((with_reducible refine Ext.set ?_ ?_ _); focus (dsimp only; omega)) | with_reducible refine Ext.trans ?_ hb9 | with_reducible refine Ext.trans ?_ hb8 | with_reducible refine Ext.trans ?_ hb7 | with_reducible refine Ext.trans ?_ hb6 | with_reducible refine Ext.trans ?_ hb5 | with_reducible refine Ext.trans ?_ hb4 | with_reducible refine Ext.trans ?_ hb3 | with_reducible refine Ext.trans ?_ hb2 | with_reducible refine Ext.trans ?_ hb1 | with_reducible refine Ext.trans ?_ hw)))
    clear hc2 hf2 hb3 hb2 hbf2 hbc2_0 hbc2_1 hz2 hz2_0 hz2_1 hn2_0 hn2_1 e1
    have wm : IntKind.i64.wrap (mo + 1) = mo + 1 := IntWalk.i64_in _ (by omega)
    go_wp2
    go_loopg [18] (mo + 1).toNat (fun g i wr => ∃ k : Nat, g = (mo + 1).toNat - k ∧ k ≤ (mo + 1).toNat ∧ i = .int .i64 k ∧ Ext w3 wr ∧ Hd (valAt ⟨nm, kd, st, sz⟩ x k = none))
    case atStart => exact ⟨0, by omega, by omega, rfl, Ext.refl _, hd rfl⟩
    case round =>
      obtain ⟨k, hg, hk, rfl, hw, hn⟩ := hrel
      have o0 := hw.cell o0
      have o1 := hw.cell o1
      have m0 := hw.cell m0
      have m1 := hw.cell m1
      have m2 := hw.cell m2
      have m3 := hw.cell m3
      have lb2 := World.block_lt_of_cell? _ _ o0
      have lw := World.block_lt_of_cell? _ _ m0
      dsimp only at lb2 lw
      by_cases hkl : k < (mo + 1).toNat
      · have hks : (k : Int) < mo + 1 := by omega
        have e3 := lohi_meq (codeF ⟨nm, kd, st, sz⟩ k) x
        have hem : meqB (codeF ⟨nm, kd, st, sz⟩ k) x = true ↔ codeF ⟨nm, kd, st, sz⟩ k = x := by unfold meqB; rw [beq_iff_eq]
        cases hq : meqB (codeF ⟨nm, kd, st, sz⟩ k) x with
        | true =>
          have hv := hhit k hxz hn.out (hem.1 hq) (by omega)
          rw [hq] at e3
          go_wp2
          refine wp_region_ext (by kernel_rfl) (by kernel_rfl) ?_
          repeat (first | go_big_quiet_step ((go_at_call 70; with_reducible exact Calls.ext_all (fun W _ => henc k (by omega) (by omega) W))) | quiet_step ((go_at_call 70; with_reducible exact Calls.ext_all (fun W _ => henc k (by omega) (by omega) W))))
          refine wpQuiet_nil ?_
          intro w4 hq4
          have hb4 := ext_of_class hq4
          clear hq4
          obtain ⟨hc4, hf4, hz4⟩ := bcell3 hb4
          try simp at hz4
          go_wp2
          refine bodyPost_ret (v := .tuple #[.int .i64 k, .int .i64 0]) (by simp [results, Tryd.results68, go_sem]) rfl ⟨by rw [hv.out], (hw3.trans hw).trans hb4⟩
        | false =>
          have hn2 := hd (valAt_miss hn.out (fun h => by rw [hem.2 h] at hq; cases hq))
          rw [hq] at e3
          go_wp2
          refine wp_region_ext (by kernel_rfl) (by kernel_rfl) ?_
          repeat (first | go_big_quiet_step ((go_at_call 70; with_reducible exact Calls.ext_all (fun W _ => henc k (by omega) (by omega) W))) | quiet_step ((go_at_call 70; with_reducible exact Calls.ext_all (fun W _ => henc k (by omega) (by omega) W))))
          refine wpQuiet_nil ?_
          intro w4 hq4
          have hb4 := ext_of_class hq4
          clear hq4
          obtain ⟨hc4, hf4, hz4⟩ := bcell3 hb4
          try simp at hz4
          go_wp2
          go_roundg ((mo + 1).toNat - (k + 1))
          case rel => exact ⟨k + 1, rfl, hkl, by simp, hw.trans hb4, hn2⟩
          case measure => omega
      · obtain rfl : k = (mo + 1).toNat := by omega
        have hks : (((mo + 1).toNat : Nat) : Int) = mo + 1 := by omega
        have hv := hmiss hxz hn.out
        go_wp2
        refine bodyPost_ret (v := .tuple #[.int .i64 0, .int .i64 8]) (by simp [results, Tryd.results68, go_sem]) rfl ⟨by rw [hv.out], hw3.trans hw⟩
set_option maxHeartbeats 1000000 in
theorem spec_l01Value (f : Fld) (hf : fldB f = true) (m : Mask) (b o : Nat) (w : World) (hF : FldAt w b o f) :
    Calls Tryd.prog 73 #[.pointer (some ⟨b, o, none⟩), .agg #[.int .u64 (lo m), .int .u64 (hi m)]] w fun e w' => e = .returned (.tuple #[.int .i64 (valueF f m).1, .int .i64 (valueF f m).2]) ∧ Ext w w' := by
  have hx := @ExtOf.cell
  have hlt : b < w.heap.size := World.block_lt_of_cell? w _ hF.1
  have hmo := fun (W : World) (h : FldAt W b o f) => spec_l01Most f hf b o W h
  have hml := mostF_le _ hf
  have henc := fun (v : Int) (h0 : 0 ≤ v) (h1 : v ≤ mostF f) (W : World) (h : FldAt W b o f) => spec_l01Code f hf v h0 h1 b o W h
  have hpa := fun (W : World) (h : Ext w W) => spec_l01Part f hf b o W (hF.ext h)
  have hz0 := fun h => hd (valueF_zero (f := f) (m := m) h)
  have hhit := fun k h1 h2 h3 h4 => hd (valueF_hit (f := f) (m := m) (k := k) h1 h2 h3 h4)
  have hmiss := fun h1 h2 => hd (valueF_miss (f := f) (m := m) h1 h2)
  generalize partF f = p at hpa hz0 hhit hmiss
  have e1 := lohi_zero (mmeet m p)
  have e2 := eqA_Mask
  generalize mostF f = mo at hmo hml henc hhit hmiss
  go_enter Tryd.func73, Tryd.ntmps73
  go_wp2_with fail
  refine wp_region_float 4 4 6 _ #[.int .u64 0, .int .u64 0] 33 (by kernel_rfl) (by kernel_rfl) rfl rfl rfl rfl (fun _ _ => by go_simp) (by intro d _ _ _ _ h; cases d <;> exact h) ?_
  simp only [List.take_succ_cons, List.take_zero, List.drop_succ_cons, List.drop_zero]
  repeat (refine wpX_step (fun K hK => ?_); go_simp; first | (refine hK _ ?_; clear hK K) | (apply Exists.intro; refine ⟨fun x => ?_, hK _ ?_⟩; ((first | (go_at_call 77; with_reducible exact hpa _ (Ext.trans ((Ext.refl _).alloc _) (ExtOf.prop _))) | (go_at_call 79; with_reducible exact spec_l01Meet m p _))); clear hK K))
  refine wpX_nil ?_
  intro b2 w2 hb2 hbb2 hcb2
  obtain ⟨hc2, hf2, hz2⟩ := bcell3 hb2
  try simp at hz2
  try simp at hbb2
  have hz2_0 : w.heap.size < w2.heap.size := by omega
  have hn2_0 : ¬ (b2 = w.heap.size) := by omega
  have hbl2 := blk_lt hcb2
  have hbf2 := blk_free hcb2
  have hbc2_0 : w2.cell? ⟨b2, 0, none⟩ = some (.int .u64 0) := blk_cell hcb2 0 rfl
  have hbc2_1 : w2.cell? ⟨b2, 1, none⟩ = some (.int .u64 0) := blk_cell hcb2 1 rfl
  clear hcb2
  have hcz : mzero (mmeet m p) = true ↔ mmeet m p = 0 := by unfold mzero; rw [beq_iff_eq]
  generalize mmeet m p = x at e1 hcz hz0 hhit hmiss
  cases hz : mzero x with
  | true =>
    have hv := hz0 (hcz.1 hz)
    rw [hz] at e1
    go_wp2
    refine bodyPost_ret (v := .tuple #[.int .i64 0, .int .i64 6]) (by simp [results, Tryd.results73, go_sem]) rfl ⟨by rw [hv.out], ?_⟩
    (repeat (first | with_reducible exact Ext.refl _ | with_reducible exact hw | with_reducible exact hb9 | with_reducible exact hb8 | with_reducible exact hb7 | with_reducible exact hb6 | with_reducible exact hb5 | with_reducible exact hb4 | with_reducible exact hb3 | with_reducible exact hb2 | with_reducible exact hb1 | with_reducible refine Ext.alloc ?_ _ | with_reducible refine Ext.drew ?_ | ((with_reducible refine Ext.set ?_ ?_ _); focus (dsimp only; omega)) | with_reducible refine Ext.trans ?_ hb9 | with_reducible refine Ext.trans ?_ hb8 | with_reducible refine Ext.trans ?_ hb7 | with_reducible refine Ext.trans ?_ hb6 | with_reducible refine Ext.trans ?_ hb5 | with_reducible refine Ext.trans ?_ hb4 | with_reducible refine Ext.trans ?_ hb3 | with_reducible refine Ext.trans ?_ hb2 | with_reducible refine Ext.trans ?_ hb1 | with_reducible refine Ext.trans ?_ hw))
  | false =>
    have hxz : ¬ x = 0 := fun h => by rw [hcz.2 h] at hz; cases hz
    rw [hz] at e1
    have hws : Ext w ((w2.setCell ⟨b2, 0, none⟩ (.int .u64 (lo x))).setCell ⟨b2, 1, none⟩ (.int .u64 (hi x))) := by ((repeat (first | with_reducible exact Ext.refl _ | with_reducible exact hw | with_reducible exact hb9 | with_reducible exact hb8 | with_reducible exact hb7 | with_reducible exact hb6 | with_reducible exact hb5 | with_reducible exact hb4 | with_reducible exact hb3 | with_reducible exact hb2 | with_reducible exact hb1 | with_reducible refine Ext.alloc ?_ _ | with_reducible refine Ext.drew ?_ | ((with_reducible refine Ext.set ?_ ?_ _); focus (dsimp only; omega)) | with_reducible refine Ext.trans ?_ hb9 | with_reducible refine Ext.trans ?_ hb8 | with_reducible refine Ext.trans ?_ hb7 | with_reducible refine Ext.trans ?_ hb6 | with_reducible refine Ext.trans ?_ hb5 | with_reducible refine Ext.trans ?_ hb4 | with_reducible refine Ext.trans ?_ hb3 | with_reducible refine Ext.trans ?_ hb2 | with_reducible refine Ext.trans ?_ hb1 | with_reducible refine Ext.trans ?_ hw)))
    have o0 : ((w2.setCell ⟨b2, 0, none⟩ (.int .u64 (lo x))).setCell ⟨b2, 1, none⟩ (.int .u64 (hi x))).cell? ⟨b2, 0, none⟩ = some (.int .u64 (lo x)) := by go_simp
    have o1 : ((w2.setCell ⟨b2, 0, none⟩ (.int .u64 (lo x))).setCell ⟨b2, 1, none⟩ (.int .u64 (hi x))).cell? ⟨b2, 1, none⟩ = some (.int .u64 (hi x)) := by go_simp
    go_wp2
    clear hc2 hf2 hb2 hbf2 hbc2_0 hbc2_1 hz2 hz2_0 hn2_0 e1
    generalize (w2.setCell ⟨b2, 0, none⟩ (.int .u64 (lo x))).setCell ⟨b2, 1, none⟩ (.int .u64 (hi x)) = W3 at hws o0 o1
    go_loopg [7] (mo + 1).toNat (fun g i wr => ∃ k : Nat, g = (mo + 1).toNat - k ∧ k ≤ (mo + 1).toNat ∧ i = .int .i64 k ∧ Ext W3 wr ∧ Hd (valAt f x k = none))
    case atStart => exact ⟨0, by omega, by omega, rfl, Ext.refl _, hd rfl⟩
    case round =>
      obtain ⟨k, hg, hk, rfl, hw, hn⟩ := hrel
      go_wp2_with fail
      refine Calls.mono (hmo _ (hF.ext (hws.trans hw))) ?_
      rintro e w3 ⟨rfl, hb3⟩
      have hw := hw.trans hb3
      clear hb3
      have hF3 := hF.ext (hws.trans hw)
      have o0 := hw.cell o0
      have o1 := hw.cell o1
      have lb2 := World.block_lt_of_cell? _ _ o0
      dsimp only at lb2
      by_cases hkl : k < (mo + 1).toNat
      · have hks : (k : Int) ≤ mo := by omega
        have e3 := lohi_meq (codeF f k) x
        have hem : meqB (codeF f k) x = true ↔ codeF f k = x := by unfold meqB; rw [beq_iff_eq]
        cases hq : meqB (codeF f k) x with
        | true =>
          have hv := hhit k hxz hn.out (hem.1 hq) (by omega)
          rw [hq] at e3
          go_wp2
          refine wp_region_ext (by kernel_rfl) (by kernel_rfl) ?_
          repeat (first | go_big_quiet_step ((go_at_call 75; with_reducible exact Calls.ext_all (fun W h => henc k (by omega) (by omega) W (hF3.ext h)))) | quiet_step ((go_at_call 75; with_reducible exact Calls.ext_all (fun W h => henc k (by omega) (by omega) W (hF3.ext h)))))
          refine wpQuiet_nil ?_
          intro w4 hq4
          have hb4 := ext_of_class hq4
          clear hq4
          obtain ⟨hc4, hf4, hz4⟩ := bcell3 hb4
          try simp at hz4
          go_wp2
          refine bodyPost_ret (v := .tuple #[.int .i64 k, .int .i64 0]) (by simp [results, Tryd.results73, go_sem]) rfl ⟨by rw [hv.out], (hws.trans hw).trans hb4⟩
        | false =>
          have hn2 := hd (valAt_miss hn.out (fun h => by rw [hem.2 h] at hq; cases hq))
          rw [hq] at e3
          go_wp2
          refine wp_region_ext (by kernel_rfl) (by kernel_rfl) ?_
          repeat (first | go_big_quiet_step ((go_at_call 75; with_reducible exact Calls.ext_all (fun W h => henc k (by omega) (by omega) W (hF3.ext h)))) | quiet_step ((go_at_call 75; with_reducible exact Calls.ext_all (fun W h => henc k (by omega) (by omega) W (hF3.ext h)))))
          refine wpQuiet_nil ?_
          intro w4 hq4
          have hb4 := ext_of_class hq4
          clear hq4
          obtain ⟨hc4, hf4, hz4⟩ := bcell3 hb4
          try simp at hz4
          go_wp2
          go_roundg ((mo + 1).toNat - (k + 1))
          case rel => exact ⟨k + 1, rfl, hkl, by simp, hw.trans hb4, hn2⟩
          case measure => omega
      · obtain rfl : k = (mo + 1).toNat := by omega
        have hks : (((mo + 1).toNat : Nat) : Int) = mo + 1 := by omega
        have hv := hmiss hxz hn.out
        go_wp2
        refine bodyPost_ret (v := .tuple #[.int .i64 0, .int .i64 8]) (by simp [results, Tryd.results73, go_sem]) rfl ⟨by rw [hv.out], hws.trans hw⟩
end Go.Proofs.YtegopgpnjgikeaaDoor
set_option linter.unusedVariables false
set_option linter.unusedSimpArgs false
set_option maxRecDepth 100000
namespace Go.Proofs.YtegopgpnjgikeaaDoor
open Go.RowKit
theorem isField_in (f : Fld) (hf : FldIn f) (W : World) : Calls Tryd.prog 63 #[.agg #[.string f.nm, .int .i8 f.kd, .int .i16 f.st, .int .i16 f.sz]] W fun e w' => e = .returned (.bool (fldB f)) ∧ Ext W w' := by
  obtain ⟨⟨⟨a0, a1⟩, ⟨a2, a3⟩, a4, a5⟩, hx⟩ := hf
  exact impl_isField f.nm f.kd f.st f.sz a0 a1 a2 a3 a4 a5 hx W
theorem l01Field_in (f : Fld) (hf : FldIn f) (b o : Nat) (W : World) (hF : FldAt W b o f) : Calls Tryd.prog 65 #[.pointer (some ⟨b, o, none⟩)] W fun e w' => e = .returned (.bool (fldB f)) ∧ Ext W w' := by
  obtain ⟨⟨⟨a0, a1⟩, ⟨a2, a3⟩, a4, a5⟩, hx⟩ := hf
  exact spec_l01Field f.nm f.kd f.st f.sz b o a0 a1 a2 a3 a4 a5 hx W hF (World.block_lt_of_cell? W _ hF.1)
end Go.Proofs.YtegopgpnjgikeaaDoor
set_option linter.unusedVariables false
set_option linter.unusedSimpArgs false
set_option maxRecDepth 100000
namespace Go.Proofs.YtegopgpnjgikeaaDoor
open Go.RowKit
def fldEqB (x y : Fld) : Bool := (x.nm.toList == y.nm.toList) && ((x.kd == y.kd) && ((x.st == y.st) && (x.sz == y.sz)))
theorem fldEqB_refl (x : Fld) : fldEqB x x = true := by simp [fldEqB]
end Go.Proofs.YtegopgpnjgikeaaDoor
set_option linter.unusedVariables false
namespace Go.Proofs.YtegopgpnjgikeaaDoor
open Go.RowKit
structure Crd where
  nm : ByteArray
  m : Mask
instance : Inhabited Crd := ⟨⟨⟨#[]⟩, 0⟩⟩
def Crd.z : Crd := ⟨⟨#[]⟩, 0⟩
def crdB (x y : Crd) : Bool := (x.nm.toList == y.nm.toList) && meqB x.m y.m
theorem crdB_refl (x : Crd) : crdB x x = true := by simp [crdB, meqB]
def isCardB (c : Crd) : Bool := isNameB c.nm && isMaskB c.m
/-- A mask that is worn. -/
def wornM (t f m : Mask) : Mask := mless (mjoin m t) f
/-- What WearCard returns. -/
def wearF (c : Crd) (t f : Mask) : Crd × Int := if (isCardB c && isWearB t f) = true then (⟨c.nm, wornM t f c.m⟩, 0) else (Crd.z, 1)
theorem wearF_hit {c : Crd} {t f : Mask} (h1 : isCardB c = true) (h2 : isWearB t f = true) : wearF c t f = (⟨c.nm, wornM t f c.m⟩, 0) := by rw [wearF, h1, h2]; rfl
theorem wearF_miss1 {c : Crd} {t f : Mask} (h1 : isCardB c = false) : wearF c t f = (Crd.z, 1) := by rw [wearF, h1]; rfl
theorem wearF_miss2 {c : Crd} {t f : Mask} (h2 : isWearB t f = false) : wearF c t f = (Crd.z, 1) := by rw [wearF, h2, Bool.and_false]; rfl
attribute [irreducible] wearF
/-- The elements of a slice of cards. -/
def encCrd : Enc Crd where
  enc x := [.string x.nm, .int .u64 (lo x.m), .int .u64 (hi x.m)]
  sz := 3
  len _ := rfl
  one m u hu := by
    simp only [List.mem_cons, List.not_mem_nil, or_false] at hu
    rcases hu with rfl | rfl | rfl <;> rfl
  pos := by decide
theorem Rd.crd {w : World} {b off : Nat} {xs : List Crd} (h : Rd encCrd w (some ⟨b, off, none⟩) xs) (k : Nat) (hk : k < xs.length) :
    w.cell? ⟨b, off + k * 3, none⟩ = some (.string xs[k].nm) ∧ w.cell? ⟨b, off + k * 3 + 1, none⟩ = some (.int .u64 (lo xs[k].m)) ∧ w.cell? ⟨b, off + k * 3 + 2, none⟩ = some (.int .u64 (hi xs[k].m)) ∧ b < w.heap.size := by
  obtain ⟨b', off', e1, hlt, hc⟩ := h k hk
  simp only [Option.some.injEq, Addr.mk.injEq, and_true] at e1
  obtain ⟨rfl, rfl⟩ := e1
  exact ⟨hc 0 _ rfl, hc 1 _ rfl, hc 2 _ rfl, hlt⟩
end Go.Proofs.YtegopgpnjgikeaaDoor
set_option linter.unusedVariables false
set_option linter.unusedSimpArgs false
namespace Go.Proofs.YtegopgpnjgikeaaDoor
open Go.RowKit
set_option maxHeartbeats 400000 in
theorem spec_l01Ok (x : Crd) (hx : x.nm.size ≤ 9223372036854775807) (b o : Nat) (w : World) (hb : b < w.heap.size) (g0 : w.cell? ⟨b, o, none⟩ = some (.string x.nm)) (g1 : w.cell? ⟨b, o + 1, none⟩ = some (.int .u64 (lo x.m)))
    (g2 : w.cell? ⟨b, o + 1 + 1, none⟩ = some (.int .u64 (hi x.m))) :
    Calls Tryd.prog 76 #[.pointer (some ⟨b, o, none⟩)] w fun e w' => e = .returned (.bool (isCardB x)) ∧ Ext w w' := by
  unfold isCardB
  cases h1 : isNameB x.nm
  · go_enter Tryd.func76, Tryd.ntmps76
    go_wp2_with fail
    refine Calls.mono (spec_l01Name _ _ hx) ?_
    rintro e w1 ⟨rfl, hb1⟩
    obtain ⟨hc1, hf1, hz1⟩ := bcell3 hb1
    try simp at hz1
    go_wp2
    go_ret
    refine ⟨rfl, ?_⟩
    (repeat (first | with_reducible exact Ext.refl _ | with_reducible exact hw | with_reducible exact hb9 | with_reducible exact hb8 | with_reducible exact hb7 | with_reducible exact hb6 | with_reducible exact hb5 | with_reducible exact hb4 | with_reducible exact hb3 | with_reducible exact hb2 | with_reducible exact hb1 | with_reducible refine Ext.alloc ?_ _ | with_reducible refine Ext.drew ?_ | ((with_reducible refine Ext.set ?_ ?_ _); focus (dsimp only; omega)) | with_reducible refine Ext.trans ?_ hb9 | with_reducible refine Ext.trans ?_ hb8 | with_reducible refine Ext.trans ?_ hb7 | with_reducible refine Ext.trans ?_ hb6 | with_reducible refine Ext.trans ?_ hb5 | with_reducible refine Ext.trans ?_ hb4 | with_reducible refine Ext.trans ?_ hb3 | with_reducible refine Ext.trans ?_ hb2 | with_reducible refine Ext.trans ?_ hb1 | with_reducible refine Ext.trans ?_ hw))
  · cases h2 : isMaskB x.m
    all_goals
      go_enter Tryd.func76, Tryd.ntmps76
      go_wp2_with fail
      refine Calls.mono (spec_l01Name _ _ hx) ?_
      rintro e w1 ⟨rfl, hb1⟩
      obtain ⟨hc1, hf1, hz1⟩ := bcell3 hb1
      try simp at hz1
      go_wp2_with fail
      refine Calls.mono (spec_l01Mask _ _) ?_
      rintro e w2 ⟨rfl, hb2⟩
      obtain ⟨hc2, hf2, hz2⟩ := bcell3 hb2
      try simp at hz2
      go_wp2
      go_ret
      refine ⟨rfl, ?_⟩
      (repeat (first | with_reducible exact Ext.refl _ | with_reducible exact hw | with_reducible exact hb9 | with_reducible exact hb8 | with_reducible exact hb7 | with_reducible exact hb6 | with_reducible exact hb5 | with_reducible exact hb4 | with_reducible exact hb3 | with_reducible exact hb2 | with_reducible exact hb1 | with_reducible refine Ext.alloc ?_ _ | with_reducible refine Ext.drew ?_ | ((with_reducible refine Ext.set ?_ ?_ _); focus (dsimp only; omega)) | with_reducible refine Ext.trans ?_ hb9 | with_reducible refine Ext.trans ?_ hb8 | with_reducible refine Ext.trans ?_ hb7 | with_reducible refine Ext.trans ?_ hb6 | with_reducible refine Ext.trans ?_ hb5 | with_reducible refine Ext.trans ?_ hb4 | with_reducible refine Ext.trans ?_ hb3 | with_reducible refine Ext.trans ?_ hb2 | with_reducible refine Ext.trans ?_ hb1 | with_reducible refine Ext.trans ?_ hw))
set_option maxHeartbeats 400000 in
theorem impl_on (t f m : Mask) (w : World) :
    Calls Tryd.prog 69 #[.agg #[.int .u64 (lo t), .int .u64 (hi t), .int .u64 (lo f), .int .u64 (hi f)], .agg #[.int .u64 (lo m), .int .u64 (hi m)]] w fun e w' => e = .returned (.agg #[.int .u64 (lo (wornM t f m)), .int .u64 (hi (wornM t f m))]) ∧ Ext w w' := by
  have hx := @ExtOf.cell
  unfold wornM
  go_enter Tryd.func69, Tryd.ntmps69
  go_wp2_with fail
  refine wp_region_ext_tail 7 7 (by kernel_rfl) (by kernel_rfl) (by intro d _ _ _ _ h; cases d <;> exact h) ?_
  simp only [List.take_succ_cons, List.take_zero, List.drop_succ_cons, List.drop_zero]
  repeat (first | go_big_quiet_step ((first | (go_at_call 99; with_reducible exact Calls.ext_of (impl_JoinMasks _ _ _)) | (go_at_call 108; with_reducible exact Calls.ext_of (impl_LessMask _ _ _)))) | quiet_step ((first | (go_at_call 99; with_reducible exact Calls.ext_of (impl_JoinMasks _ _ _)) | (go_at_call 108; with_reducible exact Calls.ext_of (impl_LessMask _ _ _)))))
  refine wpQuiet_nil ?_
  intro w1 hq1
  have hb1 := ext_of_class hq1
  clear hq1
  obtain ⟨hc1, hf1, hz1⟩ := bcell3 hb1
  try simp at hz1
  have hz1_0 : w.heap.size < w1.heap.size := by omega
  have hz1_1 : w.heap.size + 1 < w1.heap.size := by omega
  have hz1_2 : w.heap.size + 1 + 1 < w1.heap.size := by omega
  go_wp2
  have c0 : w1.cell? ⟨w.heap.size + 1 + 1, 0, none⟩ = some (.int .u64 0) := by go_simp
  have c1 : w1.cell? ⟨w.heap.size + 1 + 1, 1, none⟩ = some (.int .u64 0) := by go_simp
  try clear hc1 hf1
  try clear hc2 hf2
  try clear hc3 hf3
  try clear hc4 hf4
  try clear hc5 hf5
  try clear hc6 hf6
  try clear hc7 hf7
  try clear hc8 hf8
  try clear hc9 hf9
  refine bodyPost_ret (v := .agg #[.int .u64 (lo (mless (mjoin m t) f)), .int .u64 (hi (mless (mjoin m t) f))]) (by simp [results, Tryd.results69, go_sem, c0, c1]) rfl ⟨rfl, ?_⟩
  (repeat (first | with_reducible exact Ext.refl _ | with_reducible exact hw | with_reducible exact hb9 | with_reducible exact hb8 | with_reducible exact hb7 | with_reducible exact hb6 | with_reducible exact hb5 | with_reducible exact hb4 | with_reducible exact hb3 | with_reducible exact hb2 | with_reducible exact hb1 | with_reducible refine Ext.alloc ?_ _ | with_reducible refine Ext.drew ?_ | ((with_reducible refine Ext.set ?_ ?_ _); focus (dsimp only; omega)) | with_reducible refine Ext.trans ?_ hb9 | with_reducible refine Ext.trans ?_ hb8 | with_reducible refine Ext.trans ?_ hb7 | with_reducible refine Ext.trans ?_ hb6 | with_reducible refine Ext.trans ?_ hb5 | with_reducible refine Ext.trans ?_ hb4 | with_reducible refine Ext.trans ?_ hb3 | with_reducible refine Ext.trans ?_ hb2 | with_reducible refine Ext.trans ?_ hb1 | with_reducible refine Ext.trans ?_ hw))
set_option maxHeartbeats 400000 in
theorem spec_l04Worn (t f m : Mask) (b o : Nat) (w : World) (hb : b < w.heap.size) (g0 : w.cell? ⟨b, o, none⟩ = some (.int .u64 (lo t))) (g1 : w.cell? ⟨b, o + 1, none⟩ = some (.int .u64 (hi t)))
    (g2 : w.cell? ⟨b, o + 2, none⟩ = some (.int .u64 (lo f))) (g3 : w.cell? ⟨b, o + 2 + 1, none⟩ = some (.int .u64 (hi f))) :
    Calls Tryd.prog 74 #[.agg #[.int .u64 (lo m), .int .u64 (hi m)], .pointer (some ⟨b, o, none⟩)] w fun e w' => e = .returned (.agg #[.int .u64 (lo (wornM t f m)), .int .u64 (hi (wornM t f m))]) ∧ Ext w w' := by
  have hx := @ExtOf.cell
  unfold wornM
  have n1 : ¬ (b = w.heap.size) := by omega
  have n2 : ¬ (b = w.heap.size + 1) := by omega
  have n3 : b < w.heap.size + 1 := by omega
  have n4 : b < w.heap.size + 1 + 1 := by omega
  go_enter Tryd.func74, Tryd.ntmps74
  go_wp2_with fail
  refine wp_region_ext_tail 11 11 (by kernel_rfl) (by kernel_rfl) (by intro d _ _ _ _ h; cases d <;> exact h) ?_
  simp only [List.take_succ_cons, List.take_zero, List.drop_succ_cons, List.drop_zero]
  repeat (first | go_big_quiet_step ((first | (go_at_call 61; with_reducible exact Calls.ext_of (spec_l01Join _ _ _)) | (go_at_call 78; with_reducible exact Calls.ext_of (spec_l01Less _ _ _)))) | quiet_step ((first | (go_at_call 61; with_reducible exact Calls.ext_of (spec_l01Join _ _ _)) | (go_at_call 78; with_reducible exact Calls.ext_of (spec_l01Less _ _ _)))))
  refine wpQuiet_nil ?_
  intro w1 hq1
  have hb1 := ext_of_class hq1
  clear hq1
  obtain ⟨hc1, hf1, hz1⟩ := bcell3 hb1
  try simp at hz1
  have hz1_0 : w.heap.size < w1.heap.size := by omega
  have hz1_1 : w.heap.size + 1 < w1.heap.size := by omega
  go_wp2
  have c0 : w1.cell? ⟨w.heap.size + 1, 0, none⟩ = some (.int .u64 0) := by go_simp
  have c1 : w1.cell? ⟨w.heap.size + 1, 1, none⟩ = some (.int .u64 0) := by go_simp
  try clear hc1 hf1
  try clear hc2 hf2
  try clear hc3 hf3
  try clear hc4 hf4
  try clear hc5 hf5
  try clear hc6 hf6
  try clear hc7 hf7
  try clear hc8 hf8
  try clear hc9 hf9
  refine bodyPost_ret (v := .agg #[.int .u64 (lo (mless (mjoin m t) f)), .int .u64 (hi (mless (mjoin m t) f))]) (by simp [results, Tryd.results74, go_sem, c0, c1]) rfl ⟨rfl, ?_⟩
  (repeat (first | with_reducible exact Ext.refl _ | with_reducible exact hw | with_reducible exact hb9 | with_reducible exact hb8 | with_reducible exact hb7 | with_reducible exact hb6 | with_reducible exact hb5 | with_reducible exact hb4 | with_reducible exact hb3 | with_reducible exact hb2 | with_reducible exact hb1 | with_reducible refine Ext.alloc ?_ _ | with_reducible refine Ext.drew ?_ | ((with_reducible refine Ext.set ?_ ?_ _); focus (dsimp only; omega)) | with_reducible refine Ext.trans ?_ hb9 | with_reducible refine Ext.trans ?_ hb8 | with_reducible refine Ext.trans ?_ hb7 | with_reducible refine Ext.trans ?_ hb6 | with_reducible refine Ext.trans ?_ hb5 | with_reducible refine Ext.trans ?_ hb4 | with_reducible refine Ext.trans ?_ hb3 | with_reducible refine Ext.trans ?_ hb2 | with_reducible refine Ext.trans ?_ hb1 | with_reducible refine Ext.trans ?_ hw))
end Go.Proofs.YtegopgpnjgikeaaDoor
set_option linter.unusedVariables false
namespace Go.Proofs.YtegopgpnjgikeaaDoor
open Go.RowKit
section
variable {α β : Type} {e : Enc α} {f : Enc β} {T U : TypeId} {w w' w1 : World} {base base' : Nat} {v v' : Value} {xs : List α} {ys : List β}
/-- Two slices of the call's own, the one made behind the other. -/
def Apart (v v' : Value) : Prop := v.ownBlock = none ∨ v.ownBlock ≠ v'.ownBlock
theorem Apart.of (h : Ow e T w base v xs) (h' : Ow f U w' base' v' ys) (hb : w.heap.size ≤ base') : Apart v v' := by
  cases hv : v.ownBlock with
  | none => exact .inl hv
  | some k =>
    refine .inr ?_
    rw [hv]
    intro he
    have h1 := (h.lt k hv).2
    have h2 := (h'.lt k he.symm).1
    omega
theorem Apart.of' (h : Ow e T w base v xs) (h' : Ow f U w' base' v' ys) (hb : w.heap.size ≤ base') : Apart v' v := by
  cases hv : v'.ownBlock with
  | none => exact .inl hv
  | some k =>
    refine .inr ?_
    rw [hv]
    intro he
    have h1 := (h.lt k he.symm).2
    have h2 := (h'.lt k hv).1
    omega
theorem Ow.apart (h : Ow e T w base v xs) (hg : w.grownBy w' v'.ownBlock) (ha : Apart v v') : Ow e T w' base v xs := h.grown hg ha
theorem Ext.mark {w0 : World} (h : Ext w0 w) (hO : Ow e T w1 base v xs) (hb : w0.heap.size ≤ base) (hg : w.grownBy w' v.ownBlock) : Ext w0 w' :=
  h.trans' hg (fun k hk => Nat.le_trans hb (hO.lt k hk).1)
theorem Ow.rdA {A : Option Addr} {n cap : Nat} (h : Ow e T w base (.slice A n cap) xs) : Rd e w A xs := by
  obtain ⟨A', c, h1, _, h2⟩ := h.slice
  simp only [Value.slice.injEq] at h1
  obtain ⟨rfl, _⟩ := h1
  exact h2
end
end Go.Proofs.YtegopgpnjgikeaaDoor
set_option linter.unusedVariables false
set_option linter.unusedSimpArgs false
set_option maxRecDepth 100000
namespace Go.Proofs.YtegopgpnjgikeaaDoor
open Go.RowKit
/-- A field's value in a mask, -1 if there is none. -/
def valF (m : Mask) (f : Fld) : Int := if (valueF f m).2 = 6 then -1 else (valueF f m).1
/-- Can a field be read? -/
def readsB (m : Mask) (f : Fld) : Bool := !decide ((valueF f m).2 = 8)
/-- What ValuesOf returns. -/
def valuesF (xs : List Fld) (c : Crd) : List Int × Int :=
  if (schB xs && isCardB c) = true then (if xs.all (readsB c.m) = true then (xs.map (valF c.m), 0) else ([], 8)) else ([], 1)
theorem values_bad {xs : List Fld} {c : Crd} (h : (schB xs && isCardB c) = false) : valuesF xs c = ([], 1) := by unfold valuesF; rw [h]; rfl
theorem values_err {xs : List Fld} {c : Crd} (h : (schB xs && isCardB c) = true) (k : Nat) (hk : k < xs.length) (h8 : (valueF xs[k] c.m).2 = 8) : valuesF xs c = ([], 8) := by
  unfold valuesF
  rw [if_pos h, all_miss (readsB c.m) xs k hk (by unfold readsB; rw [decide_eq_true h8]; rfl)]
  rfl
theorem values_good {xs : List Fld} {c : Crd} (h : (schB xs && isCardB c) = true) (ha : xs.all (readsB c.m) = true) : valuesF xs c = (xs.map (valF c.m), 0) := by unfold valuesF; rw [if_pos h, if_pos ha]
theorem values_len (xs : List Fld) (c : Crd) (h : xs.length ≤ 1048576) : (valuesF xs c).1.length ≤ 1048576 := by
  unfold valuesF
  split
  · split
    · simpa using h
    · simp
  · simp
theorem map_take_succ {α β : Type} (f : α → β) (xs : List α) (k : Nat) (hk : k < xs.length) : (xs.take (k + 1)).map f = (xs.take k).map f ++ [f xs[k]] := by rw [List.take_succ_eq_append_getElem hk, List.map_append]; rfl
attribute [irreducible] valuesF
end Go.Proofs.YtegopgpnjgikeaaDoor
set_option linter.unusedVariables false
set_option linter.unusedSimpArgs false
set_option maxRecDepth 100000
namespace Go.Proofs.YtegopgpnjgikeaaDoor
open Go.RowKit
theorem eqA_Wear (d : Nat) (a b c f a' b' c' f' : Int) (w : World) :
    (Op.equalIn (d + 3) 54 (.agg #[.int .u64 a, .int .u64 b, .int .u64 c, .int .u64 f]) (.agg #[.int .u64 a', .int .u64 b', .int .u64 c', .int .u64 f'])).run Tryd.prog w = .ok ((a == a' && b == b') && (c == c' && f == f')) w := by
  have e := eqA_Mask d
  rw [Op.equalIn]
  simp only [Sem.run_bind, run_underlying Tryd.underlying54, Result.andThen_ok, Std.Legacy.Range.forIn_eq_forIn_range', Std.Legacy.Range.size]
  go_simp
  by_cases h1 : a = a' <;> by_cases h2 : b = b' <;> by_cases h3 : c = c' <;> by_cases h4 : f = f' <;> simp [h1, h2, h3, h4]
theorem eqA_Card (d : Nat) (a a' : ByteArray) (c f c' f' : Int) (w : World) :
    (Op.equalIn (d + 3) 60 (.agg #[.string a, .int .u64 c, .int .u64 f]) (.agg #[.string a', .int .u64 c', .int .u64 f'])).run Tryd.prog w = .ok ((a.toList == a'.toList) && (c == c' && f == f')) w := by
  have e := eqA_Mask d
  rw [Op.equalIn]
  simp only [Sem.run_bind, run_underlying Tryd.underlying60, Result.andThen_ok, Std.Legacy.Range.forIn_eq_forIn_range', Std.Legacy.Range.size]
  go_simp
  by_cases h1 : a.toList = a'.toList <;> by_cases h3 : c = c' <;> by_cases h4 : f = f' <;> simp [h1, h3, h4]
end Go.Proofs.YtegopgpnjgikeaaDoor
set_option linter.unusedVariables false
set_option linter.unusedSimpArgs false
set_option maxRecDepth 100000
namespace Go.Proofs.YtegopgpnjgikeaaDoor
open Go.RowKit
theorem impl_MostOf (f : Fld) (hf : fldB f = true) (hin : FldIn f) (w : World) :
    Calls Tryd.prog 22 #[.agg #[.string f.nm, .int .i8 f.kd, .int .i16 f.st, .int .i16 f.sz]] w fun e w' => e = .returned (.tuple #[.int .i64 (mostF f), .int .i64 0]) ∧ Ext w w' := by
  have h1 := fun W => isField_in f hin W
  rw [hf] at h1
  obtain ⟨_, k0, k3, s0, z0, z1, z2⟩ := fldB_parts hf
  have h2 := fun W => impl_most f.nm f.kd f.st f.sz k0 k3 z0 z1 W
  have hX : BoxAt (w.alloc (.cells #[.string f.nm, .int .i8 f.kd, .int .i16 f.st, .int .i16 f.sz] 48)) w.heap.size #[.string f.nm, .int .i8 f.kd, .int .i16 f.st, .int .i16 f.sz] 48 := BoxAt.new' rfl
  go_enter Tryd.func22, Tryd.ntmps22
  go_wp2_with fail
  refine Calls.mono (h1 _) ?_
  rintro e w1 ⟨rfl, hb1⟩
  replace hX := hX.ext hb1
  have x0 : w1.cell? ⟨w.heap.size, 0, none⟩ = some (.string f.nm) := hX.cell 0
  have x1 : w1.cell? ⟨w.heap.size, 1, none⟩ = some (.int .i8 f.kd) := hX.cell 1
  have x2 : w1.cell? ⟨w.heap.size, 2, none⟩ = some (.int .i16 f.st) := hX.cell 2
  have x3 : w1.cell? ⟨w.heap.size, 3, none⟩ = some (.int .i16 f.sz) := hX.cell 3
  have lx := hX.lt
  go_wp2_with fail
  refine Calls.mono (h2 _) ?_
  rintro e w2 ⟨rfl, hb2⟩
  go_wp2
  go_ret2
  exact ⟨rfl, (((Ext.refl w).alloc _).trans hb1).trans hb2⟩
theorem impl_IsWithin (a b : Mask) (w : World) :
    Calls Tryd.prog 95 #[.agg #[.int .u64 (lo a), .int .u64 (hi a)], .agg #[.int .u64 (lo b), .int .u64 (hi b)]] w fun e w' => e = .returned (.bool (mzero (mless a b))) ∧ Ext w w' := by
  have h1 := fun W => impl_LessMask a b W
  have e1 := lohi_zero (mless a b)
  have e2 := eqA_Mask
  generalize mless a b = q at h1 e1 ⊢
  go_enter Tryd.func95, Tryd.ntmps95
  go_wp2_with fail
  refine Calls.mono (h1 _) ?_
  rintro e w1 ⟨rfl, hb1⟩
  go_wp2
  go_ret
  exact ⟨rfl, ((((Ext.refl w).alloc _).alloc _)).trans hb1⟩
theorem spec_EncodeField (f : Fld) (hf : fldB f = true) (hin : FldIn f) (v : Int) (v0 : 0 ≤ v) (v1 : v ≤ mostF f) (w : World) :
    Calls Tryd.prog 29 #[.agg #[.string f.nm, .int .i8 f.kd, .int .i16 f.st, .int .i16 f.sz], .int .i64 v] w fun e w' => e = .returned (.tuple #[.agg #[.int .u64 (lo (codeF f v)), .int .u64 (hi (codeF f v))], .int .i64 0]) ∧ Ext w w' := by
  have h1 := fun b o W h => l01Field_in f hin b o W h
  rw [hf] at h1
  have h2 := fun b o W h => spec_l01Most f hf b o W h
  have h3 := fun b o W h => spec_l01Code f hf v v0 v1 b o W h
  generalize codeF f v = p at h3 ⊢
  have h4 := fun W => spec_l00In v 0 (mostF f) W
  rw [show inB v 0 (mostF f) = true by unfold inB; rw [decide_eq_true v0, decide_eq_true v1]; rfl] at h4
  generalize mostF f = mo at h2 h4
  have hX : BoxAt ((w.alloc (.cells #[.string f.nm, .int .i8 f.kd, .int .i16 f.st, .int .i16 f.sz] 48)).alloc (.cells #[.int .u64 0, .int .u64 0] 33)) w.heap.size #[.string f.nm, .int .i8 f.kd, .int .i16 f.st, .int .i16 f.sz] 48 := (BoxAt.new' rfl).alloc _
  have hF : FldAt ((w.alloc (.cells #[.string f.nm, .int .i8 f.kd, .int .i16 f.st, .int .i16 f.sz] 48)).alloc (.cells #[.int .u64 0, .int .u64 0] 33)) w.heap.size 0 f := ⟨hX.cell 0, hX.cell 1, hX.cell 2, hX.cell 3⟩
  have hY : BoxAt ((w.alloc (.cells #[.string f.nm, .int .i8 f.kd, .int .i16 f.st, .int .i16 f.sz] 48)).alloc (.cells #[.int .u64 0, .int .u64 0] 33)) (w.heap.size + 1) #[.int .u64 0, .int .u64 0] 33 := BoxAt.new' (by simp)
  go_enter Tryd.func29, Tryd.ntmps29
  go_wp2_with fail
  refine Calls.mono (h1 _ _ _ hF) ?_
  rintro e w1 ⟨rfl, hb1⟩
  go_wp2_with fail
  refine Calls.mono (h2 _ _ _ (hF.ext hb1)) ?_
  rintro e w2 ⟨rfl, hb2⟩
  go_wp2_with fail
  refine Calls.mono (h4 _) ?_
  rintro e w3 ⟨rfl, hb3⟩
  go_wp2_with fail
  refine Calls.mono (h3 _ _ _ (((hF.ext hb1).ext hb2).ext hb3)) ?_
  rintro e w4 ⟨rfl, hb4⟩
  replace hY := (((hY.ext hb1).ext hb2).ext hb3).ext hb4
  have hw := ((((((Ext.refl w).alloc (.cells #[.string f.nm, .int .i8 f.kd, .int .i16 f.st, .int .i16 f.sz] 48)).alloc (.cells #[.int .u64 0, .int .u64 0] 33)).trans hb1).trans hb2).trans hb3).trans hb4
  clear hX hF hb1 hb2 hb3 hb4 h1 h2 h3 h4 v0 v1
  have ry0 : w4.cell? ⟨w.heap.size + 1, 0, none⟩ = some (.int .u64 0) := hY.cell 0
  have ry1 : w4.cell? ⟨w.heap.size + 1, 1, none⟩ = some (.int .u64 0) := hY.cell 1
  have rf0 := hY.frozen 0
  have rf1 := hY.frozen 1
  have rl := hY.lt
  go_wp2
  have rYf := ((hY.set 0 (.int .u64 (lo p))).set 1 (.int .u64 (hi p)))
  clear ry0 rf0 ry1 rf1
  have rc0 : World.cell? _ ⟨w.heap.size + 1, 0, none⟩ = some (.int .u64 (lo p)) := rYf.cell 0
  have rc1 : World.cell? _ ⟨w.heap.size + 1, 1, none⟩ = some (.int .u64 (hi p)) := rYf.cell 1
  refine bodyPost_ret (v := .tuple #[.agg #[.int .u64 (lo p), .int .u64 (hi p)], .int .i64 0]) (by simp [results, Tryd.results29, go_sem, rc0, rc1]) rfl ⟨rfl, ?_⟩
  exact Ext.set (by dsimp only; omega) (Ext.set (by dsimp only; omega) (hw) _) _
end Go.Proofs.YtegopgpnjgikeaaDoor
set_option linter.unusedVariables false
set_option linter.unusedSimpArgs false
set_option maxRecDepth 100000
namespace Go.Proofs.YtegopgpnjgikeaaDoor
open Go.RowKit
def fieldT : ByteArray := ⟨#[102, 105, 101, 108, 100]⟩
theorem fieldT_ok : isNameB fieldT = true := by decide +kernel
theorem spec_PartOf (f : Fld) (hf : fldB f = true) (hin : FldIn f) (w : World) :
    Calls Tryd.prog 31 #[.agg #[.string f.nm, .int .i8 f.kd, .int .i16 f.st, .int .i16 f.sz]] w fun e w' => e = .returned (.tuple #[.agg #[.int .u64 (lo (partF f)), .int .u64 (hi (partF f))], .int .i64 0]) ∧ Ext w w' := by
  have h1 := fun b o W h => l01Field_in f hin b o W h
  rw [hf] at h1
  have h2 := fun b o W h => spec_l01Part f hf b o W h
  generalize partF f = p at h2 ⊢
  have hX : BoxAt ((w.alloc (.cells #[.string f.nm, .int .i8 f.kd, .int .i16 f.st, .int .i16 f.sz] 48)).alloc (.cells #[.int .u64 0, .int .u64 0] 33)) w.heap.size #[.string f.nm, .int .i8 f.kd, .int .i16 f.st, .int .i16 f.sz] 48 := (BoxAt.new' rfl).alloc _
  have hF : FldAt ((w.alloc (.cells #[.string f.nm, .int .i8 f.kd, .int .i16 f.st, .int .i16 f.sz] 48)).alloc (.cells #[.int .u64 0, .int .u64 0] 33)) w.heap.size 0 f := ⟨hX.cell 0, hX.cell 1, hX.cell 2, hX.cell 3⟩
  have hY : BoxAt ((w.alloc (.cells #[.string f.nm, .int .i8 f.kd, .int .i16 f.st, .int .i16 f.sz] 48)).alloc (.cells #[.int .u64 0, .int .u64 0] 33)) (w.heap.size + 1) #[.int .u64 0, .int .u64 0] 33 := BoxAt.new' (by simp)
  go_enter Tryd.func31, Tryd.ntmps31
  go_wp2_with fail
  refine Calls.mono (h1 _ _ _ hF) ?_
  rintro e w1 ⟨rfl, hb1⟩
  go_wp2_with fail
  refine Calls.mono (h2 _ _ _ (hF.ext hb1)) ?_
  rintro e w2 ⟨rfl, hb2⟩
  replace hY := (hY.ext hb1).ext hb2
  have hw := ((((Ext.refl w).alloc (.cells #[.string f.nm, .int .i8 f.kd, .int .i16 f.st, .int .i16 f.sz] 48)).alloc (.cells #[.int .u64 0, .int .u64 0] 33)).trans hb1).trans hb2
  clear hX hF hb1 hb2 h1 h2
  have ry0 : w2.cell? ⟨w.heap.size + 1, 0, none⟩ = some (.int .u64 0) := hY.cell 0
  have ry1 : w2.cell? ⟨w.heap.size + 1, 1, none⟩ = some (.int .u64 0) := hY.cell 1
  have rf0 := hY.frozen 0
  have rf1 := hY.frozen 1
  have rl := hY.lt
  go_wp2
  have rYf := ((hY.set 0 (.int .u64 (lo p))).set 1 (.int .u64 (hi p)))
  clear ry0 rf0 ry1 rf1
  have rc0 : World.cell? _ ⟨w.heap.size + 1, 0, none⟩ = some (.int .u64 (lo p)) := rYf.cell 0
  have rc1 : World.cell? _ ⟨w.heap.size + 1, 1, none⟩ = some (.int .u64 (hi p)) := rYf.cell 1
  refine bodyPost_ret (v := .tuple #[.agg #[.int .u64 (lo p), .int .u64 (hi p)], .int .i64 0]) (by simp [results, Tryd.results31, go_sem, rc0, rc1]) rfl ⟨rfl, ?_⟩
  exact Ext.set (by dsimp only; omega) (Ext.set (by dsimp only; omega) (hw) _) _
set_option maxHeartbeats 4000000 in
theorem spec_P6Field (cs : List UInt8) (A : Option Addr) (cap : Nat) (w : World) (hR : Rd encU8 w A cs) (hn : cs.length ≤ 1099511627776) :
    Calls Tryd.prog 21 #[.slice A cs.length cap] w fun e w' => ∃ f : Fld, e = .returned (.agg #[.string f.nm, .int .i8 f.kd, .int .i16 f.st, .int .i16 f.sz]) ∧ DrawnF f ∧ Ext w w' := by
  have hf := spec_l00From cs A cap w _ hR hn ((Ext.refl w).alloc (.cells #[.string ⟨#[]⟩, .int .i8 0, .int .i16 0, .int .i16 0] 48))
  go_enter Tryd.func21, Tryd.ntmps21
  go_wp2_with fail
  refine Calls.mono hf ?_
  rintro e w1 ⟨b, rfl, hS, hb, hE1⟩
  have hc := src_pick _ b 0 4 (by omega) w1 hS (by omega)
  have hY1 : BoxAt w1 w.heap.size #[.string ⟨#[]⟩, .int .i8 0, .int .i16 0, .int .i16 0] 48 := (BoxAt.new' rfl).ext hE1
  simp only [World.size_alloc] at hb
  have hw1 := ((Ext.refl w).alloc (.cells #[.string ⟨#[]⟩, .int .i8 0, .int .i16 0, .int .i16 0] 48)).trans hE1
  clear hf hE1
  go_wp2_with fail
  refine Calls.mono hc ?_
  rintro e w2 ⟨kd, rfl, k0, k1, hS2, hW2⟩
  have hw2 := hw1.win hW2 (by omega)
  have hY2 := hY1.win hW2 (.inl (by omega))
  clear hc hW2 hw1 hS hY1
  have lS2 := hS2.lt
  have w8 : IntKind.i8.wrap kd = kd := IntWalk.i8_in _ (by omega)
  have lw := hw2.size
  rcases (show kd = 0 ∨ kd = 1 ∨ kd = 2 ∨ kd = 3 by omega) with rfl | rfl | rfl | rfl
  · go_wp2_with fail
    refine intro_world (R := fun W => Calls _ _ _ W _) (fun W3 hN => ?_)
    have e3 : Ext w2 W3 := by rw [hN]; exact (Ext.refl _).alloc _
    have hX3 : BoxAt W3 w2.heap.size #[.string fieldT, .int .i8 0, .int .i16 0, .int .i16 1] 48 := by rw [hN]; exact BoxAt.new' rfl
    have hS3 := hS2.ext e3
    have hY3 := hY2.ext e3
    have hw3 := hw2.trans e3
    clear hN
    refine Calls.mono (src_pick _ b _ 12 (by omega) W3 hS3 (by omega)) ?_
    rintro e w4 ⟨r, rfl, r0, r1, hS4, hW4⟩
    have hX4 := hX3.win hW4 (.inr (by omega))
    have hY4 := hY3.win hW4 (.inl (by omega))
    have hw4 := hw3.win hW4 (by omega)
    have w4n := hw4.size
    clear hX3 hY3 hS3 hW4 hw3
    have e1 : IntKind.i64.wrap (1 + r) = 1 + r := IntWalk.i64_in _ (by omega)
    have e2 : IntKind.i16.wrap (1 + r) = 1 + r := IntWalk.i16_in _ (by omega)
    have hsh : shapeB 0 (1 + r) = true := shape_of (by omega) (by omega) (by omega) (by omega) (by omega) (by omega) (by omega)
    have z0 : World.cell? w4 ⟨w2.heap.size, 3, none⟩ = some (.int .i16 1) := hX4.cell 3
    have zf := hX4.frozen 3
    have lX := hX4.lt
    go_wp2_with fail
    refine intro_world (R := fun W => Calls _ _ _ W _) (fun W5 hN => ?_)
    have hX5 : BoxAt W5 w2.heap.size #[.string fieldT, .int .i8 0, .int .i16 0, .int .i16 (1 + r)] 48 := by rw [hN]; exact hX4.set 3 _
    have hS5 : Src W5 w.heap.size b 4 := by rw [hN]; exact hS4.set (p := ⟨w2.heap.size, 3, none⟩) (show w.heap.size ≤ w2.heap.size by exact hw2.size) (show w2.heap.size ≠ b by omega) _
    have hw5 : Ext w W5 := by rw [hN]; exact Ext.set (p := ⟨w2.heap.size, 3, none⟩) (show w.heap.size ≤ w2.heap.size by exact hw2.size) hw4 _
    have hY5 : BoxAt W5 w.heap.size #[.string ⟨#[]⟩, .int .i8 0, .int .i16 0, .int .i16 0] 48 := by rw [hN]; exact hY4.setOther (p := ⟨w2.heap.size, 3, none⟩) (show w.heap.size ≠ w2.heap.size by omega) _
    clear hN z0 zf lX hX4 hY4 hS4 hw4
    have hF5 : FldAt W5 w2.heap.size 0 ⟨fieldT, 0, 0, 1 + r⟩ := ⟨hX5.cell 0, hX5.cell 1, hX5.cell 2, hX5.cell 3⟩
    have hwd := spec_l01Width w2.heap.size 0 ⟨fieldT, 0, 0, 1 + r⟩ (by dsimp only; omega) (by dsimp only; omega) W5 hF5
    obtain ⟨_, _, _, _, m1, m12⟩ := shape_wide hsh
    have hgood := fun (st : Int) (s0 : 0 ≤ st) (s1 : st + manyF 0 (1 + r) ≤ 96) => drawn_fld fieldT_ok hsh s0 s1
    dsimp only at hwd
    generalize manyF 0 (1 + r) = m at m1 m12 hwd hgood
    refine Calls.mono hwd ?_
    rintro e w6 ⟨rfl, hb6⟩
    have hX6 := hX5.ext hb6
    have hY6 := hY5.ext hb6
    have hS6 := hS5.ext hb6
    have hw6 := hw5.trans hb6
    clear hF5 hwd hX5 hY5 hS5 hw5 hb6 hsh
    have e3 : IntKind.i64.wrap (96 - m) = 96 - m := IntWalk.i64_in _ (by omega)
    have e4 : IntKind.i64.wrap (96 - m + 1) = 96 - m + 1 := IntWalk.i64_in _ (by omega)
    go_wp2_with fail
    refine Calls.mono (src_pick _ b _ (96 - m + 1) (by omega) w6 hS6 (by omega)) ?_
    rintro e w7 ⟨q, rfl, q0, q1, hS7, hW7⟩
    have hX7 := hX6.win hW7 (.inr (by omega))
    have hY7 := hY6.win hW7 (.inl (by omega))
    have hw7 := hw6.win hW7 (by omega)
    clear hX6 hY6 hS6 hW7 hw6 hS7
    have e5 : IntKind.i16.wrap q = q := IntWalk.i16_in _ (by omega)
    have hG := hgood q q0 (by omega)
    have z0 : World.cell? w7 ⟨w2.heap.size, 0, none⟩ = some (.string fieldT) := hX7.cell 0
    have z1 : World.cell? w7 ⟨w2.heap.size, 1, none⟩ = some (.int .i8 0) := hX7.cell 1
    have z2 : World.cell? w7 ⟨w2.heap.size, 2, none⟩ = some (.int .i16 0) := hX7.cell 2
    have z3 : World.cell? w7 ⟨w2.heap.size, 3, none⟩ = some (.int .i16 (1 + r)) := hX7.cell 3
    have zf := hX7.frozen 2
    have lX := hX7.lt
    have hwE := Ext.set (p := ⟨w2.heap.size, 2, none⟩) (show w.heap.size ≤ w2.heap.size by exact hw2.size) hw7 (.int .i16 q)
    have hYf := ((((hY7.setOther (p := ⟨w2.heap.size, 2, none⟩) (show w.heap.size ≠ w2.heap.size by omega) (.int .i16 q)).set 0 (.string fieldT)).set 1 (.int .i8 0)).set 2 (.int .i16 q)).set 3 (.int .i16 (1 + r))
    have t0 : World.cell? w7 ⟨w.heap.size, 0, none⟩ = some (.string ⟨#[]⟩) := hY7.cell 0
    have t1 : World.cell? w7 ⟨w.heap.size, 1, none⟩ = some (.int .i8 0) := hY7.cell 1
    have t2 : World.cell? w7 ⟨w.heap.size, 2, none⟩ = some (.int .i16 0) := hY7.cell 2
    have t3 : World.cell? w7 ⟨w.heap.size, 3, none⟩ = some (.int .i16 0) := hY7.cell 3
    have tf0 := hY7.frozen 0
    have tf1 := hY7.frozen 1
    have tf2 := hY7.frozen 2
    have tf3 := hY7.frozen 3
    have lY := hY7.lt
    have hneq : ¬ w2.heap.size = w.heap.size := by omega
    have hneq2 : ¬ w.heap.size = w2.heap.size := by omega
    clear hX7 hS2 hY7 hY2
    go_wp2
    clear z0 z1 z2 z3 zf lX t0 t1 t2 t3 tf0 tf1 tf2 tf3 lY
    have c0 : World.cell? _ ⟨w.heap.size, 0, none⟩ = some (.string fieldT) := hYf.cell 0
    have c1 : World.cell? _ ⟨w.heap.size, 1, none⟩ = some (.int .i8 0) := hYf.cell 1
    have c2 : World.cell? _ ⟨w.heap.size, 2, none⟩ = some (.int .i16 q) := hYf.cell 2
    have c3 : World.cell? _ ⟨w.heap.size, 3, none⟩ = some (.int .i16 (1 + r)) := hYf.cell 3
    refine bodyPost_ret (v := .agg #[.string fieldT, .int .i8 0, .int .i16 q, .int .i16 (1 + r)]) (by simp [results, Tryd.results21, go_sem, c0, c1, c2, c3]) rfl ⟨⟨fieldT, 0, q, 1 + r⟩, rfl, hG, ?_⟩
    exact Ext.set (Nat.le_refl _) (Ext.set (Nat.le_refl _) (Ext.set (Nat.le_refl _) (Ext.set (Nat.le_refl _) hwE _) _) _) _
  · go_wp2_with fail
    refine intro_world (R := fun W => Calls _ _ _ W _) (fun W3 hN => ?_)
    have e3 : Ext w2 W3 := by rw [hN]; exact (Ext.refl _).alloc _
    have hX3 : BoxAt W3 w2.heap.size #[.string fieldT, .int .i8 1, .int .i16 0, .int .i16 1] 48 := by rw [hN]; exact BoxAt.new' rfl
    have hS3 := hS2.ext e3
    have hY3 := hY2.ext e3
    have hw3 := hw2.trans e3
    clear hN
    refine Calls.mono (src_pick _ b _ 2 (by omega) W3 hS3 (by omega)) ?_
    rintro e w4 ⟨r, rfl, r0, r1, hS4, hW4⟩
    have hX4 := hX3.win hW4 (.inr (by omega))
    have hY4 := hY3.win hW4 (.inl (by omega))
    have hw4 := hw3.win hW4 (by omega)
    have w4n := hw4.size
    clear hX3 hY3 hS3 hW4 hw3
    have e1 : IntKind.i64.wrap (1 + r) = 1 + r := IntWalk.i64_in _ (by omega)
    have e2 : IntKind.i16.wrap (1 + r) = 1 + r := IntWalk.i16_in _ (by omega)
    have hsh : shapeB 1 (1 + r) = true := shape_of (by omega) (by omega) (by omega) (by omega) (by omega) (by omega) (by omega)
    have z0 : World.cell? w4 ⟨w2.heap.size, 3, none⟩ = some (.int .i16 1) := hX4.cell 3
    have zf := hX4.frozen 3
    have lX := hX4.lt
    go_wp2_with fail
    refine intro_world (R := fun W => Calls _ _ _ W _) (fun W5 hN => ?_)
    have hX5 : BoxAt W5 w2.heap.size #[.string fieldT, .int .i8 1, .int .i16 0, .int .i16 (1 + r)] 48 := by rw [hN]; exact hX4.set 3 _
    have hS5 : Src W5 w.heap.size b 4 := by rw [hN]; exact hS4.set (p := ⟨w2.heap.size, 3, none⟩) (show w.heap.size ≤ w2.heap.size by exact hw2.size) (show w2.heap.size ≠ b by omega) _
    have hw5 : Ext w W5 := by rw [hN]; exact Ext.set (p := ⟨w2.heap.size, 3, none⟩) (show w.heap.size ≤ w2.heap.size by exact hw2.size) hw4 _
    have hY5 : BoxAt W5 w.heap.size #[.string ⟨#[]⟩, .int .i8 0, .int .i16 0, .int .i16 0] 48 := by rw [hN]; exact hY4.setOther (p := ⟨w2.heap.size, 3, none⟩) (show w.heap.size ≠ w2.heap.size by omega) _
    clear hN z0 zf lX hX4 hY4 hS4 hw4
    have hF5 : FldAt W5 w2.heap.size 0 ⟨fieldT, 1, 0, 1 + r⟩ := ⟨hX5.cell 0, hX5.cell 1, hX5.cell 2, hX5.cell 3⟩
    have hwd := spec_l01Width w2.heap.size 0 ⟨fieldT, 1, 0, 1 + r⟩ (by dsimp only; omega) (by dsimp only; omega) W5 hF5
    obtain ⟨_, _, _, _, m1, m12⟩ := shape_wide hsh
    have hgood := fun (st : Int) (s0 : 0 ≤ st) (s1 : st + manyF 1 (1 + r) ≤ 96) => drawn_fld fieldT_ok hsh s0 s1
    dsimp only at hwd
    generalize manyF 1 (1 + r) = m at m1 m12 hwd hgood
    refine Calls.mono hwd ?_
    rintro e w6 ⟨rfl, hb6⟩
    have hX6 := hX5.ext hb6
    have hY6 := hY5.ext hb6
    have hS6 := hS5.ext hb6
    have hw6 := hw5.trans hb6
    clear hF5 hwd hX5 hY5 hS5 hw5 hb6 hsh
    have e3 : IntKind.i64.wrap (96 - m) = 96 - m := IntWalk.i64_in _ (by omega)
    have e4 : IntKind.i64.wrap (96 - m + 1) = 96 - m + 1 := IntWalk.i64_in _ (by omega)
    go_wp2_with fail
    refine Calls.mono (src_pick _ b _ (96 - m + 1) (by omega) w6 hS6 (by omega)) ?_
    rintro e w7 ⟨q, rfl, q0, q1, hS7, hW7⟩
    have hX7 := hX6.win hW7 (.inr (by omega))
    have hY7 := hY6.win hW7 (.inl (by omega))
    have hw7 := hw6.win hW7 (by omega)
    clear hX6 hY6 hS6 hW7 hw6 hS7
    have e5 : IntKind.i16.wrap q = q := IntWalk.i16_in _ (by omega)
    have hG := hgood q q0 (by omega)
    have z0 : World.cell? w7 ⟨w2.heap.size, 0, none⟩ = some (.string fieldT) := hX7.cell 0
    have z1 : World.cell? w7 ⟨w2.heap.size, 1, none⟩ = some (.int .i8 1) := hX7.cell 1
    have z2 : World.cell? w7 ⟨w2.heap.size, 2, none⟩ = some (.int .i16 0) := hX7.cell 2
    have z3 : World.cell? w7 ⟨w2.heap.size, 3, none⟩ = some (.int .i16 (1 + r)) := hX7.cell 3
    have zf := hX7.frozen 2
    have lX := hX7.lt
    have hwE := Ext.set (p := ⟨w2.heap.size, 2, none⟩) (show w.heap.size ≤ w2.heap.size by exact hw2.size) hw7 (.int .i16 q)
    have hYf := ((((hY7.setOther (p := ⟨w2.heap.size, 2, none⟩) (show w.heap.size ≠ w2.heap.size by omega) (.int .i16 q)).set 0 (.string fieldT)).set 1 (.int .i8 1)).set 2 (.int .i16 q)).set 3 (.int .i16 (1 + r))
    have t0 : World.cell? w7 ⟨w.heap.size, 0, none⟩ = some (.string ⟨#[]⟩) := hY7.cell 0
    have t1 : World.cell? w7 ⟨w.heap.size, 1, none⟩ = some (.int .i8 0) := hY7.cell 1
    have t2 : World.cell? w7 ⟨w.heap.size, 2, none⟩ = some (.int .i16 0) := hY7.cell 2
    have t3 : World.cell? w7 ⟨w.heap.size, 3, none⟩ = some (.int .i16 0) := hY7.cell 3
    have tf0 := hY7.frozen 0
    have tf1 := hY7.frozen 1
    have tf2 := hY7.frozen 2
    have tf3 := hY7.frozen 3
    have lY := hY7.lt
    have hneq : ¬ w2.heap.size = w.heap.size := by omega
    have hneq2 : ¬ w.heap.size = w2.heap.size := by omega
    clear hX7 hS2 hY7 hY2
    go_wp2
    clear z0 z1 z2 z3 zf lX t0 t1 t2 t3 tf0 tf1 tf2 tf3 lY
    have c0 : World.cell? _ ⟨w.heap.size, 0, none⟩ = some (.string fieldT) := hYf.cell 0
    have c1 : World.cell? _ ⟨w.heap.size, 1, none⟩ = some (.int .i8 1) := hYf.cell 1
    have c2 : World.cell? _ ⟨w.heap.size, 2, none⟩ = some (.int .i16 q) := hYf.cell 2
    have c3 : World.cell? _ ⟨w.heap.size, 3, none⟩ = some (.int .i16 (1 + r)) := hYf.cell 3
    refine bodyPost_ret (v := .agg #[.string fieldT, .int .i8 1, .int .i16 q, .int .i16 (1 + r)]) (by simp [results, Tryd.results21, go_sem, c0, c1, c2, c3]) rfl ⟨⟨fieldT, 1, q, 1 + r⟩, rfl, hG, ?_⟩
    exact Ext.set (Nat.le_refl _) (Ext.set (Nat.le_refl _) (Ext.set (Nat.le_refl _) (Ext.set (Nat.le_refl _) hwE _) _) _) _
  · go_wp2_with fail
    refine intro_world (R := fun W => Calls _ _ _ W _) (fun W3 hN => ?_)
    have e3 : Ext w2 W3 := by rw [hN]; exact (Ext.refl _).alloc _
    have hX3 : BoxAt W3 w2.heap.size #[.string fieldT, .int .i8 2, .int .i16 0, .int .i16 1] 48 := by rw [hN]; exact BoxAt.new' rfl
    have hS3 := hS2.ext e3
    have hY3 := hY2.ext e3
    have hw3 := hw2.trans e3
    clear hN
    refine Calls.mono (src_pick _ b _ 2 (by omega) W3 hS3 (by omega)) ?_
    rintro e w4 ⟨r, rfl, r0, r1, hS4, hW4⟩
    have hX4 := hX3.win hW4 (.inr (by omega))
    have hY4 := hY3.win hW4 (.inl (by omega))
    have hw4 := hw3.win hW4 (by omega)
    have w4n := hw4.size
    clear hX3 hY3 hS3 hW4 hw3
    have e1 : IntKind.i64.wrap (1 + r) = 1 + r := IntWalk.i64_in _ (by omega)
    have e2 : IntKind.i16.wrap (1 + r) = 1 + r := IntWalk.i16_in _ (by omega)
    have hsh : shapeB 2 (1 + r) = true := shape_of (by omega) (by omega) (by omega) (by omega) (by omega) (by omega) (by omega)
    have z0 : World.cell? w4 ⟨w2.heap.size, 3, none⟩ = some (.int .i16 1) := hX4.cell 3
    have zf := hX4.frozen 3
    have lX := hX4.lt
    go_wp2_with fail
    refine intro_world (R := fun W => Calls _ _ _ W _) (fun W5 hN => ?_)
    have hX5 : BoxAt W5 w2.heap.size #[.string fieldT, .int .i8 2, .int .i16 0, .int .i16 (1 + r)] 48 := by rw [hN]; exact hX4.set 3 _
    have hS5 : Src W5 w.heap.size b 4 := by rw [hN]; exact hS4.set (p := ⟨w2.heap.size, 3, none⟩) (show w.heap.size ≤ w2.heap.size by exact hw2.size) (show w2.heap.size ≠ b by omega) _
    have hw5 : Ext w W5 := by rw [hN]; exact Ext.set (p := ⟨w2.heap.size, 3, none⟩) (show w.heap.size ≤ w2.heap.size by exact hw2.size) hw4 _
    have hY5 : BoxAt W5 w.heap.size #[.string ⟨#[]⟩, .int .i8 0, .int .i16 0, .int .i16 0] 48 := by rw [hN]; exact hY4.setOther (p := ⟨w2.heap.size, 3, none⟩) (show w.heap.size ≠ w2.heap.size by omega) _
    clear hN z0 zf lX hX4 hY4 hS4 hw4
    have hF5 : FldAt W5 w2.heap.size 0 ⟨fieldT, 2, 0, 1 + r⟩ := ⟨hX5.cell 0, hX5.cell 1, hX5.cell 2, hX5.cell 3⟩
    have hwd := spec_l01Width w2.heap.size 0 ⟨fieldT, 2, 0, 1 + r⟩ (by dsimp only; omega) (by dsimp only; omega) W5 hF5
    obtain ⟨_, _, _, _, m1, m12⟩ := shape_wide hsh
    have hgood := fun (st : Int) (s0 : 0 ≤ st) (s1 : st + manyF 2 (1 + r) ≤ 96) => drawn_fld fieldT_ok hsh s0 s1
    dsimp only at hwd
    generalize manyF 2 (1 + r) = m at m1 m12 hwd hgood
    refine Calls.mono hwd ?_
    rintro e w6 ⟨rfl, hb6⟩
    have hX6 := hX5.ext hb6
    have hY6 := hY5.ext hb6
    have hS6 := hS5.ext hb6
    have hw6 := hw5.trans hb6
    clear hF5 hwd hX5 hY5 hS5 hw5 hb6 hsh
    have e3 : IntKind.i64.wrap (96 - m) = 96 - m := IntWalk.i64_in _ (by omega)
    have e4 : IntKind.i64.wrap (96 - m + 1) = 96 - m + 1 := IntWalk.i64_in _ (by omega)
    go_wp2_with fail
    refine Calls.mono (src_pick _ b _ (96 - m + 1) (by omega) w6 hS6 (by omega)) ?_
    rintro e w7 ⟨q, rfl, q0, q1, hS7, hW7⟩
    have hX7 := hX6.win hW7 (.inr (by omega))
    have hY7 := hY6.win hW7 (.inl (by omega))
    have hw7 := hw6.win hW7 (by omega)
    clear hX6 hY6 hS6 hW7 hw6 hS7
    have e5 : IntKind.i16.wrap q = q := IntWalk.i16_in _ (by omega)
    have hG := hgood q q0 (by omega)
    have z0 : World.cell? w7 ⟨w2.heap.size, 0, none⟩ = some (.string fieldT) := hX7.cell 0
    have z1 : World.cell? w7 ⟨w2.heap.size, 1, none⟩ = some (.int .i8 2) := hX7.cell 1
    have z2 : World.cell? w7 ⟨w2.heap.size, 2, none⟩ = some (.int .i16 0) := hX7.cell 2
    have z3 : World.cell? w7 ⟨w2.heap.size, 3, none⟩ = some (.int .i16 (1 + r)) := hX7.cell 3
    have zf := hX7.frozen 2
    have lX := hX7.lt
    have hwE := Ext.set (p := ⟨w2.heap.size, 2, none⟩) (show w.heap.size ≤ w2.heap.size by exact hw2.size) hw7 (.int .i16 q)
    have hYf := ((((hY7.setOther (p := ⟨w2.heap.size, 2, none⟩) (show w.heap.size ≠ w2.heap.size by omega) (.int .i16 q)).set 0 (.string fieldT)).set 1 (.int .i8 2)).set 2 (.int .i16 q)).set 3 (.int .i16 (1 + r))
    have t0 : World.cell? w7 ⟨w.heap.size, 0, none⟩ = some (.string ⟨#[]⟩) := hY7.cell 0
    have t1 : World.cell? w7 ⟨w.heap.size, 1, none⟩ = some (.int .i8 0) := hY7.cell 1
    have t2 : World.cell? w7 ⟨w.heap.size, 2, none⟩ = some (.int .i16 0) := hY7.cell 2
    have t3 : World.cell? w7 ⟨w.heap.size, 3, none⟩ = some (.int .i16 0) := hY7.cell 3
    have tf0 := hY7.frozen 0
    have tf1 := hY7.frozen 1
    have tf2 := hY7.frozen 2
    have tf3 := hY7.frozen 3
    have lY := hY7.lt
    have hneq : ¬ w2.heap.size = w.heap.size := by omega
    have hneq2 : ¬ w.heap.size = w2.heap.size := by omega
    clear hX7 hS2 hY7 hY2
    go_wp2
    clear z0 z1 z2 z3 zf lX t0 t1 t2 t3 tf0 tf1 tf2 tf3 lY
    have c0 : World.cell? _ ⟨w.heap.size, 0, none⟩ = some (.string fieldT) := hYf.cell 0
    have c1 : World.cell? _ ⟨w.heap.size, 1, none⟩ = some (.int .i8 2) := hYf.cell 1
    have c2 : World.cell? _ ⟨w.heap.size, 2, none⟩ = some (.int .i16 q) := hYf.cell 2
    have c3 : World.cell? _ ⟨w.heap.size, 3, none⟩ = some (.int .i16 (1 + r)) := hYf.cell 3
    refine bodyPost_ret (v := .agg #[.string fieldT, .int .i8 2, .int .i16 q, .int .i16 (1 + r)]) (by simp [results, Tryd.results21, go_sem, c0, c1, c2, c3]) rfl ⟨⟨fieldT, 2, q, 1 + r⟩, rfl, hG, ?_⟩
    exact Ext.set (Nat.le_refl _) (Ext.set (Nat.le_refl _) (Ext.set (Nat.le_refl _) (Ext.set (Nat.le_refl _) hwE _) _) _) _
  · go_wp2_with fail
    refine intro_world (R := fun W => Calls _ _ _ W _) (fun W3 hN => ?_)
    have e3 : Ext w2 W3 := by rw [hN]; exact (Ext.refl _).alloc _
    have hX3 : BoxAt W3 w2.heap.size #[.string fieldT, .int .i8 3, .int .i16 0, .int .i16 1] 48 := by rw [hN]; exact BoxAt.new' rfl
    have hS3 := hS2.ext e3
    have hY3 := hY2.ext e3
    have hw3 := hw2.trans e3
    clear hN
    refine Calls.mono (src_pick _ b _ 6 (by omega) W3 hS3 (by omega)) ?_
    rintro e w4 ⟨r, rfl, r0, r1, hS4, hW4⟩
    have hX4 := hX3.win hW4 (.inr (by omega))
    have hY4 := hY3.win hW4 (.inl (by omega))
    have hw4 := hw3.win hW4 (by omega)
    have w4n := hw4.size
    clear hX3 hY3 hS3 hW4 hw3
    have e1 : IntKind.i64.wrap (1 + r) = 1 + r := IntWalk.i64_in _ (by omega)
    have e2 : IntKind.i16.wrap (1 + r) = 1 + r := IntWalk.i16_in _ (by omega)
    have hsh : shapeB 3 (1 + r) = true := shape_of (by omega) (by omega) (by omega) (by omega) (by omega) (by omega) (by omega)
    have z0 : World.cell? w4 ⟨w2.heap.size, 3, none⟩ = some (.int .i16 1) := hX4.cell 3
    have zf := hX4.frozen 3
    have lX := hX4.lt
    go_wp2_with fail
    refine intro_world (R := fun W => Calls _ _ _ W _) (fun W5 hN => ?_)
    have hX5 : BoxAt W5 w2.heap.size #[.string fieldT, .int .i8 3, .int .i16 0, .int .i16 (1 + r)] 48 := by rw [hN]; exact hX4.set 3 _
    have hS5 : Src W5 w.heap.size b 4 := by rw [hN]; exact hS4.set (p := ⟨w2.heap.size, 3, none⟩) (show w.heap.size ≤ w2.heap.size by exact hw2.size) (show w2.heap.size ≠ b by omega) _
    have hw5 : Ext w W5 := by rw [hN]; exact Ext.set (p := ⟨w2.heap.size, 3, none⟩) (show w.heap.size ≤ w2.heap.size by exact hw2.size) hw4 _
    have hY5 : BoxAt W5 w.heap.size #[.string ⟨#[]⟩, .int .i8 0, .int .i16 0, .int .i16 0] 48 := by rw [hN]; exact hY4.setOther (p := ⟨w2.heap.size, 3, none⟩) (show w.heap.size ≠ w2.heap.size by omega) _
    clear hN z0 zf lX hX4 hY4 hS4 hw4
    have hF5 : FldAt W5 w2.heap.size 0 ⟨fieldT, 3, 0, 1 + r⟩ := ⟨hX5.cell 0, hX5.cell 1, hX5.cell 2, hX5.cell 3⟩
    have hwd := spec_l01Width w2.heap.size 0 ⟨fieldT, 3, 0, 1 + r⟩ (by dsimp only; omega) (by dsimp only; omega) W5 hF5
    obtain ⟨_, _, _, _, m1, m12⟩ := shape_wide hsh
    have hgood := fun (st : Int) (s0 : 0 ≤ st) (s1 : st + manyF 3 (1 + r) ≤ 96) => drawn_fld fieldT_ok hsh s0 s1
    dsimp only at hwd
    generalize manyF 3 (1 + r) = m at m1 m12 hwd hgood
    refine Calls.mono hwd ?_
    rintro e w6 ⟨rfl, hb6⟩
    have hX6 := hX5.ext hb6
    have hY6 := hY5.ext hb6
    have hS6 := hS5.ext hb6
    have hw6 := hw5.trans hb6
    clear hF5 hwd hX5 hY5 hS5 hw5 hb6 hsh
    have e3 : IntKind.i64.wrap (96 - m) = 96 - m := IntWalk.i64_in _ (by omega)
    have e4 : IntKind.i64.wrap (96 - m + 1) = 96 - m + 1 := IntWalk.i64_in _ (by omega)
    go_wp2_with fail
    refine Calls.mono (src_pick _ b _ (96 - m + 1) (by omega) w6 hS6 (by omega)) ?_
    rintro e w7 ⟨q, rfl, q0, q1, hS7, hW7⟩
    have hX7 := hX6.win hW7 (.inr (by omega))
    have hY7 := hY6.win hW7 (.inl (by omega))
    have hw7 := hw6.win hW7 (by omega)
    clear hX6 hY6 hS6 hW7 hw6 hS7
    have e5 : IntKind.i16.wrap q = q := IntWalk.i16_in _ (by omega)
    have hG := hgood q q0 (by omega)
    have z0 : World.cell? w7 ⟨w2.heap.size, 0, none⟩ = some (.string fieldT) := hX7.cell 0
    have z1 : World.cell? w7 ⟨w2.heap.size, 1, none⟩ = some (.int .i8 3) := hX7.cell 1
    have z2 : World.cell? w7 ⟨w2.heap.size, 2, none⟩ = some (.int .i16 0) := hX7.cell 2
    have z3 : World.cell? w7 ⟨w2.heap.size, 3, none⟩ = some (.int .i16 (1 + r)) := hX7.cell 3
    have zf := hX7.frozen 2
    have lX := hX7.lt
    have hwE := Ext.set (p := ⟨w2.heap.size, 2, none⟩) (show w.heap.size ≤ w2.heap.size by exact hw2.size) hw7 (.int .i16 q)
    have hYf := ((((hY7.setOther (p := ⟨w2.heap.size, 2, none⟩) (show w.heap.size ≠ w2.heap.size by omega) (.int .i16 q)).set 0 (.string fieldT)).set 1 (.int .i8 3)).set 2 (.int .i16 q)).set 3 (.int .i16 (1 + r))
    have t0 : World.cell? w7 ⟨w.heap.size, 0, none⟩ = some (.string ⟨#[]⟩) := hY7.cell 0
    have t1 : World.cell? w7 ⟨w.heap.size, 1, none⟩ = some (.int .i8 0) := hY7.cell 1
    have t2 : World.cell? w7 ⟨w.heap.size, 2, none⟩ = some (.int .i16 0) := hY7.cell 2
    have t3 : World.cell? w7 ⟨w.heap.size, 3, none⟩ = some (.int .i16 0) := hY7.cell 3
    have tf0 := hY7.frozen 0
    have tf1 := hY7.frozen 1
    have tf2 := hY7.frozen 2
    have tf3 := hY7.frozen 3
    have lY := hY7.lt
    have hneq : ¬ w2.heap.size = w.heap.size := by omega
    have hneq2 : ¬ w.heap.size = w2.heap.size := by omega
    clear hX7 hS2 hY7 hY2
    go_wp2
    clear z0 z1 z2 z3 zf lX t0 t1 t2 t3 tf0 tf1 tf2 tf3 lY
    have c0 : World.cell? _ ⟨w.heap.size, 0, none⟩ = some (.string fieldT) := hYf.cell 0
    have c1 : World.cell? _ ⟨w.heap.size, 1, none⟩ = some (.int .i8 3) := hYf.cell 1
    have c2 : World.cell? _ ⟨w.heap.size, 2, none⟩ = some (.int .i16 q) := hYf.cell 2
    have c3 : World.cell? _ ⟨w.heap.size, 3, none⟩ = some (.int .i16 (1 + r)) := hYf.cell 3
    refine bodyPost_ret (v := .agg #[.string fieldT, .int .i8 3, .int .i16 q, .int .i16 (1 + r)]) (by simp [results, Tryd.results21, go_sem, c0, c1, c2, c3]) rfl ⟨⟨fieldT, 3, q, 1 + r⟩, rfl, hG, ?_⟩
    exact Ext.set (Nat.le_refl _) (Ext.set (Nat.le_refl _) (Ext.set (Nat.le_refl _) (Ext.set (Nat.le_refl _) hwE _) _) _) _
theorem spec_l00Has (is : List Int) (A : Option Addr) (cap : Nat) (v : Int) (w : World) (hR : Rd encI64 w A is) (hn : is.length ≤ 1048576) :
    Calls Tryd.prog 51 #[.slice A is.length cap, .int .i64 v] w fun e w' => e = .returned (.bool (decide (v ∈ is))) ∧ Ext w w' := by
  have hx := @ExtOf.cell
  go_enter Tryd.func51, Tryd.ntmps51
  go_wp2
  go_loopg [5] is.length (fun g i wr => ∃ k : Nat, g = is.length - k ∧ k ≤ is.length ∧ i = .int .i64 k ∧ Ext w wr ∧ v ∉ is.take k)
  case atStart => exact ⟨0, by omega, by omega, rfl, Ext.refl _, by simp⟩
  case round =>
    obtain ⟨k, hg, hk, rfl, hw, hQ⟩ := hrel
    by_cases hkl : k < is.length
    · obtain ⟨b, off, hA, hlt, hr1⟩ := hR k hkl
      subst hA
      clear hr1
      have m0 := (hR.ext hw).i64 k hkl
      have l0 := Nat.lt_of_lt_of_le hlt hw.size
      have q1 : (k : Int) < is.length := by omega
      have hs : is.take (k + 1) = is.take k ++ [is[k]] := List.take_succ_eq_append_getElem hkl
      have hmem := List.getElem_mem hkl
      generalize is[k] = x at m0 hs hmem
      by_cases hx : x = v
      · subst hx
        have hd1 := hd (decide_eq_true hmem)
        clear hQ hs hmem
        go_wp2
        go_ret
        exact ⟨by rw [hd1.out]; rfl, by ((repeat (first | with_reducible exact Ext.refl _ | with_reducible exact hw | with_reducible exact hb9 | with_reducible exact hb8 | with_reducible exact hb7 | with_reducible exact hb6 | with_reducible exact hb5 | with_reducible exact hb4 | with_reducible exact hb3 | with_reducible exact hb2 | with_reducible exact hb1 | with_reducible refine Ext.alloc ?_ _ | with_reducible refine Ext.drew ?_ | ((with_reducible refine Ext.set ?_ ?_ _); focus (dsimp only; omega)) | with_reducible refine Ext.trans ?_ hb9 | with_reducible refine Ext.trans ?_ hb8 | with_reducible refine Ext.trans ?_ hb7 | with_reducible refine Ext.trans ?_ hb6 | with_reducible refine Ext.trans ?_ hb5 | with_reducible refine Ext.trans ?_ hb4 | with_reducible refine Ext.trans ?_ hb3 | with_reducible refine Ext.trans ?_ hb2 | with_reducible refine Ext.trans ?_ hb1 | with_reducible refine Ext.trans ?_ hw)))⟩
      · have hQ2 := hd (show v ∉ is.take (k + 1) by rw [hs, List.mem_append, List.mem_singleton]; rintro (h | h); exact hQ h; exact hx h.symm)
        clear hQ hs hmem
        go_wp2
        go_roundg (is.length - (k + 1))
        case rel => exact ⟨k + 1, rfl, hkl, by first | rfl | simp, by ((repeat (first | with_reducible exact Ext.refl _ | with_reducible exact hw | with_reducible exact hb9 | with_reducible exact hb8 | with_reducible exact hb7 | with_reducible exact hb6 | with_reducible exact hb5 | with_reducible exact hb4 | with_reducible exact hb3 | with_reducible exact hb2 | with_reducible exact hb1 | with_reducible refine Ext.alloc ?_ _ | with_reducible refine Ext.drew ?_ | ((with_reducible refine Ext.set ?_ ?_ _); focus (dsimp only; omega)) | with_reducible refine Ext.trans ?_ hb9 | with_reducible refine Ext.trans ?_ hb8 | with_reducible refine Ext.trans ?_ hb7 | with_reducible refine Ext.trans ?_ hb6 | with_reducible refine Ext.trans ?_ hb5 | with_reducible refine Ext.trans ?_ hb4 | with_reducible refine Ext.trans ?_ hb3 | with_reducible refine Ext.trans ?_ hb2 | with_reducible refine Ext.trans ?_ hb1 | with_reducible refine Ext.trans ?_ hw))), hQ2.out⟩
        case measure => omega
    · obtain rfl : k = is.length := by omega
      rw [List.take_length] at hQ
      have hd1 := hd (decide_eq_false hQ)
      clear hQ
      go_wp2
      go_ret
      exact ⟨by rw [hd1.out]; rfl, hw⟩
theorem spec_HasIndex (is : List Int) (A : Option Addr) (cap : Nat) (v : Int) (w : World) (hR : Rd encI64 w A is) (hn : is.length ≤ 1048576) :
    Calls Tryd.prog 14 #[.slice A is.length cap, .int .i64 v] w fun e w' => e = .returned (.bool (decide (v ∈ is))) ∧ Ext w w' := by
  go_enter Tryd.func14, Tryd.ntmps14
  go_wp2_with fail
  refine Calls.mono (spec_l00Has is A cap v _ hR hn) ?_
  rintro e w1 ⟨rfl, hb1⟩
  go_wp2
  go_ret
  exact ⟨rfl, hb1⟩
set_option maxHeartbeats 400000 in
theorem spec_l00SameT (is : List Int) (A B : Option Addr) (cap cap' : Nat) (w : World) (hR : Rd encI64 w A is) (hS : Rd encI64 w B is) (hn : is.length ≤ 1048576) :
    Calls Tryd.prog 49 #[.slice A is.length cap, .slice B is.length cap'] w fun e w' => e = .returned (.bool true) ∧ Ext w w' := by
  have hx := @ExtOf.cell
  go_enter Tryd.func49, Tryd.ntmps49
  go_wp2
  go_loopg [5] is.length (fun g i wr => ∃ k : Nat, g = is.length - k ∧ k ≤ is.length ∧ i = .int .i64 k ∧ Ext w wr)
  case atStart => exact ⟨0, by omega, by omega, rfl, Ext.refl _⟩
  case round =>
    obtain ⟨k, hg, hk, rfl, hw⟩ := hrel
    by_cases hkl : k < is.length
    · obtain ⟨b, off, hA, hlt, hr1⟩ := hR k hkl
      obtain ⟨c, off', hB, hlt', hr2⟩ := hS k hkl
      subst hA hB
      clear hr1 hr2
      have m0 := (hR.ext hw).i64 k hkl
      have m1 := (hS.ext hw).i64 k hkl
      have l0 := Nat.lt_of_lt_of_le hlt hw.size
      have l1 := Nat.lt_of_lt_of_le hlt' hw.size
      generalize is[k] = x at m0 m1
      have q1 : (k : Int) < is.length := by omega
      go_wp2
      refine wp_region_ext (by kernel_rfl) (by kernel_rfl) ?_
      repeat (first | go_big_quiet_step (fail) | quiet_step (fail))
      refine wpQuiet_nil ?_
      intro w3 hq3
      have hb3 := ext_of_class hq3
      clear hq3
      obtain ⟨hc3, hf3, hz3⟩ := bcell3 hb3
      try simp at hz3
      go_wp2
      go_roundg (is.length - (k + 1))
      case rel => exact ⟨k + 1, rfl, hkl, by first | rfl | simp, hw.trans hb3⟩
      case measure => omega
    · obtain rfl : k = is.length := by omega
      go_wp2
      go_ret
      exact ⟨rfl, hw⟩
theorem spec_SameIndices (is : List Int) (A B : Option Addr) (cap cap' : Nat) (w : World) (hR : Rd encI64 w A is) (hS : Rd encI64 w B is) (hn : is.length ≤ 1048576) :
    Calls Tryd.prog 12 #[.slice A is.length cap, .slice B is.length cap'] w fun e w' => e = .returned (.bool true) ∧ Ext w w' := by
  go_enter Tryd.func12, Tryd.ntmps12
  go_wp2_with fail
  refine Calls.mono (spec_l00SameT is A B cap cap' _ hR hS hn) ?_
  rintro e w1 ⟨rfl, hb1⟩
  go_wp2
  go_ret
  exact ⟨rfl, hb1⟩
end Go.Proofs.YtegopgpnjgikeaaDoor
set_option linter.unusedVariables false
set_option linter.unusedSimpArgs false
set_option maxRecDepth 100000
namespace Go.Proofs.YtegopgpnjgikeaaDoor
open Go.RowKit
theorem nearTo_mem (f : Fld) (p : Mask) (far : Int) : ∀ (n : Nat) (v : Int), v ∈ nearTo f p far n ↔ ∃ k : Nat, k < n ∧ v = k ∧ dOf f p k ≤ far
  | 0, v => by rw [nearTo_zero]; simp
  | n + 1, v => by
    by_cases h : dOf f p n ≤ far
    · rw [nearTo_hit h, List.mem_append, List.mem_singleton, nearTo_mem f p far n v]
      constructor
      · rintro (⟨k, h1, h2, h3⟩ | rfl)
        · exact ⟨k, by omega, h2, h3⟩
        · exact ⟨n, by omega, rfl, h⟩
      · rintro ⟨k, h1, h2, h3⟩
        by_cases hk : k = n
        · subst hk; exact .inr h2
        · exact .inl ⟨k, by omega, h2, h3⟩
    · rw [nearTo_miss h, nearTo_mem f p far n v]
      constructor
      · rintro ⟨k, h1, h2, h3⟩
        exact ⟨k, by omega, h2, h3⟩
      · rintro ⟨k, h1, h2, h3⟩
        refine ⟨k, ?_, h2, h3⟩
        rcases Nat.lt_or_ge k n with h4 | h4
        · exact h4
        · obtain rfl : k = n := by omega
          exact absurd h3 h
/-- One value alone is near. -/
theorem nearTo_one (f : Fld) (p : Mask) (far : Int) (a : Nat) (ha : dOf f p a ≤ far) : ∀ n : Nat, (∀ k : Nat, k < n → k ≠ a → ¬ dOf f p k ≤ far) → nearTo f p far n = if a < n then [(a : Int)] else []
  | 0, _ => by rw [nearTo_zero, if_neg (by omega)]
  | n + 1, h => by
    have ih := nearTo_one f p far a ha n (fun k h1 h2 => h k (by omega) h2)
    by_cases hn : n = a
    · subst hn
      rw [nearTo_hit ha, ih, if_neg (by omega), if_pos (by omega)]
      rfl
    · rw [nearTo_miss (h n (by omega) hn), ih]
      by_cases h2 : a < n
      · rw [if_pos h2, if_pos (by omega)]
      · rw [if_neg h2, if_neg (by omega)]
/-- The best value is the one at distance 0, if there is one alone. -/
theorem nvF_zero {d : Nat → Int} (a : Nat) (h0 : d a = 0) : ∀ n : Nat, (∀ k, k ≤ n → k ≠ a → 0 < d k) → (a ≤ n → nvF d n = ((a : Int), 0, 1)) ∧ (n < a → 0 < (nvF d n).2.1)
  | 0, h => by
    constructor
    · intro h1
      obtain rfl : a = 0 := by omega
      rw [nvF, h0]; rfl
    · intro h1
      exact h 0 (Nat.le_refl _) (by omega)
  | n + 1, h => by
    obtain ⟨ih1, ih2⟩ := nvF_zero a h0 n (fun k h1 h2 => h k (by omega) h2)
    constructor
    · intro h1
      by_cases hn : a = n + 1
      · subst hn
        have := ih2 (by omega)
        rw [nvF_less (by omega), h0]
        congr 1
      · have e := ih1 (by omega)
        have hd := h (n + 1) (Nat.le_refl _) (fun h => hn h.symm)
        rw [nvF_more (by rw [e]; dsimp only; omega) (by rw [e]; dsimp only; omega), e]
    · intro h1
      have := ih2 (by omega)
      have hd := h (n + 1) (Nat.le_refl _) (by omega)
      rw [nvF]
      split
      · exact hd
      · split
        · exact this
        · exact this
theorem nvF_min (d : Nat → Int) : ∀ (n k : Nat), k ≤ n → (nvF d n).2.1 ≤ d k
  | 0, k, h => by
    obtain rfl : k = 0 := by omega
    exact Int.le_refl _
  | n + 1, k, h => by
    by_cases hk : k = n + 1
    · subst hk
      rw [nvF]
      split
      · exact Int.le_refl _
      · split
        · rename_i h1 h2; show (nvF d n).2.1 ≤ _; omega
        · rename_i h1 h2; omega
    · have ih := nvF_min d n k (by omega)
      rw [nvF]
      split
      · rename_i h1; show d (n + 1) ≤ _; omega
      · split
        · exact ih
        · exact ih
theorem fld_mask {f : Fld} {m : Mask} (hf : fldB f = true) (hm : isMaskB m = true) : (fldB f && isMaskB m) = true := by rw [hf, hm]; rfl
theorem dOf_code {f : Fld} (hf : fldB f = true) (hL : CodeLaw f) {a : Nat} (a1 : (a : Int) ≤ mostF f) (k : Nat) (hk : (k : Int) ≤ mostF f) (hne : k ≠ a) : 0 < dOf f (codeF f a) k ∧ (leastF f).1 ≤ dOf f (codeF f a) k := by
  have h1 := distM_ge (codeF f k) (codeF f a)
  have h2 : distM (codeF f k) (codeF f a) ≠ 0 := fun h => hne (by have := hL.inj k a (by omega) hk (by omega) a1 (distM_zero.1 h); omega)
  exact ⟨by unfold dOf; omega, code_far hf hL (by omega) hk (by omega) a1 (by omega)⟩
theorem dOf_self (f : Fld) (a : Nat) : dOf f (codeF f a) a = 0 := distM_zero.2 rfl
/-- All that FnTold says of a field, a value and wear. -/
theorem told_law {f : Fld} (hf : fldB f = true) (hL : CodeLaw f) (a : Nat) (a1 : (a : Int) ≤ mostF f) {t u : Mask} (hv : isWearB t u = true) :
    ∃ (m c : Mask) (told : Bool) (far ch : Int) (vs : List Int) (best away code : Int),
      codeF f a = m ∧ wornM t u m = c ∧ isMaskB m = true ∧ isMaskB c = true ∧ toldF f a t u = (told, 0) ∧ leastF f = (far, 0) ∧
      mcount (mless (mmeet c (partF f)) m) + mcount (mless m c) = ch ∧ (ch < far → told = true) ∧
      nearF f m 0 = ([(a : Int)], 0) ∧ nearF f c 2 = (vs, 0) ∧ ((a : Int) ∈ vs ↔ ch ≤ 2) ∧ vs.length ≤ 100000 ∧ (1 < far → nearF f m 1 = ([(a : Int)], 0)) ∧
      nearestF f m = ((a : Int), 0, 0) ∧ nearestF f c = (best, away, code) ∧ (code = 0 → away ≤ ch) ∧ 0 ≤ ch ∧ ch ≤ 256 := by
  obtain ⟨_, k0, k3, s0, z1, zm, h96⟩ := fldB_parts hf
  have hmost := mostF_le f hf
  have hcm : isMaskB (codeF f a) = true := code_mask hf hL (by omega) a1
  have hwm : isMaskB (wornM t u (codeF f a)) = true := sm_less (sm_joinV hcm (isWear_iff.1 hv).1)
  have hmeet := code_meet hL (show (0 : Int) ≤ a by omega) a1
  have hch : mcount (mless (mmeet (wornM t u (codeF f a)) (partF f)) (codeF f a)) + mcount (mless (codeF f a) (wornM t u (codeF f a))) = dOf f (mmeet (wornM t u (codeF f a)) (partF f)) a := by
    unfold dOf distM
    have e : mless (codeF f a) (mmeet (wornM t u (codeF f a)) (partF f)) = mless (codeF f a) (wornM t u (codeF f a)) := mask_ext fun i hi => by
      rw [mhas_less _ _ _ hi, mhas_less _ _ _ hi, mhas_and]
      have := hL.part a (by omega) a1 i
      cases h : mhas (codeF f a) i with
      | false => rfl
      | true => rw [this h, Bool.and_true]
    rw [e]
    omega
  have htold : toldF f a t u = (decide ((valueF f (wornM t u (codeF f a))).2 ≠ 0 ∨ (valueF f (wornM t u (codeF f a))).1 = a), 0) := by
    unfold toldF
    rw [if_pos (show (fldB f && isWearB t u) = true by rw [hf, hv]; rfl), if_pos ⟨by omega, a1⟩]
    rfl
  refine ⟨codeF f a, wornM t u (codeF f a), decide ((valueF f (wornM t u (codeF f a))).2 ≠ 0 ∨ (valueF f (wornM t u (codeF f a))).1 = a), (leastF f).1, dOf f (mmeet (wornM t u (codeF f a)) (partF f)) a, nearL f (wornM t u (codeF f a)) 2, (nearestF f (wornM t u (codeF f a))).1, (nearestF f (wornM t u (codeF f a))).2.1, (nearestF f (wornM t u (codeF f a))).2.2,
    rfl, rfl, hcm, hwm, htold, ?_, hch, ?_, ?_, ?_, ?_, ?_, ?_, ?_, rfl, ?_, distM_ge _ _, distM_le _ _⟩
  · unfold leastF
    rw [if_pos hf]
    split
    · rfl
    · split <;> rfl
  · intro hlt
    rw [decide_eq_true_eq]
    obtain ⟨n, c, hn⟩ : ∃ n c, valueF f (wornM t u (codeF f a)) = (n, c) := ⟨_, _, rfl⟩
    rw [hn]
    by_cases hc : c = 0
    · right
      subst hc
      obtain ⟨n0, n1, n2⟩ := value_back hn
      by_cases hne : n = a
      · exact hne
      · exfalso
        have h1 := code_far hf hL n0 n1 (show (0 : Int) ≤ a by omega) a1 hne
        rw [n2] at h1
        unfold dOf at hlt
        rw [distM_comm] at hlt
        omega
    · exact .inl hc
  · unfold nearF
    rw [fld_mask hf hcm, if_pos rfl, if_pos (by omega)]
    unfold nearL
    rw [hmeet, nearTo_one f _ 0 a (by rw [dOf_self]; exact Int.le_refl _) _ (fun k hk hne => by have := (dOf_code hf hL a1 k (by omega) hne).1; omega), if_pos (by omega)]
  · unfold nearF
    rw [fld_mask hf hwm, if_pos rfl, if_pos (by omega)]
  · unfold nearL
    rw [nearTo_mem]
    constructor
    · rintro ⟨k, h1, h2, h3⟩
      obtain rfl : a = k := by omega
      exact h3
    · intro h
      exact ⟨a, by omega, rfl, h⟩
  · have := nearTo_len f (mmeet (wornM t u (codeF f a)) (partF f)) 2 (mostF f + 1).toNat
    unfold nearL
    omega
  · intro h1
    unfold nearF
    rw [fld_mask hf hcm, if_pos rfl, if_pos (by omega)]
    unfold nearL
    rw [hmeet, nearTo_one f _ 1 a (by rw [dOf_self]; omega) _ (fun k hk hne => by have := (dOf_code hf hL a1 k (by omega) hne).2; omega), if_pos (by omega)]
  · unfold nearestF
    rw [fld_mask hf hcm, if_pos rfl, hmeet, (nvF_zero a (dOf_self f a) (mostF f).toNat (fun k hk hne => (dOf_code hf hL a1 k (by omega) hne).1)).1 (by omega)]
    rfl
  · intro hc
    unfold nearestF at hc ⊢
    rw [fld_mask hf hwm, if_pos rfl] at hc ⊢
    split at hc
    · cases hc
    · rename_i h1
      rw [if_neg h1]
      exact nvF_min _ _ a (by omega)
end Go.Proofs.YtegopgpnjgikeaaDoor
set_option linter.unusedVariables false
set_option linter.unusedSimpArgs false
set_option maxRecDepth 100000
namespace Go.Proofs.YtegopgpnjgikeaaDoor
open Go.RowKit
theorem toldF_bad {f : Fld} {v : Int} {t u : Mask} (h : (fldB f && isWearB t u) = false) : toldF f v t u = (false, 1) := by unfold toldF; rw [h]; rfl
theorem toldF_far {f : Fld} {v : Int} {t u : Mask} (h : (fldB f && isWearB t u) = true) (h2 : ¬ (0 ≤ v ∧ v ≤ mostF f)) : toldF f v t u = (false, 2) := by unfold toldF; rw [if_pos h, if_neg h2]
theorem toldF_err {f : Fld} {v : Int} {t u : Mask} (h : (fldB f && isWearB t u) = true) (h2 : 0 ≤ v ∧ v ≤ mostF f) (h3 : (valueF f (wornM t u (codeF f v))).2 ≠ 0) : toldF f v t u = (true, 0) := by
  unfold toldF; rw [if_pos h, if_pos h2]
  rw [decide_eq_true (show (valueF f (mless (mjoin (codeF f v) t) u)).2 ≠ 0 ∨ _ from .inl h3)]
theorem toldF_val {f : Fld} {v : Int} {t u : Mask} (h : (fldB f && isWearB t u) = true) (h2 : 0 ≤ v ∧ v ≤ mostF f) (h3 : (valueF f (wornM t u (codeF f v))).2 = 0) : toldF f v t u = ((valueF f (wornM t u (codeF f v))).1 == v, 0) := by
  unfold toldF; rw [if_pos h, if_pos h2]
  congr 1
  rw [Bool.eq_iff_iff, decide_eq_true_eq, beq_iff_eq]
  exact ⟨fun h => h.resolve_left (fun h4 => h4 h3), .inr⟩
set_option maxHeartbeats 1000000 in
theorem impl_IsTold (nm : ByteArray) (kd st sz : Int) (hok : Fld.ok ⟨nm, kd, st, sz⟩) (hnmx : nm.size ≤ 9223372036854775807) (v : Int) (t u : Mask) (w : World) :
    Calls Tryd.prog 27 #[.agg #[.string nm, .int .i8 kd, .int .i16 st, .int .i16 sz], .int .i64 v, .agg #[.int .u64 (lo t), .int .u64 (hi t), .int .u64 (lo u), .int .u64 (hi u)]] w fun e w' => e = .returned (.tuple #[.bool (toldF ⟨nm, kd, st, sz⟩ v t u).1, .int .i64 (toldF ⟨nm, kd, st, sz⟩ v t u).2]) ∧ Ext w w' := by
  have hx := @ExtOf.cell
  obtain ⟨⟨a0, a1⟩, ⟨a2, a3⟩, a4, a5⟩ := hok
  dsimp only at a0 a1 a2 a3 a4 a5
  have hif := fun W => impl_isField nm kd st sz a0 a1 a2 a3 a4 a5 hnmx W
  cases hf : fldB ⟨nm, kd, st, sz⟩ with
  | false =>
    have hv := hd (toldF_bad (f := ⟨nm, kd, st, sz⟩) (v := v) (t := t) (u := u) (by rw [hf]; rfl))
    rw [hf] at hif
    go_enter Tryd.func27, Tryd.ntmps27
    go_wp2_with fail
    refine Calls.mono (hif _) ?_
    rintro e w1 ⟨rfl, hb1⟩
    go_wp2
    refine bodyPost_ret (v := .tuple #[.bool false, .int .i64 1]) (by simp [results, Tryd.results27, go_sem]) rfl ⟨by rw [hv.out], ?_⟩
    (repeat (first | with_reducible exact Ext.refl _ | with_reducible exact hw | with_reducible exact hb9 | with_reducible exact hb8 | with_reducible exact hb7 | with_reducible exact hb6 | with_reducible exact hb5 | with_reducible exact hb4 | with_reducible exact hb3 | with_reducible exact hb2 | with_reducible exact hb1 | with_reducible refine Ext.alloc ?_ _ | with_reducible refine Ext.drew ?_ | ((with_reducible refine Ext.set ?_ ?_ _); focus (dsimp only; omega)) | with_reducible refine Ext.trans ?_ hb9 | with_reducible refine Ext.trans ?_ hb8 | with_reducible refine Ext.trans ?_ hb7 | with_reducible refine Ext.trans ?_ hb6 | with_reducible refine Ext.trans ?_ hb5 | with_reducible refine Ext.trans ?_ hb4 | with_reducible refine Ext.trans ?_ hb3 | with_reducible refine Ext.trans ?_ hb2 | with_reducible refine Ext.trans ?_ hb1 | with_reducible refine Ext.trans ?_ hw))
  | true =>
    rw [hf] at hif
    have him := fun W => impl_isWear t u W
    cases hm : isWearB t u with
    | false =>
      have hv := hd (toldF_bad (f := ⟨nm, kd, st, sz⟩) (v := v) (t := t) (u := u) (by rw [hf, hm]; rfl))
      rw [hm] at him
      go_enter Tryd.func27, Tryd.ntmps27
      go_wp2_with fail
      refine Calls.mono (hif _) ?_
      rintro e w1 ⟨rfl, hb1⟩
      obtain ⟨hc1, hf1, hz1⟩ := bcell3 hb1
      try simp at hz1
      have hz1_0 : w.heap.size < w1.heap.size := by omega
      have hz1_1 : w.heap.size + 1 < w1.heap.size := by omega
      go_wp2_with fail
      refine Calls.mono (him _) ?_
      rintro e w2 ⟨rfl, hb2⟩
      go_wp2
      refine bodyPost_ret (v := .tuple #[.bool false, .int .i64 1]) (by simp [results, Tryd.results27, go_sem]) rfl ⟨by rw [hv.out], ?_⟩
      (repeat (first | with_reducible exact Ext.refl _ | with_reducible exact hw | with_reducible exact hb9 | with_reducible exact hb8 | with_reducible exact hb7 | with_reducible exact hb6 | with_reducible exact hb5 | with_reducible exact hb4 | with_reducible exact hb3 | with_reducible exact hb2 | with_reducible exact hb1 | with_reducible refine Ext.alloc ?_ _ | with_reducible refine Ext.drew ?_ | ((with_reducible refine Ext.set ?_ ?_ _); focus (dsimp only; omega)) | with_reducible refine Ext.trans ?_ hb9 | with_reducible refine Ext.trans ?_ hb8 | with_reducible refine Ext.trans ?_ hb7 | with_reducible refine Ext.trans ?_ hb6 | with_reducible refine Ext.trans ?_ hb5 | with_reducible refine Ext.trans ?_ hb4 | with_reducible refine Ext.trans ?_ hb3 | with_reducible refine Ext.trans ?_ hb2 | with_reducible refine Ext.trans ?_ hb1 | with_reducible refine Ext.trans ?_ hw))
    | true =>
      rw [hm] at him
      have hok : (fldB ⟨nm, kd, st, sz⟩ && isWearB t u) = true := by rw [hf, hm]; rfl
      obtain ⟨_, k0, k3, s0, z0, z1, z2⟩ := fldB_parts hf
      dsimp only at k0 k3 s0 z0 z1 z2
      have hmo := fun W => impl_most nm kd st sz k0 k3 z0 z1 W
      by_cases v0 : v < 0
      · have hv := hd (toldF_far hok (v := v) (fun h => by omega))
        clear hmo
        go_enter Tryd.func27, Tryd.ntmps27
        go_wp2_with fail
        refine Calls.mono (hif _) ?_
        rintro e w1 ⟨rfl, hb1⟩
        obtain ⟨hc1, hf1, hz1⟩ := bcell3 hb1
        try simp at hz1
        have hz1_0 : w.heap.size < w1.heap.size := by omega
        have hz1_1 : w.heap.size + 1 < w1.heap.size := by omega
        go_wp2_with fail
        refine Calls.mono (him _) ?_
        rintro e w2 ⟨rfl, hb2⟩
        go_wp2
        refine bodyPost_ret (v := .tuple #[.bool false, .int .i64 2]) (by simp [results, Tryd.results27, go_sem]) rfl ⟨by rw [hv.out], ?_⟩
        (repeat (first | with_reducible exact Ext.refl _ | with_reducible exact hw | with_reducible exact hb9 | with_reducible exact hb8 | with_reducible exact hb7 | with_reducible exact hb6 | with_reducible exact hb5 | with_reducible exact hb4 | with_reducible exact hb3 | with_reducible exact hb2 | with_reducible exact hb1 | with_reducible refine Ext.alloc ?_ _ | with_reducible refine Ext.drew ?_ | ((with_reducible refine Ext.set ?_ ?_ _); focus (dsimp only; omega)) | with_reducible refine Ext.trans ?_ hb9 | with_reducible refine Ext.trans ?_ hb8 | with_reducible refine Ext.trans ?_ hb7 | with_reducible refine Ext.trans ?_ hb6 | with_reducible refine Ext.trans ?_ hb5 | with_reducible refine Ext.trans ?_ hb4 | with_reducible refine Ext.trans ?_ hb3 | with_reducible refine Ext.trans ?_ hb2 | with_reducible refine Ext.trans ?_ hb1 | with_reducible refine Ext.trans ?_ hw))
      · by_cases v1 : mostF ⟨nm, kd, st, sz⟩ < v
        · have hv := hd (toldF_far hok (v := v) (fun h => by omega))
          generalize mostF ⟨nm, kd, st, sz⟩ = mo at hmo v1
          go_enter Tryd.func27, Tryd.ntmps27
          go_wp2_with fail
          refine Calls.mono (hif _) ?_
          rintro e w1 ⟨rfl, hb1⟩
          obtain ⟨hc1, hf1, hz1⟩ := bcell3 hb1
          try simp at hz1
          have hz1_0 : w.heap.size < w1.heap.size := by omega
          have hz1_1 : w.heap.size + 1 < w1.heap.size := by omega
          go_wp2_with fail
          refine Calls.mono (him _) ?_
          rintro e w2 ⟨rfl, hb2⟩
          obtain ⟨hc2, hf2, hz2⟩ := bcell3 hb2
          try simp at hz2
          have hz2_0 : w.heap.size < w2.heap.size := by omega
          have hz2_1 : w.heap.size + 1 < w2.heap.size := by omega
          go_wp2_with fail
          refine Calls.mono (hmo _) ?_
          rintro e w3 ⟨rfl, hb3⟩
          go_wp2
          refine bodyPost_ret (v := .tuple #[.bool false, .int .i64 2]) (by simp [results, Tryd.results27, go_sem]) rfl ⟨by rw [hv.out], ?_⟩
          (repeat (first | with_reducible exact Ext.refl _ | with_reducible exact hw | with_reducible exact hb9 | with_reducible exact hb8 | with_reducible exact hb7 | with_reducible exact hb6 | with_reducible exact hb5 | with_reducible exact hb4 | with_reducible exact hb3 | with_reducible exact hb2 | with_reducible exact hb1 | with_reducible refine Ext.alloc ?_ _ | with_reducible refine Ext.drew ?_ | ((with_reducible refine Ext.set ?_ ?_ _); focus (dsimp only; omega)) | with_reducible refine Ext.trans ?_ hb9 | with_reducible refine Ext.trans ?_ hb8 | with_reducible refine Ext.trans ?_ hb7 | with_reducible refine Ext.trans ?_ hb6 | with_reducible refine Ext.trans ?_ hb5 | with_reducible refine Ext.trans ?_ hb4 | with_reducible refine Ext.trans ?_ hb3 | with_reducible refine Ext.trans ?_ hb2 | with_reducible refine Ext.trans ?_ hb1 | with_reducible refine Ext.trans ?_ hw))
        · have henc := fun W => impl_encode nm kd st sz v hf (by omega) (by omega) W
          have hde := fun W => impl_decode nm kd st sz hf (wornM t u (codeF ⟨nm, kd, st, sz⟩ v)) W
          have herr := fun h3 => hd (toldF_err hok (v := v) ⟨by omega, by omega⟩ h3)
          have hval := fun h3 => hd (toldF_val hok (v := v) ⟨by omega, by omega⟩ h3)
          generalize mostF ⟨nm, kd, st, sz⟩ = mo at hmo v1
          have hon := fun W => impl_on t u (codeF ⟨nm, kd, st, sz⟩ v) W
          generalize codeF ⟨nm, kd, st, sz⟩ v = cm at henc hde herr hval hon
          generalize wornM t u cm = x at hde herr hval hon
          generalize valueF ⟨nm, kd, st, sz⟩ x = q at hde herr hval
          obtain ⟨n, c⟩ := q
          dsimp only at hde herr hval
          go_enter Tryd.func27, Tryd.ntmps27
          go_wp2_with fail
          refine Calls.mono (hif _) ?_
          rintro e w1 ⟨rfl, hb1⟩
          obtain ⟨hc1, hf1, hz1⟩ := bcell3 hb1
          try simp at hz1
          have hz1_0 : w.heap.size < w1.heap.size := by omega
          have hz1_1 : w.heap.size + 1 < w1.heap.size := by omega
          go_wp2_with fail
          refine Calls.mono (him _) ?_
          rintro e w2 ⟨rfl, hb2⟩
          obtain ⟨hc2, hf2, hz2⟩ := bcell3 hb2
          try simp at hz2
          have hz2_0 : w.heap.size < w2.heap.size := by omega
          have hz2_1 : w.heap.size + 1 < w2.heap.size := by omega
          go_wp2_with fail
          refine Calls.mono (hmo _) ?_
          rintro e w3 ⟨rfl, hb3⟩
          obtain ⟨hc3, hf3, hz3⟩ := bcell3 hb3
          try simp at hz3
          have hz3_0 : w.heap.size < w3.heap.size := by omega
          have hz3_1 : w.heap.size + 1 < w3.heap.size := by omega
          have m0 : w3.cell? ⟨w.heap.size, 0, none⟩ = some (.string nm) := hb3.cell (by go_simp)
          have m1 : w3.cell? ⟨w.heap.size, 1, none⟩ = some (.int .i8 kd) := hb3.cell (by go_simp)
          have m2 : w3.cell? ⟨w.heap.size, 2, none⟩ = some (.int .i16 st) := hb3.cell (by go_simp)
          have m3 : w3.cell? ⟨w.heap.size, 3, none⟩ = some (.int .i16 sz) := hb3.cell (by go_simp)
          have n0 : w3.cell? ⟨w.heap.size + 1, 0, none⟩ = some (.int .u64 (lo t)) := hb3.cell (by go_simp)
          have n1 : w3.cell? ⟨w.heap.size + 1, 1, none⟩ = some (.int .u64 (hi t)) := hb3.cell (by go_simp)
          have n2 : w3.cell? ⟨w.heap.size + 1, 2, none⟩ = some (.int .u64 (lo u)) := hb3.cell (by go_simp)
          have n3 : w3.cell? ⟨w.heap.size + 1, 3, none⟩ = some (.int .u64 (hi u)) := hb3.cell (by go_simp)
          have hw : Ext w w3 := by ((repeat (first | with_reducible exact Ext.refl _ | with_reducible exact hw | with_reducible exact hb9 | with_reducible exact hb8 | with_reducible exact hb7 | with_reducible exact hb6 | with_reducible exact hb5 | with_reducible exact hb4 | with_reducible exact hb3 | with_reducible exact hb2 | with_reducible exact hb1 | with_reducible refine Ext.alloc ?_ _ | with_reducible refine Ext.drew ?_ | ((with_reducible refine Ext.set ?_ ?_ _); focus (dsimp only; omega)) | with_reducible refine Ext.trans ?_ hb9 | with_reducible refine Ext.trans ?_ hb8 | with_reducible refine Ext.trans ?_ hb7 | with_reducible refine Ext.trans ?_ hb6 | with_reducible refine Ext.trans ?_ hb5 | with_reducible refine Ext.trans ?_ hb4 | with_reducible refine Ext.trans ?_ hb3 | with_reducible refine Ext.trans ?_ hb2 | with_reducible refine Ext.trans ?_ hb1 | with_reducible refine Ext.trans ?_ hw)))
          clear hc1 hf1 hb1 hc2 hf2 hb2 hc3 hf3 hb3 hz1 hz2 hz3 hz1_0 hz1_1 hz2_0 hz2_1
          by_cases hc : c = 0
          · have hv := hval hc
            subst hc
            clear herr hval
            go_wp2
            refine wp_region_ext (by kernel_rfl) (by kernel_rfl) ?_
            repeat (first | go_big_quiet_step ((first | (go_at_call 70; with_reducible exact Calls.ext_all (fun W _ => henc W)) | (go_at_call 69; with_reducible exact Calls.ext_all (fun W _ => hon W)) | (go_at_call 68; with_reducible exact Calls.ext_all (fun W _ => hde W)))) | quiet_step ((first | (go_at_call 70; with_reducible exact Calls.ext_all (fun W _ => henc W)) | (go_at_call 69; with_reducible exact Calls.ext_all (fun W _ => hon W)) | (go_at_call 68; with_reducible exact Calls.ext_all (fun W _ => hde W)))))
            refine wpQuiet_nil ?_
            intro w5 hq5
            have hb5 := ext_of_class hq5
            clear hq5
            obtain ⟨hc5, hf5, hz5⟩ := bcell3 hb5
            try simp at hz5
            go_wp2
            refine bodyPost_ret (v := .tuple #[.bool (n == v), .int .i64 0]) (by simp [results, Tryd.results27, go_sem]) rfl ⟨by rw [hv.out], hw.trans hb5⟩
          · have hv := herr hc
            have hc2 : (c != 0) = true := by simp [hc]
            clear herr hval
            go_wp2
            refine wp_region_ext (by kernel_rfl) (by kernel_rfl) ?_
            repeat (first | go_big_quiet_step ((first | (go_at_call 70; with_reducible exact Calls.ext_all (fun W _ => henc W)) | (go_at_call 69; with_reducible exact Calls.ext_all (fun W _ => hon W)) | (go_at_call 68; with_reducible exact Calls.ext_all (fun W _ => hde W)))) | quiet_step ((first | (go_at_call 70; with_reducible exact Calls.ext_all (fun W _ => henc W)) | (go_at_call 69; with_reducible exact Calls.ext_all (fun W _ => hon W)) | (go_at_call 68; with_reducible exact Calls.ext_all (fun W _ => hde W)))))
            refine wpQuiet_nil ?_
            intro w5 hq5
            have hb5 := ext_of_class hq5
            clear hq5
            obtain ⟨hc5, hf5, hz5⟩ := bcell3 hb5
            try simp at hz5
            go_wp2
            refine bodyPost_ret (v := .tuple #[.bool true, .int .i64 0]) (by simp [results, Tryd.results27, go_sem]) rfl ⟨by rw [hv.out], hw.trans hb5⟩
set_option maxHeartbeats 1000000 in
theorem spec_IsTold (nm : ByteArray) (kd st sz : Int) (hok : Fld.ok ⟨nm, kd, st, sz⟩) (hnmx : nm.size ≤ 9223372036854775807) (v : Int) (t u : Mask) (w : World) :
    Calls Tryd.prog 28 #[.agg #[.string nm, .int .i8 kd, .int .i16 st, .int .i16 sz], .int .i64 v, .agg #[.int .u64 (lo t), .int .u64 (hi t), .int .u64 (lo u), .int .u64 (hi u)]] w fun e w' => e = .returned (.tuple #[.bool (toldF ⟨nm, kd, st, sz⟩ v t u).1, .int .i64 (toldF ⟨nm, kd, st, sz⟩ v t u).2]) ∧ Ext w w' := by
  obtain ⟨⟨a0, a1⟩, ⟨a2, a3⟩, a4, a5⟩ := hok
  dsimp only at a0 a1 a2 a3 a4 a5
  have hA : FldAt ((w.alloc (.cells #[.string nm, .int .i8 kd, .int .i16 st, .int .i16 sz] 48)).alloc (.cells #[.int .u64 (lo t), .int .u64 (hi t), .int .u64 (lo u), .int .u64 (hi u)] 54)) w.heap.size 0 ⟨nm, kd, st, sz⟩ := ⟨by go_simp, by go_simp, by go_simp, by go_simp⟩
  have hif := spec_l01Field nm kd st sz w.heap.size 0 a0 a1 a2 a3 a4 a5 hnmx _ hA (by simp <;> omega)
  cases hf : fldB ⟨nm, kd, st, sz⟩ with
  | false =>
    have hv := hd (toldF_bad (f := ⟨nm, kd, st, sz⟩) (v := v) (t := t) (u := u) (by rw [hf]; rfl))
    rw [hf] at hif
    clear hA
    go_enter Tryd.func28, Tryd.ntmps28
    go_wp2_with fail
    refine Calls.mono (hif) ?_
    rintro e w1 ⟨rfl, hb1⟩
    go_wp2
    refine bodyPost_ret (v := .tuple #[.bool false, .int .i64 1]) (by simp [results, Tryd.results28, go_sem]) rfl ⟨by rw [hv.out], ?_⟩
    (repeat (first | with_reducible exact Ext.refl _ | with_reducible exact hw | with_reducible exact hb9 | with_reducible exact hb8 | with_reducible exact hb7 | with_reducible exact hb6 | with_reducible exact hb5 | with_reducible exact hb4 | with_reducible exact hb3 | with_reducible exact hb2 | with_reducible exact hb1 | with_reducible refine Ext.alloc ?_ _ | with_reducible refine Ext.drew ?_ | ((with_reducible refine Ext.set ?_ ?_ _); focus (dsimp only; omega)) | with_reducible refine Ext.trans ?_ hb9 | with_reducible refine Ext.trans ?_ hb8 | with_reducible refine Ext.trans ?_ hb7 | with_reducible refine Ext.trans ?_ hb6 | with_reducible refine Ext.trans ?_ hb5 | with_reducible refine Ext.trans ?_ hb4 | with_reducible refine Ext.trans ?_ hb3 | with_reducible refine Ext.trans ?_ hb2 | with_reducible refine Ext.trans ?_ hb1 | with_reducible refine Ext.trans ?_ hw))
  | true =>
    rw [hf] at hif
    go_enter Tryd.func28, Tryd.ntmps28
    go_wp2_with fail
    refine Calls.mono (hif) ?_
    rintro e w1 ⟨rfl, hb1⟩
    have hA1 := hA.ext hb1
    have n0 : w1.cell? ⟨w.heap.size + 1, 0, none⟩ = some (.int .u64 (lo t)) := hb1.cell (by go_simp)
    have n1 : w1.cell? ⟨w.heap.size + 1, 0 + 1, none⟩ = some (.int .u64 (hi t)) := hb1.cell (by go_simp)
    have n2 : w1.cell? ⟨w.heap.size + 1, 0 + 2, none⟩ = some (.int .u64 (lo u)) := hb1.cell (by go_simp)
    have n3 : w1.cell? ⟨w.heap.size + 1, 0 + 2 + 1, none⟩ = some (.int .u64 (hi u)) := hb1.cell (by go_simp)
    have hw1 : Ext w w1 := by ((repeat (first | with_reducible exact Ext.refl _ | with_reducible exact hw | with_reducible exact hb9 | with_reducible exact hb8 | with_reducible exact hb7 | with_reducible exact hb6 | with_reducible exact hb5 | with_reducible exact hb4 | with_reducible exact hb3 | with_reducible exact hb2 | with_reducible exact hb1 | with_reducible refine Ext.alloc ?_ _ | with_reducible refine Ext.drew ?_ | ((with_reducible refine Ext.set ?_ ?_ _); focus (dsimp only; omega)) | with_reducible refine Ext.trans ?_ hb9 | with_reducible refine Ext.trans ?_ hb8 | with_reducible refine Ext.trans ?_ hb7 | with_reducible refine Ext.trans ?_ hb6 | with_reducible refine Ext.trans ?_ hb5 | with_reducible refine Ext.trans ?_ hb4 | with_reducible refine Ext.trans ?_ hb3 | with_reducible refine Ext.trans ?_ hb2 | with_reducible refine Ext.trans ?_ hb1 | with_reducible refine Ext.trans ?_ hw)))
    have hwk := spec_l04Ok t u (w.heap.size + 1) 0 w1 (World.block_lt_of_cell? _ _ n0) n0 n1 n2 n3
    clear hb1 hA hif
    cases hm : isWearB t u with
    | false =>
      have hv := hd (toldF_bad (f := ⟨nm, kd, st, sz⟩) (v := v) (t := t) (u := u) (by rw [hf, hm]; rfl))
      rw [hm] at hwk
      go_wp2_with fail
      refine Calls.mono (hwk) ?_
      rintro e w2 ⟨rfl, hb2⟩
      go_wp2
      refine bodyPost_ret (v := .tuple #[.bool false, .int .i64 1]) (by simp [results, Tryd.results28, go_sem]) rfl ⟨by rw [hv.out], hw1.trans hb2⟩
    | true =>
      rw [hm] at hwk
      have hok : (fldB ⟨nm, kd, st, sz⟩ && isWearB t u) = true := by rw [hf, hm]; rfl
      have hmo := fun (W : World) (h : FldAt W w.heap.size 0 ⟨nm, kd, st, sz⟩) => spec_l01Most ⟨nm, kd, st, sz⟩ hf w.heap.size 0 W h
      go_wp2_with fail
      refine Calls.mono (hwk) ?_
      rintro e w2 ⟨rfl, hb2⟩
      go_wp2_with fail
      refine Calls.mono (hmo _ (hA1.ext hb2)) ?_
      rintro e w3 ⟨rfl, hb3⟩
      have hw3 := (hw1.trans hb2).trans hb3
      have hA3 := hA1.ext (hb2.trans hb3)
      have n0 := (hb2.trans hb3).cell n0
      have n1 := (hb2.trans hb3).cell n1
      have n2 := (hb2.trans hb3).cell n2
      have n3 := (hb2.trans hb3).cell n3
      clear hb2 hb3 hw1 hA1 hwk hmo
      by_cases hr : inB v 0 (mostF ⟨nm, kd, st, sz⟩) = true
      · have hr2 : 0 ≤ v ∧ v ≤ mostF ⟨nm, kd, st, sz⟩ := by unfold inB at hr; simpa using hr
        have hin := fun W => spec_l00In v 0 (mostF ⟨nm, kd, st, sz⟩) W
        rw [hr] at hin
        have henc := fun (W : World) (h : FldAt W w.heap.size 0 ⟨nm, kd, st, sz⟩) => spec_l01Code ⟨nm, kd, st, sz⟩ hf v hr2.1 hr2.2 w.heap.size 0 W h
        have hde := fun (W : World) (h : FldAt W w.heap.size 0 ⟨nm, kd, st, sz⟩) => spec_l01Value ⟨nm, kd, st, sz⟩ hf (wornM t u (codeF ⟨nm, kd, st, sz⟩ v)) w.heap.size 0 W h
        have herr := fun h3 => hd (toldF_err hok (v := v) hr2 h3)
        have hval := fun h3 => hd (toldF_val hok (v := v) hr2 h3)
        have hon := fun (W : World) (h : Ext w3 W) => spec_l04Worn t u (codeF ⟨nm, kd, st, sz⟩ v) (w.heap.size + 1) 0 W (Nat.lt_of_lt_of_le (World.block_lt_of_cell? _ _ n0) h.size) (h.cell n0) (h.cell n1) (h.cell n2) (h.cell n3)
        clear hr hr2
        generalize mostF ⟨nm, kd, st, sz⟩ = mo at hin
        generalize codeF ⟨nm, kd, st, sz⟩ v = cm at henc hde herr hval hon
        generalize wornM t u cm = x at hde herr hval hon
        generalize valueF ⟨nm, kd, st, sz⟩ x = q at hde herr hval
        obtain ⟨n, c⟩ := q
        dsimp only at hde herr hval
        go_wp2_with fail
        refine Calls.mono (hin _) ?_
        rintro e w4 ⟨rfl, hb4⟩
        go_wp2_with fail
        refine Calls.mono (henc _ (hA3.ext hb4)) ?_
        rintro e w5 ⟨rfl, hb5⟩
        go_wp2_with fail
        refine Calls.mono (hon _ (hb4.trans hb5)) ?_
        rintro e w6 ⟨rfl, hb6⟩
        go_wp2_with fail
        refine Calls.mono (hde _ (hA3.ext ((hb4.trans hb5).trans hb6))) ?_
        rintro e w7 ⟨rfl, hb7⟩
        by_cases hc : c = 0
        · have hv := hval hc
          subst hc
          clear herr hval
          go_wp2
          refine bodyPost_ret (v := .tuple #[.bool (n == v), .int .i64 0]) (by simp [results, Tryd.results28, go_sem]) rfl ⟨by rw [hv.out], hw3.trans (((hb4.trans hb5).trans hb6).trans hb7)⟩
        · have hv := herr hc
          have hc2 : (c != 0) = true := by simp [hc]
          clear herr hval
          go_wp2
          refine bodyPost_ret (v := .tuple #[.bool true, .int .i64 0]) (by simp [results, Tryd.results28, go_sem]) rfl ⟨by rw [hv.out], hw3.trans (((hb4.trans hb5).trans hb6).trans hb7)⟩
      · have hr2 : ¬ (0 ≤ v ∧ v ≤ mostF ⟨nm, kd, st, sz⟩) := fun h => hr (by unfold inB; simpa using h)
        have hv := hd (toldF_far hok (v := v) hr2)
        have hin := fun W => spec_l00In v 0 (mostF ⟨nm, kd, st, sz⟩) W
        rw [show inB v 0 (mostF ⟨nm, kd, st, sz⟩) = false by simpa using hr] at hin
        clear hr hr2
        generalize mostF ⟨nm, kd, st, sz⟩ = mo at hin
        go_wp2_with fail
        refine Calls.mono (hin _) ?_
        rintro e w4 ⟨rfl, hb4⟩
        go_wp2
        refine bodyPost_ret (v := .tuple #[.bool false, .int .i64 2]) (by simp [results, Tryd.results28, go_sem]) rfl ⟨by rw [hv.out], hw3.trans hb4⟩
end Go.Proofs.YtegopgpnjgikeaaDoor
set_option linter.unusedVariables false
set_option linter.unusedSimpArgs false
set_option maxRecDepth 100000
namespace Go.Proofs.YtegopgpnjgikeaaDoor
open Go.RowKit
set_option maxHeartbeats 400000 in
theorem impl_distance (m n : Mask) (w : World) :
    Calls Tryd.prog 85 #[.agg #[.int .u64 (lo m), .int .u64 (hi m)], .agg #[.int .u64 (lo n), .int .u64 (hi n)]] w fun e w' => e = .returned (.int .i64 (distM m n)) ∧ Ext w w' := by
  have hx := @ExtOf.cell
  have a0 := mcount_ge (mless m n)
  have a1 := mcount_le (mless m n)
  have a2 := mcount_ge (mless n m)
  have a3 := mcount_le (mless n m)
  have wr : IntKind.i64.wrap (mcount (mless m n) + mcount (mless n m)) = distM m n := IntWalk.i64_in _ (by omega)
  go_enter Tryd.func85, Tryd.ntmps85
  go_wp2
  refine wp_region_ext (by kernel_rfl) (by kernel_rfl) ?_
  repeat (first | go_big_quiet_step ((first | (go_at_call 108; with_reducible exact Calls.ext_of (impl_LessMask _ _ _)) | (go_at_call 110; with_reducible exact Calls.ext_of (impl_CountHoles _ _)))) | quiet_step ((first | (go_at_call 108; with_reducible exact Calls.ext_of (impl_LessMask _ _ _)) | (go_at_call 110; with_reducible exact Calls.ext_of (impl_CountHoles _ _)))))
  refine wpQuiet_nil ?_
  intro w1 hq1
  have hb1 := ext_of_class hq1
  clear hq1
  obtain ⟨hc1, hf1, hz1⟩ := bcell3 hb1
  try simp at hz1
  have hz1_0 : w.heap.size < w1.heap.size := by omega
  have hz1_1 : w.heap.size + 1 < w1.heap.size := by omega
  go_wp2
  go_ret
  exact ⟨rfl, by ((repeat (first | with_reducible exact Ext.refl _ | with_reducible exact hw | with_reducible exact hb9 | with_reducible exact hb8 | with_reducible exact hb7 | with_reducible exact hb6 | with_reducible exact hb5 | with_reducible exact hb4 | with_reducible exact hb3 | with_reducible exact hb2 | with_reducible exact hb1 | with_reducible refine Ext.alloc ?_ _ | with_reducible refine Ext.drew ?_ | ((with_reducible refine Ext.set ?_ ?_ _); focus (dsimp only; omega)) | with_reducible refine Ext.trans ?_ hb9 | with_reducible refine Ext.trans ?_ hb8 | with_reducible refine Ext.trans ?_ hb7 | with_reducible refine Ext.trans ?_ hb6 | with_reducible refine Ext.trans ?_ hb5 | with_reducible refine Ext.trans ?_ hb4 | with_reducible refine Ext.trans ?_ hb3 | with_reducible refine Ext.trans ?_ hb2 | with_reducible refine Ext.trans ?_ hb1 | with_reducible refine Ext.trans ?_ hw)))⟩
set_option maxHeartbeats 400000 in
theorem spec_l04Differ (f : Fld) (hf : fldB f = true) (v : Int) (v0 : 0 ≤ v) (v1 : v ≤ mostF f) (p : Mask) (b o : Nat) (w : World) (hF : FldAt w b o f) :
    Calls Tryd.prog 86 #[.pointer (some ⟨b, o, none⟩), .int .i64 v, .agg #[.int .u64 (lo p), .int .u64 (hi p)]] w fun e w' => e = .returned (.int .i64 (distM (codeF f v) p)) ∧ Ext w w' := by
  have hx := @ExtOf.cell
  have hco := fun (W : World) (h : Ext w W) => spec_l01Code f hf v v0 v1 b o W (hF.ext h)
  generalize codeF f v = n at hco
  have a0 := mcount_ge (mless n p)
  have a1 := mcount_le (mless n p)
  have a2 := mcount_ge (mless p n)
  have a3 := mcount_le (mless p n)
  have wr : IntKind.i64.wrap (mcount (mless n p) + mcount (mless p n)) = distM n p := IntWalk.i64_in _ (by omega)
  go_enter Tryd.func86, Tryd.ntmps86
  go_wp2_with fail
  refine Calls.mono (hco _ (by ((repeat (first | with_reducible exact Ext.refl _ | with_reducible exact hw | with_reducible exact hb9 | with_reducible exact hb8 | with_reducible exact hb7 | with_reducible exact hb6 | with_reducible exact hb5 | with_reducible exact hb4 | with_reducible exact hb3 | with_reducible exact hb2 | with_reducible exact hb1 | with_reducible refine Ext.alloc ?_ _ | with_reducible refine Ext.drew ?_ | ((with_reducible refine Ext.set ?_ ?_ _); focus (dsimp only; omega)) | with_reducible refine Ext.trans ?_ hb9 | with_reducible refine Ext.trans ?_ hb8 | with_reducible refine Ext.trans ?_ hb7 | with_reducible refine Ext.trans ?_ hb6 | with_reducible refine Ext.trans ?_ hb5 | with_reducible refine Ext.trans ?_ hb4 | with_reducible refine Ext.trans ?_ hb3 | with_reducible refine Ext.trans ?_ hb2 | with_reducible refine Ext.trans ?_ hb1 | with_reducible refine Ext.trans ?_ hw))))) ?_
  rintro e w1 ⟨rfl, hb1⟩
  have bP : BoxAt w1 w.heap.size #[.int .u64 (lo p), .int .u64 (hi p)] 33 := (BoxAt.new' rfl).ext hb1
  have c0 := bP.cell 0
  have c1 := bP.cell 1
  have l1 := bP.lt
  have hw : Ext w w1 := by ((repeat (first | with_reducible exact Ext.refl _ | with_reducible exact hw | with_reducible exact hb9 | with_reducible exact hb8 | with_reducible exact hb7 | with_reducible exact hb6 | with_reducible exact hb5 | with_reducible exact hb4 | with_reducible exact hb3 | with_reducible exact hb2 | with_reducible exact hb1 | with_reducible refine Ext.alloc ?_ _ | with_reducible refine Ext.drew ?_ | ((with_reducible refine Ext.set ?_ ?_ _); focus (dsimp only; omega)) | with_reducible refine Ext.trans ?_ hb9 | with_reducible refine Ext.trans ?_ hb8 | with_reducible refine Ext.trans ?_ hb7 | with_reducible refine Ext.trans ?_ hb6 | with_reducible refine Ext.trans ?_ hb5 | with_reducible refine Ext.trans ?_ hb4 | with_reducible refine Ext.trans ?_ hb3 | with_reducible refine Ext.trans ?_ hb2 | with_reducible refine Ext.trans ?_ hb1 | with_reducible refine Ext.trans ?_ hw)))
  clear hb1
  go_wp2
  refine wp_region_ext (by kernel_rfl) (by kernel_rfl) ?_
  repeat (first | go_big_quiet_step ((first | (go_at_call 78; with_reducible exact Calls.ext_of (spec_l01Less _ _ _)) | (go_at_call 32; with_reducible exact Calls.ext_of (spec_CountHoles _ _)))) | quiet_step ((first | (go_at_call 78; with_reducible exact Calls.ext_of (spec_l01Less _ _ _)) | (go_at_call 32; with_reducible exact Calls.ext_of (spec_CountHoles _ _)))))
  refine wpQuiet_nil ?_
  intro w2 hq2
  have hb2 := ext_of_class hq2
  clear hq2
  obtain ⟨hc2, hf2, hz2⟩ := bcell3 hb2
  try simp at hz2
  go_wp2
  go_ret
  exact ⟨rfl, by ((repeat (first | with_reducible exact Ext.refl _ | with_reducible exact hw | with_reducible exact hb9 | with_reducible exact hb8 | with_reducible exact hb7 | with_reducible exact hb6 | with_reducible exact hb5 | with_reducible exact hb4 | with_reducible exact hb3 | with_reducible exact hb2 | with_reducible exact hb1 | with_reducible refine Ext.alloc ?_ _ | with_reducible refine Ext.drew ?_ | ((with_reducible refine Ext.set ?_ ?_ _); focus (dsimp only; omega)) | with_reducible refine Ext.trans ?_ hb9 | with_reducible refine Ext.trans ?_ hb8 | with_reducible refine Ext.trans ?_ hb7 | with_reducible refine Ext.trans ?_ hb6 | with_reducible refine Ext.trans ?_ hb5 | with_reducible refine Ext.trans ?_ hb4 | with_reducible refine Ext.trans ?_ hb3 | with_reducible refine Ext.trans ?_ hb2 | with_reducible refine Ext.trans ?_ hb1 | with_reducible refine Ext.trans ?_ hw)))⟩
/-- The state behind the first k values, in the program's way. -/
def NvI (d : Nat → Int) (k : Nat) (be le ma : Int) : Prop := (k = 0 ∧ be = 0 ∧ le = -1 ∧ ma = 0) ∨ (∃ j, k = j + 1 ∧ nvF d j = (be, le, ma))
set_option maxHeartbeats 1000000 in
theorem impl_NearestValue (nm : ByteArray) (kd st sz : Int) (hok : Fld.ok ⟨nm, kd, st, sz⟩) (hnmx : nm.size ≤ 9223372036854775807) (m : Mask) (w : World) :
    Calls Tryd.prog 37 #[.agg #[.string nm, .int .i8 kd, .int .i16 st, .int .i16 sz], .agg #[.int .u64 (lo m), .int .u64 (hi m)]] w fun e w' => e = .returned (.tuple #[.int .i64 (nearestF ⟨nm, kd, st, sz⟩ m).1, .int .i64 (nearestF ⟨nm, kd, st, sz⟩ m).2.1, .int .i64 (nearestF ⟨nm, kd, st, sz⟩ m).2.2]) ∧ Ext w w' := by
  have hx := @ExtOf.cell
  obtain ⟨⟨a0, a1⟩, ⟨a2, a3⟩, a4, a5⟩ := hok
  dsimp only at a0 a1 a2 a3 a4 a5
  have hif := fun W => impl_isField nm kd st sz a0 a1 a2 a3 a4 a5 hnmx W
  cases hf : fldB ⟨nm, kd, st, sz⟩ with
  | false =>
    have hv := hd (show nearestF ⟨nm, kd, st, sz⟩ m = (0, 0, 1) by unfold nearestF; rw [hf]; rfl)
    rw [hf] at hif
    go_enter Tryd.func37, Tryd.ntmps37
    go_wp2_with fail
    refine Calls.mono (hif _) ?_
    rintro e w1 ⟨rfl, hb1⟩
    go_wp2
    refine bodyPost_ret (v := .tuple #[.int .i64 0, .int .i64 0, .int .i64 1]) (by simp [results, Tryd.results37, go_sem]) rfl ⟨by rw [hv.out], ?_⟩
    (repeat (first | with_reducible exact Ext.refl _ | with_reducible exact hw | with_reducible exact hb9 | with_reducible exact hb8 | with_reducible exact hb7 | with_reducible exact hb6 | with_reducible exact hb5 | with_reducible exact hb4 | with_reducible exact hb3 | with_reducible exact hb2 | with_reducible exact hb1 | with_reducible refine Ext.alloc ?_ _ | with_reducible refine Ext.drew ?_ | ((with_reducible refine Ext.set ?_ ?_ _); focus (dsimp only; omega)) | with_reducible refine Ext.trans ?_ hb9 | with_reducible refine Ext.trans ?_ hb8 | with_reducible refine Ext.trans ?_ hb7 | with_reducible refine Ext.trans ?_ hb6 | with_reducible refine Ext.trans ?_ hb5 | with_reducible refine Ext.trans ?_ hb4 | with_reducible refine Ext.trans ?_ hb3 | with_reducible refine Ext.trans ?_ hb2 | with_reducible refine Ext.trans ?_ hb1 | with_reducible refine Ext.trans ?_ hw))
  | true =>
    rw [hf] at hif
    cases hm : isMaskB m with
    | false =>
      have hv := hd (show nearestF ⟨nm, kd, st, sz⟩ m = (0, 0, 1) by unfold nearestF; rw [hf, hm]; rfl)
      have him := fun W => impl_isMask m W
      rw [hm] at him
      go_enter Tryd.func37, Tryd.ntmps37
      go_wp2_with fail
      refine Calls.mono (hif _) ?_
      rintro e w1 ⟨rfl, hb1⟩
      obtain ⟨hc1, hf1, hz1⟩ := bcell3 hb1
      try simp at hz1
      have hz1_0 : w.heap.size < w1.heap.size := by omega
      have hz1_1 : w.heap.size + 1 < w1.heap.size := by omega
      go_wp2_with fail
      refine Calls.mono (him _) ?_
      rintro e w2 ⟨rfl, hb2⟩
      go_wp2
      refine bodyPost_ret (v := .tuple #[.int .i64 0, .int .i64 0, .int .i64 1]) (by simp [results, Tryd.results37, go_sem]) rfl ⟨by rw [hv.out], ?_⟩
      (repeat (first | with_reducible exact Ext.refl _ | with_reducible exact hw | with_reducible exact hb9 | with_reducible exact hb8 | with_reducible exact hb7 | with_reducible exact hb6 | with_reducible exact hb5 | with_reducible exact hb4 | with_reducible exact hb3 | with_reducible exact hb2 | with_reducible exact hb1 | with_reducible refine Ext.alloc ?_ _ | with_reducible refine Ext.drew ?_ | ((with_reducible refine Ext.set ?_ ?_ _); focus (dsimp only; omega)) | with_reducible refine Ext.trans ?_ hb9 | with_reducible refine Ext.trans ?_ hb8 | with_reducible refine Ext.trans ?_ hb7 | with_reducible refine Ext.trans ?_ hb6 | with_reducible refine Ext.trans ?_ hb5 | with_reducible refine Ext.trans ?_ hb4 | with_reducible refine Ext.trans ?_ hb3 | with_reducible refine Ext.trans ?_ hb2 | with_reducible refine Ext.trans ?_ hb1 | with_reducible refine Ext.trans ?_ hw))
    | true =>
      have him := fun W => impl_isMask m W
      rw [hm] at him
      obtain ⟨_, k0, k3, s0, z0, z1, z2⟩ := fldB_parts hf
      dsimp only at k0 k3 s0 z0 z1 z2
      have hmo := fun W => impl_most nm kd st sz k0 k3 z0 z1 W
      have hml := mostF_le _ hf
      have henc := fun (v : Int) (h0 : 0 ≤ v) (h1 : v ≤ mostF ⟨nm, kd, st, sz⟩) (W : World) => impl_encode nm kd st sz v hf h0 h1 W
      have hpa := fun W => impl_part nm kd st sz hf W
      have hv := hd (show nearestF ⟨nm, kd, st, sz⟩ m = if 1 < (nvF (dOf ⟨nm, kd, st, sz⟩ (mmeet m (partF ⟨nm, kd, st, sz⟩))) (mostF ⟨nm, kd, st, sz⟩).toNat).2.2 then (0, 0, 4) else ((nvF (dOf ⟨nm, kd, st, sz⟩ (mmeet m (partF ⟨nm, kd, st, sz⟩))) (mostF ⟨nm, kd, st, sz⟩).toNat).1, (nvF (dOf ⟨nm, kd, st, sz⟩ (mmeet m (partF ⟨nm, kd, st, sz⟩))) (mostF ⟨nm, kd, st, sz⟩).toNat).2.1, 0) by
        unfold nearestF; rw [hf, hm]; rfl)
      generalize partF ⟨nm, kd, st, sz⟩ = p at hpa hv
      generalize mostF ⟨nm, kd, st, sz⟩ = mo at hmo hml henc hv
      go_enter Tryd.func37, Tryd.ntmps37
      go_wp2_with fail
      refine Calls.mono (hif _) ?_
      rintro e w1 ⟨rfl, hb1⟩
      obtain ⟨hc1, hf1, hz1⟩ := bcell3 hb1
      try simp at hz1
      have hz1_0 : w.heap.size < w1.heap.size := by omega
      have hz1_1 : w.heap.size + 1 < w1.heap.size := by omega
      go_wp2_with fail
      refine Calls.mono (him _) ?_
      rintro e w3 ⟨rfl, hb3⟩
      have m0 : w3.cell? ⟨w.heap.size, 0, none⟩ = some (.string nm) := hb3.cell (by go_simp)
      have m1 : w3.cell? ⟨w.heap.size, 1, none⟩ = some (.int .i8 kd) := hb3.cell (by go_simp)
      have m2 : w3.cell? ⟨w.heap.size, 2, none⟩ = some (.int .i16 st) := hb3.cell (by go_simp)
      have m3 : w3.cell? ⟨w.heap.size, 3, none⟩ = some (.int .i16 sz) := hb3.cell (by go_simp)
      have n0 : w3.cell? ⟨w.heap.size + 1, 0, none⟩ = some (.int .u64 (lo m)) := hb3.cell (by go_simp)
      have n1 : w3.cell? ⟨w.heap.size + 1, 1, none⟩ = some (.int .u64 (hi m)) := hb3.cell (by go_simp)
      have l3 : w.heap.size + 1 < w3.heap.size := by have := hb3.size; omega
      have l3b : w.heap.size < w3.heap.size := by omega
      have hw3 : Ext w w3 := by ((repeat (first | with_reducible exact Ext.refl _ | with_reducible exact hw | with_reducible exact hb9 | with_reducible exact hb8 | with_reducible exact hb7 | with_reducible exact hb6 | with_reducible exact hb5 | with_reducible exact hb4 | with_reducible exact hb3 | with_reducible exact hb2 | with_reducible exact hb1 | with_reducible refine Ext.alloc ?_ _ | with_reducible refine Ext.drew ?_ | ((with_reducible refine Ext.set ?_ ?_ _); focus (dsimp only; omega)) | with_reducible refine Ext.trans ?_ hb9 | with_reducible refine Ext.trans ?_ hb8 | with_reducible refine Ext.trans ?_ hb7 | with_reducible refine Ext.trans ?_ hb6 | with_reducible refine Ext.trans ?_ hb5 | with_reducible refine Ext.trans ?_ hb4 | with_reducible refine Ext.trans ?_ hb3 | with_reducible refine Ext.trans ?_ hb2 | with_reducible refine Ext.trans ?_ hb1 | with_reducible refine Ext.trans ?_ hw)))
      clear hc1 hf1 hb1 hb3 hz1 hz1_0 hz1_1
      go_wp2_with fail
      refine wp_region_float 4 4 7 _ #[.int .u64 0, .int .u64 0] 33 (by kernel_rfl) (by kernel_rfl) rfl rfl rfl rfl (fun _ _ => by go_simp) (by intro d _ _ _ _ h; cases d <;> exact h) ?_
      simp only [List.take_succ_cons, List.take_zero, List.drop_succ_cons, List.drop_zero]
      repeat (refine wpX_step (fun K hK => ?_); go_simp; first | (refine hK _ ?_; clear hK K) | (apply Exists.intro; refine ⟨fun x => ?_, hK _ ?_⟩; ((first | (go_at_call 84; with_reducible exact hpa _) | (go_at_call 52; with_reducible exact impl_MeetMasks m p _))); clear hK K))
      refine wpX_nil ?_
      intro b2 w2 hb2 hbb2 hcb2
      obtain ⟨hc2, hf2, hz2⟩ := bcell3 hb2
      try simp at hz2
      try simp at hbb2
      have hbl2 := blk_lt hcb2
      have hbf2 := blk_free hcb2
      have hbc2_0 : w2.cell? ⟨b2, 0, none⟩ = some (.int .u64 0) := blk_cell hcb2 0 rfl
      have hbc2_1 : w2.cell? ⟨b2, 1, none⟩ = some (.int .u64 0) := blk_cell hcb2 1 rfl
      clear hcb2
      generalize mmeet m p = x at hv
      go_wp2_with fail
      refine Calls.mono (hmo _) ?_
      rintro e w4 ⟨rfl, hb4⟩
      have o0 : w4.cell? ⟨b2, 0, none⟩ = some (.int .u64 (lo x)) := hb4.cell (by go_simp)
      have o1 : w4.cell? ⟨b2, 1, none⟩ = some (.int .u64 (hi x)) := hb4.cell (by go_simp)
      have m0 : w4.cell? ⟨w.heap.size, 0, none⟩ = some (.string nm) := hb4.cell (by go_simp)
      have m1 : w4.cell? ⟨w.heap.size, 1, none⟩ = some (.int .i8 kd) := hb4.cell (by go_simp)
      have m2 : w4.cell? ⟨w.heap.size, 2, none⟩ = some (.int .i16 st) := hb4.cell (by go_simp)
      have m3 : w4.cell? ⟨w.heap.size, 3, none⟩ = some (.int .i16 sz) := hb4.cell (by go_simp)
      have hw4 : Ext w w4 := Ext.trans (Ext.set (by dsimp only; have := hw3.size; omega) (Ext.set (by dsimp only; have := hw3.size; omega) (hw3.trans hb2) _) _) hb4
      clear hc2 hf2 hb2 hbf2 hbc2_0 hbc2_1 hz2 n0 n1 hb4 hw3 hpa him hif
      have wm : IntKind.i64.wrap (mo + 1) = mo + 1 := IntWalk.i64_in _ (by omega)
      go_wp2
      go_loopg [8, 9, 10, 28] (mo + 1).toNat (fun g be le ma i wr => ∃ (k : Nat) (b l n : Int), g = (mo + 1).toNat - k ∧ k ≤ (mo + 1).toNat ∧ i = .int .i64 k ∧ be = .int .i64 b ∧ le = .int .i64 l ∧ ma = .int .i64 n ∧ Hd (NvI (dOf ⟨nm, kd, st, sz⟩ x) k b l n) ∧ Ext w4 wr)
      case atStart => exact ⟨0, 0, -1, 0, by omega, by omega, rfl, rfl, rfl, rfl, hd (.inl ⟨rfl, rfl, rfl, rfl⟩), Ext.refl _⟩
      case round =>
        obtain ⟨k, b, l, n, hg, hk, rfl, rfl, rfl, rfl, hn, hw⟩ := hrel
        have o0 := hw.cell o0
        have o1 := hw.cell o1
        have m0 := hw.cell m0
        have m1 := hw.cell m1
        have m2 := hw.cell m2
        have m3 := hw.cell m3
        have lb2 := World.block_lt_of_cell? _ _ o0
        have lw := World.block_lt_of_cell? _ _ m0
        dsimp only at lb2 lw
        by_cases hkl : k < (mo + 1).toNat
        · have hks : (k : Int) < mo + 1 := by omega
          have henk := fun W => henc k (by omega) (by omega) W
          have hd0 : 0 ≤ dOf ⟨nm, kd, st, sz⟩ x k := distM_ge _ _
          have hdi : ∀ W, Calls Tryd.prog 85 #[.agg #[.int .u64 (lo (codeF ⟨nm, kd, st, sz⟩ k)), .int .u64 (hi (codeF ⟨nm, kd, st, sz⟩ k))], .agg #[.int .u64 (lo x), .int .u64 (hi x)]] W fun e w' => e = .returned (.int .i64 (dOf ⟨nm, kd, st, sz⟩ x k)) ∧ Ext W w' := fun W => impl_distance _ _ W
          have hn0 := hn.out
          generalize codeF ⟨nm, kd, st, sz⟩ k = cm at henk hdi
          rcases hn0 with ⟨q0, q1, q2, q3⟩ | ⟨j, q0, q1⟩
          · subst q0 q1 q2 q3
            have hnx := hd (show NvI (dOf ⟨nm, kd, st, sz⟩ x) 1 0 (dOf ⟨nm, kd, st, sz⟩ x 0) 1 from .inr ⟨0, rfl, rfl⟩)
            generalize dOf ⟨nm, kd, st, sz⟩ x 0 = dd at hd0 hdi hnx
            clear hn
            go_wp2
            refine wp_region_ext (by kernel_rfl) (by kernel_rfl) ?_
            repeat (first | go_big_quiet_step ((first | (go_at_call 70; with_reducible exact Calls.ext_all (fun W _ => henk W)) | (go_at_call 85; with_reducible exact Calls.ext_all (fun W _ => hdi W)))) | quiet_step ((first | (go_at_call 70; with_reducible exact Calls.ext_all (fun W _ => henk W)) | (go_at_call 85; with_reducible exact Calls.ext_all (fun W _ => hdi W)))))
            refine wpQuiet_nil ?_
            intro w5 hq5
            have hb5 := ext_of_class hq5
            clear hq5
            obtain ⟨hc5, hf5, hz5⟩ := bcell3 hb5
            try simp at hz5
            go_wp2
            go_roundg ((mo + 1).toNat - 1)
            case rel => exact ⟨1, _, _, _, rfl, by omega, by simp, rfl, rfl, by simp, hnx, hw.trans hb5⟩
            case measure => omega
          · subst q0
            simp only [Int.natCast_add, Int.cast_ofNat_Int, Int.natCast_one] at henk
            have hnb := nvF_many (dOf ⟨nm, kd, st, sz⟩ x) j
            have hnl := (nvF_least (dOf ⟨nm, kd, st, sz⟩ x) 0 256 (fun k => ⟨distM_ge _ _, distM_le _ _⟩) j).1
            rw [q1] at hnb hnl
            dsimp only at hnb hnl
            have hlt := fun h => hd (nvF_less (d := dOf ⟨nm, kd, st, sz⟩ x) (k := j) h)
            have heq := fun h => hd (nvF_same (d := dOf ⟨nm, kd, st, sz⟩ x) (k := j) h)
            have hmore := fun h1 h2 => hd (nvF_more (d := dOf ⟨nm, kd, st, sz⟩ x) (k := j) h1 h2)
            rw [q1] at hlt heq hmore
            dsimp only at hlt heq hmore
            have hnx : ∀ b' l' n', nvF (dOf ⟨nm, kd, st, sz⟩ x) (j + 1) = (b', l', n') → Hd (NvI (dOf ⟨nm, kd, st, sz⟩ x) (j + 1 + 1) b' l' n') := fun b' l' n' h => hd (.inr ⟨j + 1, rfl, h⟩)
            generalize dOf ⟨nm, kd, st, sz⟩ x (j + 1) = dd at hd0 hdi hlt heq hmore
            clear hn q1
            have hl0 : ¬ l < 0 := by omega
            by_cases c1 : dd < l
            · have hnx2 := hnx _ _ _ (hlt c1).out
              clear hlt heq hmore hnx
              go_wp2
              refine wp_region_ext (by kernel_rfl) (by kernel_rfl) ?_
              repeat (first | go_big_quiet_step ((first | (go_at_call 70; with_reducible exact Calls.ext_all (fun W _ => henk W)) | (go_at_call 85; with_reducible exact Calls.ext_all (fun W _ => hdi W)))) | quiet_step ((first | (go_at_call 70; with_reducible exact Calls.ext_all (fun W _ => henk W)) | (go_at_call 85; with_reducible exact Calls.ext_all (fun W _ => hdi W)))))
              refine wpQuiet_nil ?_
              intro w5 hq5
              have hb5 := ext_of_class hq5
              clear hq5
              obtain ⟨hc5, hf5, hz5⟩ := bcell3 hb5
              try simp at hz5
              go_wp2
              go_roundg ((mo + 1).toNat - (j + 1 + 1))
              case rel => exact ⟨j + 1 + 1, (j : Int) + 1, dd, 1, rfl, by omega, by simp, rfl, rfl, by simp, hnx2, hw.trans hb5⟩
              case measure => omega
            · by_cases c2 : dd = l
              · have hnx2 := hnx _ _ _ (heq c2).out
                clear hlt heq hmore hnx
                subst c2
                have wn : IntKind.i64.wrap (n + 1) = n + 1 := IntWalk.i64_in _ (by omega)
                go_wp2
                refine wp_region_ext (by kernel_rfl) (by kernel_rfl) ?_
                repeat (first | go_big_quiet_step ((first | (go_at_call 70; with_reducible exact Calls.ext_all (fun W _ => henk W)) | (go_at_call 85; with_reducible exact Calls.ext_all (fun W _ => hdi W)))) | quiet_step ((first | (go_at_call 70; with_reducible exact Calls.ext_all (fun W _ => henk W)) | (go_at_call 85; with_reducible exact Calls.ext_all (fun W _ => hdi W)))))
                refine wpQuiet_nil ?_
                intro w5 hq5
                have hb5 := ext_of_class hq5
                clear hq5
                obtain ⟨hc5, hf5, hz5⟩ := bcell3 hb5
                try simp at hz5
                go_wp2
                go_roundg ((mo + 1).toNat - (j + 1 + 1))
                case rel => exact ⟨j + 1 + 1, _, _, _, rfl, by omega, by simp, rfl, rfl, rfl, hnx2, hw.trans hb5⟩
                case measure => omega
              · have hnx2 := hnx _ _ _ (hmore c1 c2).out
                clear hlt heq hmore hnx
                have c2b : (dd == l) = false := by simp [c2]
                go_wp2
                refine wp_region_ext (by kernel_rfl) (by kernel_rfl) ?_
                repeat (first | go_big_quiet_step ((first | (go_at_call 70; with_reducible exact Calls.ext_all (fun W _ => henk W)) | (go_at_call 85; with_reducible exact Calls.ext_all (fun W _ => hdi W)))) | quiet_step ((first | (go_at_call 70; with_reducible exact Calls.ext_all (fun W _ => henk W)) | (go_at_call 85; with_reducible exact Calls.ext_all (fun W _ => hdi W)))))
                refine wpQuiet_nil ?_
                intro w5 hq5
                have hb5 := ext_of_class hq5
                clear hq5
                obtain ⟨hc5, hf5, hz5⟩ := bcell3 hb5
                try simp at hz5
                go_wp2
                go_roundg ((mo + 1).toNat - (j + 1 + 1))
                case rel => exact ⟨j + 1 + 1, _, _, _, rfl, by omega, by simp, rfl, rfl, rfl, hnx2, hw.trans hb5⟩
                case measure => omega
        · obtain rfl : k = (mo + 1).toNat := by omega
          have hks : (((mo + 1).toNat : Nat) : Int) = mo + 1 := by omega
          have hj : nvF (dOf ⟨nm, kd, st, sz⟩ x) mo.toNat = (b, l, n) := by
            rcases hn.out with ⟨q0, _⟩ | ⟨j, q0, q1⟩
            · omega
            · rw [show mo.toNat = j by omega]; exact q1
          rw [hj] at hv
          clear hj hn
          by_cases hm1 : 1 < n
          · have hv2 := hd (hv.out.trans (if_pos hm1))
            clear hv
            go_wp2
            refine bodyPost_ret (v := .tuple #[.int .i64 0, .int .i64 0, .int .i64 4]) (by simp [results, Tryd.results37, go_sem]) rfl ⟨by rw [hv2.out], hw4.trans hw⟩
          · have hv2 := hd (hv.out.trans (if_neg hm1))
            clear hv
            go_wp2
            refine bodyPost_ret (v := .tuple #[.int .i64 b, .int .i64 l, .int .i64 0]) (by simp [results, Tryd.results37, go_sem]) rfl ⟨by rw [hv2.out], hw4.trans hw⟩
end Go.Proofs.YtegopgpnjgikeaaDoor
set_option linter.unusedVariables false
set_option linter.unusedSimpArgs false
set_option maxRecDepth 100000
namespace Go.Proofs.YtegopgpnjgikeaaDoor
open Go.RowKit
theorem isMask_join {a b : Mask} (ha : isMaskB a = true) (hb : isMaskB b = true) : isMaskB (mjoin a b) = true := by
  unfold isMaskB mjoin at *
  rw [decide_eq_true_eq] at *
  rw [BitVec.toNat_or]
  exact Nat.or_lt_two_pow (n := 96) ha hb
theorem isMask_meet {a b : Mask} (ha : isMaskB a = true) : isMaskB (mmeet a b) = true := by
  unfold isMaskB mmeet at *
  rw [decide_eq_true_eq] at *
  rw [BitVec.toNat_and]
  exact Nat.lt_of_le_of_lt Nat.and_le_left ha
theorem isMask_bit {h : Int} (h0 : 0 ≤ h) (h1 : h < 96) : isMaskB (mbit h) = true := by
  unfold isMaskB
  rw [decide_eq_true_eq, mbit_toNat h h0 (by omega)]
  have h2 : h.toNat < 96 := by omega
  exact (Nat.pow_lt_pow_iff_right (a := 2) (by decide)).2 h2
theorem isMask_notch {m : Mask} {st holes b : Int} (hm : isMaskB m = true) (h0 : 0 ≤ st) : ∀ k : Nat, st + k ≤ 96 → isMaskB (notchTo m st holes b k) = true
  | 0, _ => hm
  | k + 1, hk => by
    have ih := isMask_notch (holes := holes) (b := b) hm h0 k (by omega)
    rw [notchTo]
    split
    · exact isMask_join ih (isMask_bit (by omega) (by omega))
    · exact ih
theorem isMask_or {g : Nat → Mask} : ∀ k : Nat, (∀ i, i < k → isMaskB (g i) = true) → isMaskB (orTo g k) = true
  | 0, _ => isMask_zero
  | k + 1, h => isMask_join (isMask_or k (fun i hi => h i (by omega))) (h k (by omega))
theorem isMask_with : ∀ (hs : List Int) {m : Mask}, isMaskB m = true → (∀ h ∈ hs, 0 ≤ h ∧ h < 96) → isMaskB (mwith m hs) = true
  | [], _, hm, _ => hm
  | h :: hs, m, hm, hh => isMask_with hs (isMask_join hm (isMask_bit (hh h (by simp)).1 (hh h (by simp)).2)) (fun x hx => hh x (by simp [hx]))
theorem isMask_code {f : Fld} (hf : fldB f = true) {v : Int} (v0 : 0 ≤ v) (v1 : v ≤ mostF f) : isMaskB (codeF f v) = true := by
  obtain ⟨_, k0, k3, s0, z0, z1, z2⟩ := fldB_parts hf
  obtain ⟨nm, kd, st, sz⟩ := f
  dsimp only at *
  rcases (show kd = 0 ∨ kd = 3 ∨ kd = 1 ∨ kd = 2 by omega) with rfl | rfl | rfl | rfl
  · rw [manyF0 sz (by decide) (by decide) (by decide)] at z2
    have v2 : v ≤ sz - 1 := v1
    exact isMask_bit (by show 0 ≤ st + v; omega) (by show st + v < 96; omega)
  · rw [manyF3] at z2
    show isMaskB (binF st sz v) = true
    unfold binF
    have hn := isMask_notch (m := 0) (holes := sz) (b := v) isMask_zero s0 sz.toNat (by omega)
    split
    · exact isMask_join hn (isMask_bit (by omega) (by omega))
    · exact hn
  · rw [manyF1] at z2
    show isMaskB (orTo (digG 1 st sz v) sz.toNat) = true
    refine isMask_or _ (fun i hi => ?_)
    unfold digG digP
    refine isMask_with _ isMask_zero (fun h hh => ?_)
    rw [List.mem_map] at hh
    obtain ⟨x, hx, rfl⟩ := hh
    have := digL_small 1 _ x hx
    rw [show digW 1 = 4 from rfl] at *
    omega
  · rw [manyF2] at z2
    show isMaskB (orTo (digG 2 st sz v) sz.toNat) = true
    refine isMask_or _ (fun i hi => ?_)
    unfold digG digP
    refine isMask_with _ isMask_zero (fun h hh => ?_)
    rw [List.mem_map] at hh
    obtain ⟨x, hx, rfl⟩ := hh
    have := digL_small 2 _ x hx
    rw [show digW 2 = 5 from rfl] at *
    omega
theorem dOf_96 {f : Fld} (hf : fldB f = true) {m p : Mask} (hm : isMaskB m = true) {k : Nat} (hk : (k : Int) ≤ mostF f) : dOf f (mmeet m p) k ≤ 96 :=
  distM_96 (isMask_code hf (by omega) hk) (isMask_meet hm)
/-- The state behind the first k values, in the reference's way. -/
def NvS (d : Nat → Int) (k : Nat) (be le : Int) (several : Bool) : Prop := (k = 0 ∧ be = 0 ∧ le = 97 ∧ several = false) ∨ (∃ j n, k = j + 1 ∧ nvF d j = (be, le, n) ∧ several = decide (1 < n))
set_option maxHeartbeats 1000000 in
theorem spec_NearestValue (nm : ByteArray) (kd st sz : Int) (hok : Fld.ok ⟨nm, kd, st, sz⟩) (hnmx : nm.size ≤ 9223372036854775807) (m : Mask) (w : World) :
    Calls Tryd.prog 38 #[.agg #[.string nm, .int .i8 kd, .int .i16 st, .int .i16 sz], .agg #[.int .u64 (lo m), .int .u64 (hi m)]] w fun e w' => e = .returned (.tuple #[.int .i64 (nearestF ⟨nm, kd, st, sz⟩ m).1, .int .i64 (nearestF ⟨nm, kd, st, sz⟩ m).2.1, .int .i64 (nearestF ⟨nm, kd, st, sz⟩ m).2.2]) ∧ Ext w w' := by
  have hx := @ExtOf.cell
  obtain ⟨⟨a0, a1⟩, ⟨a2, a3⟩, a4, a5⟩ := hok
  dsimp only at a0 a1 a2 a3 a4 a5
  have hA : FldAt ((w.alloc (.cells #[.string nm, .int .i8 kd, .int .i16 st, .int .i16 sz] 48)).alloc (.cells #[.int .u64 (lo m), .int .u64 (hi m)] 33)) w.heap.size 0 ⟨nm, kd, st, sz⟩ := ⟨by go_simp, by go_simp, by go_simp, by go_simp⟩
  have hif := spec_l01Field nm kd st sz w.heap.size 0 a0 a1 a2 a3 a4 a5 hnmx _ hA (by simp <;> omega)
  cases hf : fldB ⟨nm, kd, st, sz⟩ with
  | false =>
    have hv := hd (show nearestF ⟨nm, kd, st, sz⟩ m = (0, 0, 1) by unfold nearestF; rw [hf]; rfl)
    rw [hf] at hif
    clear hA
    go_enter Tryd.func38, Tryd.ntmps38
    go_wp2_with fail
    refine Calls.mono (hif) ?_
    rintro e w1 ⟨rfl, hb1⟩
    go_wp2
    refine bodyPost_ret (v := .tuple #[.int .i64 0, .int .i64 0, .int .i64 1]) (by simp [results, Tryd.results38, go_sem]) rfl ⟨by rw [hv.out], ?_⟩
    (repeat (first | with_reducible exact Ext.refl _ | with_reducible exact hw | with_reducible exact hb9 | with_reducible exact hb8 | with_reducible exact hb7 | with_reducible exact hb6 | with_reducible exact hb5 | with_reducible exact hb4 | with_reducible exact hb3 | with_reducible exact hb2 | with_reducible exact hb1 | with_reducible refine Ext.alloc ?_ _ | with_reducible refine Ext.drew ?_ | ((with_reducible refine Ext.set ?_ ?_ _); focus (dsimp only; omega)) | with_reducible refine Ext.trans ?_ hb9 | with_reducible refine Ext.trans ?_ hb8 | with_reducible refine Ext.trans ?_ hb7 | with_reducible refine Ext.trans ?_ hb6 | with_reducible refine Ext.trans ?_ hb5 | with_reducible refine Ext.trans ?_ hb4 | with_reducible refine Ext.trans ?_ hb3 | with_reducible refine Ext.trans ?_ hb2 | with_reducible refine Ext.trans ?_ hb1 | with_reducible refine Ext.trans ?_ hw))
  | true =>
    rw [hf] at hif
    cases hm : isMaskB m with
    | false =>
      have hv := hd (show nearestF ⟨nm, kd, st, sz⟩ m = (0, 0, 1) by unfold nearestF; rw [hf, hm]; rfl)
      have him := fun W => spec_l01Mask m W
      rw [hm] at him
      clear hA
      go_enter Tryd.func38, Tryd.ntmps38
      go_wp2_with fail
      refine Calls.mono (hif) ?_
      rintro e w1 ⟨rfl, hb1⟩
      obtain ⟨hc1, hf1, hz1⟩ := bcell3 hb1
      try simp at hz1
      have hz1_0 : w.heap.size < w1.heap.size := by omega
      have hz1_1 : w.heap.size + 1 < w1.heap.size := by omega
      go_wp2_with fail
      refine Calls.mono (him _) ?_
      rintro e w2 ⟨rfl, hb2⟩
      go_wp2
      refine bodyPost_ret (v := .tuple #[.int .i64 0, .int .i64 0, .int .i64 1]) (by simp [results, Tryd.results38, go_sem]) rfl ⟨by rw [hv.out], ?_⟩
      (repeat (first | with_reducible exact Ext.refl _ | with_reducible exact hw | with_reducible exact hb9 | with_reducible exact hb8 | with_reducible exact hb7 | with_reducible exact hb6 | with_reducible exact hb5 | with_reducible exact hb4 | with_reducible exact hb3 | with_reducible exact hb2 | with_reducible exact hb1 | with_reducible refine Ext.alloc ?_ _ | with_reducible refine Ext.drew ?_ | ((with_reducible refine Ext.set ?_ ?_ _); focus (dsimp only; omega)) | with_reducible refine Ext.trans ?_ hb9 | with_reducible refine Ext.trans ?_ hb8 | with_reducible refine Ext.trans ?_ hb7 | with_reducible refine Ext.trans ?_ hb6 | with_reducible refine Ext.trans ?_ hb5 | with_reducible refine Ext.trans ?_ hb4 | with_reducible refine Ext.trans ?_ hb3 | with_reducible refine Ext.trans ?_ hb2 | with_reducible refine Ext.trans ?_ hb1 | with_reducible refine Ext.trans ?_ hw))
    | true =>
      have him := fun W => spec_l01Mask m W
      rw [hm] at him
      have hmo := fun (W : World) (h : FldAt W w.heap.size 0 ⟨nm, kd, st, sz⟩) => spec_l01Most ⟨nm, kd, st, sz⟩ hf w.heap.size 0 W h
      have hml := mostF_le _ hf
      have hdif := fun (v : Int) (h0 : 0 ≤ v) (h1 : v ≤ mostF ⟨nm, kd, st, sz⟩) (p : Mask) (W : World) (h : FldAt W w.heap.size 0 ⟨nm, kd, st, sz⟩) => spec_l04Differ ⟨nm, kd, st, sz⟩ hf v h0 h1 p w.heap.size 0 W h
      have hpa := fun (W : World) (h : FldAt W w.heap.size 0 ⟨nm, kd, st, sz⟩) => spec_l01Part ⟨nm, kd, st, sz⟩ hf w.heap.size 0 W h
      have h96 := fun p k h => dOf_96 hf hm (p := p) (k := k) h
      have hv := hd (show nearestF ⟨nm, kd, st, sz⟩ m = if 1 < (nvF (dOf ⟨nm, kd, st, sz⟩ (mmeet m (partF ⟨nm, kd, st, sz⟩))) (mostF ⟨nm, kd, st, sz⟩).toNat).2.2 then (0, 0, 4) else ((nvF (dOf ⟨nm, kd, st, sz⟩ (mmeet m (partF ⟨nm, kd, st, sz⟩))) (mostF ⟨nm, kd, st, sz⟩).toNat).1, (nvF (dOf ⟨nm, kd, st, sz⟩ (mmeet m (partF ⟨nm, kd, st, sz⟩))) (mostF ⟨nm, kd, st, sz⟩).toNat).2.1, 0) by
        unfold nearestF; rw [hf, hm]; rfl)
      generalize partF ⟨nm, kd, st, sz⟩ = p at hpa hv
      generalize mostF ⟨nm, kd, st, sz⟩ = mo at hmo hml hdif hv h96
      go_enter Tryd.func38, Tryd.ntmps38
      go_wp2_with fail
      refine Calls.mono (hif) ?_
      rintro e w1 ⟨rfl, hb1⟩
      obtain ⟨hc1, hf1, hz1⟩ := bcell3 hb1
      try simp at hz1
      have hz1_0 : w.heap.size < w1.heap.size := by omega
      have hz1_1 : w.heap.size + 1 < w1.heap.size := by omega
      have hA := hA.ext hb1
      go_wp2_with fail
      refine Calls.mono (him _) ?_
      rintro e w3 ⟨rfl, hb3⟩
      have hA := hA.ext hb3
      have n0 : w3.cell? ⟨w.heap.size + 1, 0, none⟩ = some (.int .u64 (lo m)) := hb3.cell (by go_simp)
      have n1 : w3.cell? ⟨w.heap.size + 1, 1, none⟩ = some (.int .u64 (hi m)) := hb3.cell (by go_simp)
      have l3 : w.heap.size + 1 < w3.heap.size := by have := hb3.size; omega
      have l3b : w.heap.size < w3.heap.size := by omega
      have hw3 : Ext w w3 := by ((repeat (first | with_reducible exact Ext.refl _ | with_reducible exact hw | with_reducible exact hb9 | with_reducible exact hb8 | with_reducible exact hb7 | with_reducible exact hb6 | with_reducible exact hb5 | with_reducible exact hb4 | with_reducible exact hb3 | with_reducible exact hb2 | with_reducible exact hb1 | with_reducible refine Ext.alloc ?_ _ | with_reducible refine Ext.drew ?_ | ((with_reducible refine Ext.set ?_ ?_ _); focus (dsimp only; omega)) | with_reducible refine Ext.trans ?_ hb9 | with_reducible refine Ext.trans ?_ hb8 | with_reducible refine Ext.trans ?_ hb7 | with_reducible refine Ext.trans ?_ hb6 | with_reducible refine Ext.trans ?_ hb5 | with_reducible refine Ext.trans ?_ hb4 | with_reducible refine Ext.trans ?_ hb3 | with_reducible refine Ext.trans ?_ hb2 | with_reducible refine Ext.trans ?_ hb1 | with_reducible refine Ext.trans ?_ hw)))
      clear hc1 hf1 hb1 hb3 hz1 hz1_0 hz1_1
      go_wp2_with fail
      refine wp_region_float 3 3 7 _ #[.int .u64 0, .int .u64 0] 33 (by kernel_rfl) (by kernel_rfl) rfl rfl rfl rfl (fun _ _ => by go_simp) (by intro d _ _ _ _ h; cases d <;> exact h) ?_
      simp only [List.take_succ_cons, List.take_zero, List.drop_succ_cons, List.drop_zero]
      repeat (refine wpX_step (fun K hK => ?_); go_simp; first | (refine hK _ ?_; clear hK K) | (apply Exists.intro; refine ⟨fun x => ?_, hK _ ?_⟩; ((first | (go_at_call 77; with_reducible exact hpa _ (hA.ext (ExtOf.prop _))) | (go_at_call 79; with_reducible exact spec_l01Meet m p _))); clear hK K))
      refine wpX_nil ?_
      intro b2 w2 hb2 hbb2 hcb2
      obtain ⟨hc2, hf2, hz2⟩ := bcell3 hb2
      try simp at hz2
      try simp at hbb2
      have hbl2 := blk_lt hcb2
      have hbf2 := blk_free hcb2
      have hbc2_0 : w2.cell? ⟨b2, 0, none⟩ = some (.int .u64 0) := blk_cell hcb2 0 rfl
      have hbc2_1 : w2.cell? ⟨b2, 1, none⟩ = some (.int .u64 0) := blk_cell hcb2 1 rfl
      clear hcb2
      have h96 := h96 p
      have hws : Ext w3 w2 := hb2
      generalize mmeet m p = x at hv h96
      have hFs : FldAt ((w2.setCell ⟨b2, 0, none⟩ (.int .u64 (lo x))).setCell ⟨b2, 1, none⟩ (.int .u64 (hi x))) w.heap.size 0 ⟨nm, kd, st, sz⟩ := hA.ext (Ext.set (by dsimp only; omega) (Ext.set (by dsimp only; omega) hws _) _)
      have hw4 : Ext w ((w2.setCell ⟨b2, 0, none⟩ (.int .u64 (lo x))).setCell ⟨b2, 1, none⟩ (.int .u64 (hi x))) := Ext.set (by dsimp only; have := hw3.size; omega) (Ext.set (by dsimp only; have := hw3.size; omega) (hw3.trans hws) _) _
      have o0 : ((w2.setCell ⟨b2, 0, none⟩ (.int .u64 (lo x))).setCell ⟨b2, 1, none⟩ (.int .u64 (hi x))).cell? ⟨b2, 0, none⟩ = some (.int .u64 (lo x)) := by go_simp
      have o1 : ((w2.setCell ⟨b2, 0, none⟩ (.int .u64 (lo x))).setCell ⟨b2, 1, none⟩ (.int .u64 (hi x))).cell? ⟨b2, 1, none⟩ = some (.int .u64 (hi x)) := by go_simp
      go_wp2
      clear hc2 hf2 hb2 hbf2 hbc2_0 hbc2_1 hz2 n0 n1 hw3 hpa him hif hA hws
      generalize (w2.setCell ⟨b2, 0, none⟩ (.int .u64 (lo x))).setCell ⟨b2, 1, none⟩ (.int .u64 (hi x)) = W4 at hFs hw4 o0 o1
      go_loopg [8, 9, 10, 11] (mo + 1).toNat (fun g be le se i wr => ∃ (k : Nat) (b l : Int) (s : Bool), g = (mo + 1).toNat - k ∧ k ≤ (mo + 1).toNat ∧ i = .int .i64 k ∧ be = .int .i64 b ∧ le = .int .i64 l ∧ se = .bool s ∧ Hd (NvS (dOf ⟨nm, kd, st, sz⟩ x) k b l s) ∧ Ext W4 wr)
      case atStart => exact ⟨0, 0, 97, false, by omega, by omega, rfl, rfl, rfl, rfl, hd (.inl ⟨rfl, rfl, rfl, rfl⟩), Ext.refl _⟩
      case round =>
        obtain ⟨k, b, l, s, hg, hk, rfl, rfl, rfl, rfl, hn, hw⟩ := hrel
        go_wp2_with fail
        refine Calls.mono (hmo _ (hFs.ext hw)) ?_
        rintro e w3 ⟨rfl, hb3⟩
        have hw := hw.trans hb3
        clear hb3
        have o0 := hw.cell o0
        have o1 := hw.cell o1
        have hF3 := hFs.ext hw
        by_cases hkl : k < (mo + 1).toNat
        · have hks : (k : Int) ≤ mo := by omega
          have hd96 := h96 k hks
          have hdi : ∀ W, FldAt W w.heap.size 0 ⟨nm, kd, st, sz⟩ → Calls Tryd.prog 86 #[.pointer (some ⟨w.heap.size, 0, none⟩), .int .i64 k, .agg #[.int .u64 (lo x), .int .u64 (hi x)]] W fun e w' => e = .returned (.int .i64 (dOf ⟨nm, kd, st, sz⟩ x k)) ∧ Ext W w' := fun W h => hdif k (by omega) hks x W h
          have hn0 := hn.out
          rcases hn0 with ⟨q0, q1, q2, q3⟩ | ⟨j, n, q0, q1, q2⟩
          · subst q0 q1 q2 q3
            have hnx := hd (show NvS (dOf ⟨nm, kd, st, sz⟩ x) 1 0 (dOf ⟨nm, kd, st, sz⟩ x 0) false from .inr ⟨0, 1, rfl, rfl, rfl⟩)
            generalize dOf ⟨nm, kd, st, sz⟩ x 0 = dd at hdi hnx hd96
            clear hn
            go_wp2_with fail
            refine Calls.mono (hdi _ hF3) ?_
            rintro e w5 ⟨rfl, hb5⟩
            go_wp2
            go_roundg ((mo + 1).toNat - 1)
            case rel => exact ⟨1, _, _, _, rfl, by omega, by simp, rfl, rfl, rfl, hnx, hw.trans hb5⟩
            case measure => omega
          · subst q0 q2
            simp only [Int.natCast_add, Int.cast_ofNat_Int, Int.natCast_one] at hdi
            have hnb := nvF_many (dOf ⟨nm, kd, st, sz⟩ x) j
            rw [q1] at hnb
            dsimp only at hnb
            have hlt := fun h => hd (nvF_less (d := dOf ⟨nm, kd, st, sz⟩ x) (k := j) h)
            have heq := fun h => hd (nvF_same (d := dOf ⟨nm, kd, st, sz⟩ x) (k := j) h)
            have hmore := fun h1 h2 => hd (nvF_more (d := dOf ⟨nm, kd, st, sz⟩ x) (k := j) h1 h2)
            rw [q1] at hlt heq hmore
            dsimp only at hlt heq hmore
            have hnx : ∀ b' l' n', nvF (dOf ⟨nm, kd, st, sz⟩ x) (j + 1) = (b', l', n') → Hd (NvS (dOf ⟨nm, kd, st, sz⟩ x) (j + 1 + 1) b' l' (decide (1 < n'))) := fun b' l' n' h => hd (.inr ⟨j + 1, n', rfl, h, rfl⟩)
            generalize dOf ⟨nm, kd, st, sz⟩ x (j + 1) = dd at hdi hlt heq hmore hd96
            clear hn q1
            generalize hsv : decide (1 < n) = sv
            by_cases c1 : dd < l
            · have hnx2 := hnx _ _ _ (hlt c1).out
              clear hlt heq hmore hnx
              go_wp2_with fail
              refine Calls.mono (hdi _ hF3) ?_
              rintro e w5 ⟨rfl, hb5⟩
              go_wp2
              go_roundg ((mo + 1).toNat - (j + 1 + 1))
              case rel => exact ⟨j + 1 + 1, (j : Int) + 1, dd, false, rfl, by omega, by simp, rfl, rfl, rfl, hnx2, hw.trans hb5⟩
              case measure => omega
            · by_cases c2 : dd = l
              · have hnx2 := hnx _ _ _ (heq c2).out
                rw [show decide (1 < n + 1) = true by rw [decide_eq_true_eq]; omega] at hnx2
                clear hlt heq hmore hnx
                subst c2
                go_wp2_with fail
                refine Calls.mono (hdi _ hF3) ?_
                rintro e w5 ⟨rfl, hb5⟩
                go_wp2
                go_roundg ((mo + 1).toNat - (j + 1 + 1))
                case rel => exact ⟨j + 1 + 1, _, _, true, rfl, by omega, by simp, rfl, rfl, rfl, hnx2, hw.trans hb5⟩
                case measure => omega
              · have hnx2 := hnx _ _ _ (hmore c1 c2).out
                rw [hsv] at hnx2
                clear hlt heq hmore hnx
                have c2b : (dd == l) = false := by simp [c2]
                go_wp2_with fail
                refine Calls.mono (hdi _ hF3) ?_
                rintro e w5 ⟨rfl, hb5⟩
                go_wp2
                go_roundg ((mo + 1).toNat - (j + 1 + 1))
                case rel => exact ⟨j + 1 + 1, _, _, sv, rfl, by omega, by simp, rfl, rfl, rfl, hnx2, hw.trans hb5⟩
                case measure => omega
        · obtain rfl : k = (mo + 1).toNat := by omega
          have hks : (((mo + 1).toNat : Nat) : Int) = mo + 1 := by omega
          have hj : ∃ n, nvF (dOf ⟨nm, kd, st, sz⟩ x) mo.toNat = (b, l, n) ∧ s = decide (1 < n) := by
            rcases hn.out with ⟨q0, _⟩ | ⟨j, n, q0, q1, q2⟩
            · omega
            · rw [show mo.toNat = j by omega]; exact ⟨n, q1, q2⟩
          obtain ⟨n, hj, rfl⟩ := hj
          rw [hj] at hv
          clear hj hn
          by_cases hm1 : 1 < n
          · have hv2 := hd (hv.out.trans (if_pos hm1))
            clear hv
            go_wp2
            refine bodyPost_ret (v := .tuple #[.int .i64 0, .int .i64 0, .int .i64 4]) (by simp [results, Tryd.results38, go_sem]) rfl ⟨by rw [hv2.out], hw4.trans hw⟩
          · have hv2 := hd (hv.out.trans (if_neg hm1))
            clear hv
            go_wp2
            refine bodyPost_ret (v := .tuple #[.int .i64 b, .int .i64 l, .int .i64 0]) (by simp [results, Tryd.results38, go_sem]) rfl ⟨by rw [hv2.out], hw4.trans hw⟩
end Go.Proofs.YtegopgpnjgikeaaDoor
set_option linter.unusedVariables false
set_option linter.unusedSimpArgs false
set_option maxRecDepth 100000
namespace Go.Proofs.YtegopgpnjgikeaaDoor
open Go.RowKit
set_option maxHeartbeats 1000000 in
theorem impl_near (nm : ByteArray) (kd st sz : Int) (hf : fldB ⟨nm, kd, st, sz⟩ = true) (m : Mask) (far : Int) (w : World) :
    Calls Tryd.prog 81 #[.agg #[.string nm, .int .i8 kd, .int .i16 st, .int .i16 sz], .agg #[.int .u64 (lo m), .int .u64 (hi m)], .int .i64 far] w fun e w' => ∃ v, e = .returned v ∧ Ow encI64 2 w' w.heap.size v (nearL ⟨nm, kd, st, sz⟩ m far) ∧ Ext w w' := by
  have hx := @ExtOf.cell
  obtain ⟨_, k0, k3, s0, z0, z1, z2⟩ := fldB_parts hf
  dsimp only at k0 k3 s0 z0 z1 z2
  have hmo := fun W => impl_most nm kd st sz k0 k3 z0 z1 W
  have hml := mostF_le _ hf
  have henc := fun (v : Int) (h0 : 0 ≤ v) (h1 : v ≤ mostF ⟨nm, kd, st, sz⟩) (W : World) => impl_encode nm kd st sz v hf h0 h1 W
  have hpa := fun W => impl_part nm kd st sz hf W
  have hv := hd (show nearL ⟨nm, kd, st, sz⟩ m far = nearTo ⟨nm, kd, st, sz⟩ (mmeet m (partF ⟨nm, kd, st, sz⟩)) far (mostF ⟨nm, kd, st, sz⟩ + 1).toNat from rfl)
  generalize nearL ⟨nm, kd, st, sz⟩ m far = nl at hv
  generalize partF ⟨nm, kd, st, sz⟩ = p at hpa hv
  generalize mostF ⟨nm, kd, st, sz⟩ = mo at hmo hml henc hv
  go_enter Tryd.func81, Tryd.ntmps81
  go_wp2_with fail
  refine wp_region_float 4 4 7 _ #[.int .u64 0, .int .u64 0] 33 (by kernel_rfl) (by kernel_rfl) rfl rfl rfl rfl (fun _ _ => by go_simp) (by intro d _ _ _ _ h; cases d <;> exact h) ?_
  simp only [List.take_succ_cons, List.take_zero, List.drop_succ_cons, List.drop_zero]
  repeat (refine wpX_step (fun K hK => ?_); go_simp; first | (refine hK _ ?_; clear hK K) | (apply Exists.intro; refine ⟨fun x => ?_, hK _ ?_⟩; ((first | (go_at_call 84; with_reducible exact hpa _) | (go_at_call 52; with_reducible exact impl_MeetMasks m p _))); clear hK K))
  refine wpX_nil ?_
  intro b2 w2 hb2 hbb2 hcb2
  obtain ⟨hc2, hf2, hz2⟩ := bcell3 hb2
  try simp at hz2
  try simp at hbb2
  have hz2_0 : w.heap.size < w2.heap.size := by omega
  have hn2_0 : ¬ (b2 = w.heap.size) := by omega
  have hz2_1 : w.heap.size + 1 < w2.heap.size := by omega
  have hn2_1 : ¬ (b2 = w.heap.size + 1) := by omega
  have hbl2 := blk_lt hcb2
  have hbf2 := blk_free hcb2
  have hbc2_0 : w2.cell? ⟨b2, 0, none⟩ = some (.int .u64 0) := blk_cell hcb2 0 rfl
  have hbc2_1 : w2.cell? ⟨b2, 1, none⟩ = some (.int .u64 0) := blk_cell hcb2 1 rfl
  clear hcb2
  generalize mmeet m p = x at hv
  have hw : Ext w ((w2.setCell ⟨b2, 0, none⟩ (.int .u64 (lo x))).setCell ⟨b2, 1, none⟩ (.int .u64 (hi x))) := by ((repeat (first | with_reducible exact Ext.refl _ | with_reducible exact hw | with_reducible exact hb9 | with_reducible exact hb8 | with_reducible exact hb7 | with_reducible exact hb6 | with_reducible exact hb5 | with_reducible exact hb4 | with_reducible exact hb3 | with_reducible exact hb2 | with_reducible exact hb1 | with_reducible refine Ext.alloc ?_ _ | with_reducible refine Ext.drew ?_ | ((with_reducible refine Ext.set ?_ ?_ _); focus (dsimp only; omega)) | with_reducible refine Ext.trans ?_ hb9 | with_reducible refine Ext.trans ?_ hb8 | with_reducible refine Ext.trans ?_ hb7 | with_reducible refine Ext.trans ?_ hb6 | with_reducible refine Ext.trans ?_ hb5 | with_reducible refine Ext.trans ?_ hb4 | with_reducible refine Ext.trans ?_ hb3 | with_reducible refine Ext.trans ?_ hb2 | with_reducible refine Ext.trans ?_ hb1 | with_reducible refine Ext.trans ?_ hw)))
  have o0 : ((w2.setCell ⟨b2, 0, none⟩ (.int .u64 (lo x))).setCell ⟨b2, 1, none⟩ (.int .u64 (hi x))).cell? ⟨b2, 0, none⟩ = some (.int .u64 (lo x)) := by go_simp
  have o1 : ((w2.setCell ⟨b2, 0, none⟩ (.int .u64 (lo x))).setCell ⟨b2, 1, none⟩ (.int .u64 (hi x))).cell? ⟨b2, 1, none⟩ = some (.int .u64 (hi x)) := by go_simp
  have m0 : ((w2.setCell ⟨b2, 0, none⟩ (.int .u64 (lo x))).setCell ⟨b2, 1, none⟩ (.int .u64 (hi x))).cell? ⟨w.heap.size, 0, none⟩ = some (.string nm) := by go_simp
  have m1 : ((w2.setCell ⟨b2, 0, none⟩ (.int .u64 (lo x))).setCell ⟨b2, 1, none⟩ (.int .u64 (hi x))).cell? ⟨w.heap.size, 1, none⟩ = some (.int .i8 kd) := by go_simp
  have m2 : ((w2.setCell ⟨b2, 0, none⟩ (.int .u64 (lo x))).setCell ⟨b2, 1, none⟩ (.int .u64 (hi x))).cell? ⟨w.heap.size, 2, none⟩ = some (.int .i16 st) := by go_simp
  have m3 : ((w2.setCell ⟨b2, 0, none⟩ (.int .u64 (lo x))).setCell ⟨b2, 1, none⟩ (.int .u64 (hi x))).cell? ⟨w.heap.size, 3, none⟩ = some (.int .i16 sz) := by go_simp
  have hsz := hd (show w2.heap.size = ((w2.setCell ⟨b2, 0, none⟩ (.int .u64 (lo x))).setCell ⟨b2, 1, none⟩ (.int .u64 (hi x))).heap.size by simp)
  go_wp2_with fail
  clear hc2 hf2 hb2 hbf2 hbc2_0 hbc2_1 hz2 hz2_0 hz2_1 hn2_0 hn2_1 hpa
  generalize (w2.setCell ⟨b2, 0, none⟩ (.int .u64 (lo x))).setCell ⟨b2, 1, none⟩ (.int .u64 (hi x)) = W2 at hw o0 o1 m0 m1 m2 m3 hsz
  refine Calls.mono (hmo _) ?_
  rintro e w4 ⟨rfl, hb4⟩
  have hO : Ow encI64 2 w4 W2.heap.size (.slice (some ⟨w2.heap.size, 0, none⟩) 0 0) [] := (Ow.made0 hsz.out (by have := hsz.out; omega)).ext hb4
  have hW : Ext W2 w4 := ((Ext.refl _).alloc _).trans hb4
  have wm : IntKind.i64.wrap (mo + 1) = mo + 1 := IntWalk.i64_in _ (by omega)
  clear hb4
  go_wp2
  go_loopg [8, 18] (mo + 1).toNat (fun g v i wr => ∃ k : Nat, g = (mo + 1).toNat - k ∧ k ≤ (mo + 1).toNat ∧ i = .int .i64 k ∧ Ext W2 wr ∧ Ow encI64 2 wr W2.heap.size v (nearTo ⟨nm, kd, st, sz⟩ x far k))
  case atStart => exact ⟨0, by omega, by omega, rfl, hW, by rw [nearTo_zero]; exact hO⟩
  case round =>
    obtain ⟨k, hg, hk, rfl, hW, hO⟩ := hrel
    have o0 := hW.cell o0
    have o1 := hW.cell o1
    have m0 := hW.cell m0
    have m1 := hW.cell m1
    have m2 := hW.cell m2
    have m3 := hW.cell m3
    have lb2 := World.block_lt_of_cell? _ _ o0
    have lw := World.block_lt_of_cell? _ _ m0
    dsimp only at lb2 lw
    by_cases hkl : k < (mo + 1).toNat
    · have hks : (k : Int) < mo + 1 := by omega
      have henk := fun W => henc k (by omega) (by omega) W
      have hdi : ∀ W, Calls Tryd.prog 85 #[.agg #[.int .u64 (lo (codeF ⟨nm, kd, st, sz⟩ k)), .int .u64 (hi (codeF ⟨nm, kd, st, sz⟩ k))], .agg #[.int .u64 (lo x), .int .u64 (hi x)]] W fun e w' => e = .returned (.int .i64 (dOf ⟨nm, kd, st, sz⟩ x k)) ∧ Ext W w' := fun W => impl_distance _ _ W
      have hhit := fun h => hd (nearTo_hit (f := ⟨nm, kd, st, sz⟩) (p := x) (far := far) (k := k) h)
      have hmiss := fun h => hd (nearTo_miss (f := ⟨nm, kd, st, sz⟩) (p := x) (far := far) (k := k) h)
      have hln := nearTo_len ⟨nm, kd, st, sz⟩ x far k
      generalize codeF ⟨nm, kd, st, sz⟩ k = cm at henk hdi
      generalize dOf ⟨nm, kd, st, sz⟩ x k = dd at hdi hhit hmiss
      by_cases hq : dd ≤ far
      · have hn := hhit hq
        clear hhit hmiss
        go_wp2
        refine wp_region_ext (by kernel_rfl) (by kernel_rfl) ?_
        repeat (first | go_big_quiet_step ((first | (go_at_call 70; with_reducible exact Calls.ext_all (fun W _ => henk W)) | (go_at_call 85; with_reducible exact Calls.ext_all (fun W _ => hdi W)))) | quiet_step ((first | (go_at_call 70; with_reducible exact Calls.ext_all (fun W _ => henk W)) | (go_at_call 85; with_reducible exact Calls.ext_all (fun W _ => hdi W)))))
        refine wpQuiet_nil ?_
        intro w5 hq5
        have hb5 := ext_of_class hq5
        clear hq5
        obtain ⟨hc5, hf5, hz5⟩ := bcell3 hb5
        try simp at hz5
        have hO5 := hO.ext hb5
        have hW5 := hW.trans hb5
        go_wp2_with (at_builtin; refine wpList_push2 (w0 := W2) (base := W2.heap.size) (xs := nearTo ⟨nm, kd, st, sz⟩ x far k) encI64 (by rfl) _ _ 36 (.int .i64 0) 8 (by rfl) Tryd.underlying36 info_i64 (by rfl) ((k : Int)) (by rfl) (by rfl) (by simp) (hO5) ((hW5 : Ext W2 _).size) (Nat.le_refl _) (hW5) (by omega) (by omega) ?_)
        intro v6 w6 hO6 hb6 hg6 _
        go_wp2
        go_roundg ((mo + 1).toNat - (k + 1))
        case rel => exact ⟨k + 1, rfl, hkl, by simp, hb6, by rw [hn.out]; exact hO6⟩
        case measure => omega
      · have hn := hmiss hq
        clear hhit hmiss
        go_wp2
        refine wp_region_ext (by kernel_rfl) (by kernel_rfl) ?_
        repeat (first | go_big_quiet_step ((first | (go_at_call 70; with_reducible exact Calls.ext_all (fun W _ => henk W)) | (go_at_call 85; with_reducible exact Calls.ext_all (fun W _ => hdi W)))) | quiet_step ((first | (go_at_call 70; with_reducible exact Calls.ext_all (fun W _ => henk W)) | (go_at_call 85; with_reducible exact Calls.ext_all (fun W _ => hdi W)))))
        refine wpQuiet_nil ?_
        intro w5 hq5
        have hb5 := ext_of_class hq5
        clear hq5
        obtain ⟨hc5, hf5, hz5⟩ := bcell3 hb5
        try simp at hz5
        go_wp2
        go_roundg ((mo + 1).toNat - (k + 1))
        case rel => exact ⟨k + 1, rfl, hkl, by simp, hW.trans hb5, by rw [hn.out]; exact hO.ext hb5⟩
        case measure => omega
    · obtain rfl : k = (mo + 1).toNat := by omega
      have hks : (((mo + 1).toNat : Nat) : Int) = mo + 1 := by omega
      rw [← hv.out] at hO
      go_wp2
      go_ret
      exact ⟨_, rfl, hO.lower hw.size, hw.trans hW⟩
set_option maxHeartbeats 1000000 in
theorem spec_l04Near (f : Fld) (hf : fldB f = true) (m : Mask) (far : Int) (b o : Nat) (w : World) (hF : FldAt w b o f) :
    Calls Tryd.prog 83 #[.pointer (some ⟨b, o, none⟩), .agg #[.int .u64 (lo m), .int .u64 (hi m)], .int .i64 far] w fun e w' => ∃ v, e = .returned v ∧ Ow encI64 2 w' w.heap.size v (nearL f m far) ∧ Ext w w' := by
  have hx := @ExtOf.cell
  have hlt : b < w.heap.size := World.block_lt_of_cell? w _ hF.1
  have hmo := fun (W : World) (h : FldAt W b o f) => spec_l01Most f hf b o W h
  have hml := mostF_le _ hf
  have hdif := fun (v : Int) (h0 : 0 ≤ v) (h1 : v ≤ mostF f) (p : Mask) (W : World) (h : FldAt W b o f) => spec_l04Differ f hf v h0 h1 p b o W h
  have hpa := fun (W : World) (h : Ext w W) => spec_l01Part f hf b o W (hF.ext h)
  have hv := hd (show nearL f m far = nearTo f (mmeet m (partF f)) far (mostF f + 1).toNat from rfl)
  generalize nearL f m far = nl at hv
  generalize partF f = p at hpa hv
  generalize mostF f = mo at hmo hml hdif hv
  go_enter Tryd.func83, Tryd.ntmps83
  go_wp2_with fail
  refine wp_region_float 4 4 7 _ #[.int .u64 0, .int .u64 0] 33 (by kernel_rfl) (by kernel_rfl) rfl rfl rfl rfl (fun _ _ => by go_simp) (by intro d _ _ _ _ h; cases d <;> exact h) ?_
  simp only [List.take_succ_cons, List.take_zero, List.drop_succ_cons, List.drop_zero]
  repeat (refine wpX_step (fun K hK => ?_); go_simp; first | (refine hK _ ?_; clear hK K) | (apply Exists.intro; refine ⟨fun x => ?_, hK _ ?_⟩; ((first | (go_at_call 77; with_reducible exact hpa _ (Ext.trans ((Ext.refl _).alloc _) (ExtOf.prop _))) | (go_at_call 79; with_reducible exact spec_l01Meet m p _))); clear hK K))
  refine wpX_nil ?_
  intro b2 w2 hb2 hbb2 hcb2
  obtain ⟨hc2, hf2, hz2⟩ := bcell3 hb2
  try simp at hz2
  try simp at hbb2
  have hz2_0 : w.heap.size < w2.heap.size := by omega
  have hn2_0 : ¬ (b2 = w.heap.size) := by omega
  have hbl2 := blk_lt hcb2
  have hbf2 := blk_free hcb2
  have hbc2_0 : w2.cell? ⟨b2, 0, none⟩ = some (.int .u64 0) := blk_cell hcb2 0 rfl
  have hbc2_1 : w2.cell? ⟨b2, 1, none⟩ = some (.int .u64 0) := blk_cell hcb2 1 rfl
  clear hcb2
  generalize mmeet m p = x at hv
  have hw : Ext w ((w2.setCell ⟨b2, 0, none⟩ (.int .u64 (lo x))).setCell ⟨b2, 1, none⟩ (.int .u64 (hi x))) := by ((repeat (first | with_reducible exact Ext.refl _ | with_reducible exact hw | with_reducible exact hb9 | with_reducible exact hb8 | with_reducible exact hb7 | with_reducible exact hb6 | with_reducible exact hb5 | with_reducible exact hb4 | with_reducible exact hb3 | with_reducible exact hb2 | with_reducible exact hb1 | with_reducible refine Ext.alloc ?_ _ | with_reducible refine Ext.drew ?_ | ((with_reducible refine Ext.set ?_ ?_ _); focus (dsimp only; omega)) | with_reducible refine Ext.trans ?_ hb9 | with_reducible refine Ext.trans ?_ hb8 | with_reducible refine Ext.trans ?_ hb7 | with_reducible refine Ext.trans ?_ hb6 | with_reducible refine Ext.trans ?_ hb5 | with_reducible refine Ext.trans ?_ hb4 | with_reducible refine Ext.trans ?_ hb3 | with_reducible refine Ext.trans ?_ hb2 | with_reducible refine Ext.trans ?_ hb1 | with_reducible refine Ext.trans ?_ hw)))
  have o0 : ((w2.setCell ⟨b2, 0, none⟩ (.int .u64 (lo x))).setCell ⟨b2, 1, none⟩ (.int .u64 (hi x))).cell? ⟨b2, 0, none⟩ = some (.int .u64 (lo x)) := by go_simp
  have o1 : ((w2.setCell ⟨b2, 0, none⟩ (.int .u64 (lo x))).setCell ⟨b2, 1, none⟩ (.int .u64 (hi x))).cell? ⟨b2, 1, none⟩ = some (.int .u64 (hi x)) := by go_simp
  have hsz := hd (show w2.heap.size = ((w2.setCell ⟨b2, 0, none⟩ (.int .u64 (lo x))).setCell ⟨b2, 1, none⟩ (.int .u64 (hi x))).heap.size by simp)
  go_wp2
  clear hc2 hf2 hb2 hbf2 hbc2_0 hbc2_1 hz2 hz2_0 hn2_0 hpa
  generalize (w2.setCell ⟨b2, 0, none⟩ (.int .u64 (lo x))).setCell ⟨b2, 1, none⟩ (.int .u64 (hi x)) = W2 at hw o0 o1 hsz
  go_loopg [8, 9] (mo + 1).toNat (fun g v i wr => ∃ k : Nat, g = (mo + 1).toNat - k ∧ k ≤ (mo + 1).toNat ∧ i = .int .i64 k ∧ Ext W2 wr ∧ Ow encI64 2 wr W2.heap.size v (nearTo f x far k))
  case atStart => exact ⟨0, by omega, by omega, rfl, (Ext.refl _).alloc _, by rw [nearTo_zero]; exact Ow.made0 hsz.out (by have := hsz.out; omega)⟩
  case round =>
    obtain ⟨k, hg, hk, rfl, hW, hO⟩ := hrel
    go_wp2_with fail
    refine Calls.mono (hmo _ (hF.ext (hw.trans hW))) ?_
    rintro e w3 ⟨rfl, hb3⟩
    have hW := hW.trans hb3
    have hO := hO.ext hb3
    clear hb3
    have o0 := hW.cell o0
    have o1 := hW.cell o1
    have hF3 := hF.ext (hw.trans hW)
    by_cases hkl : k < (mo + 1).toNat
    · have hks : (k : Int) ≤ mo := by omega
      have hdi : ∀ W, FldAt W b o f → Calls Tryd.prog 86 #[.pointer (some ⟨b, o, none⟩), .int .i64 k, .agg #[.int .u64 (lo x), .int .u64 (hi x)]] W fun e w' => e = .returned (.int .i64 (dOf f x k)) ∧ Ext W w' := fun W h => hdif k (by omega) hks x W h
      have hhit := fun h => hd (nearTo_hit (f := f) (p := x) (far := far) (k := k) h)
      have hmiss := fun h => hd (nearTo_miss (f := f) (p := x) (far := far) (k := k) h)
      have hln := nearTo_len f x far k
      generalize dOf f x k = dd at hdi hhit hmiss
      by_cases hq : dd ≤ far
      · have hn := hhit hq
        clear hhit hmiss
        go_wp2_with fail
        refine Calls.mono (hdi _ hF3) ?_
        rintro e w5 ⟨rfl, hb5⟩
        have hO5 := hO.ext hb5
        have hW5 := hW.trans hb5
        go_wp2_with (at_builtin; refine wpList_push2 (w0 := W2) (base := W2.heap.size) (xs := nearTo f x far k) encI64 (by rfl) _ _ 36 (.int .i64 0) 8 (by rfl) Tryd.underlying36 info_i64 (by rfl) ((k : Int)) (by rfl) (by rfl) (by simp) (hO5) ((hW5 : Ext W2 _).size) (Nat.le_refl _) (hW5) (by omega) (by omega) ?_)
        intro v6 w6 hO6 hb6 hg6 _
        go_wp2
        go_roundg ((mo + 1).toNat - (k + 1))
        case rel => exact ⟨k + 1, rfl, hkl, by simp, hb6, by rw [hn.out]; exact hO6⟩
        case measure => omega
      · have hn := hmiss hq
        clear hhit hmiss
        go_wp2_with fail
        refine Calls.mono (hdi _ hF3) ?_
        rintro e w5 ⟨rfl, hb5⟩
        go_wp2
        go_roundg ((mo + 1).toNat - (k + 1))
        case rel => exact ⟨k + 1, rfl, hkl, by simp, hW.trans hb5, by rw [hn.out]; exact hO.ext hb5⟩
        case measure => omega
    · obtain rfl : k = (mo + 1).toNat := by omega
      have hks : (((mo + 1).toNat : Nat) : Int) = mo + 1 := by omega
      rw [← hv.out] at hO
      go_wp2
      go_ret
      exact ⟨_, rfl, hO.lower hw.size, hw.trans hW⟩
set_option maxHeartbeats 1000000 in
theorem impl_ValuesNear (nm : ByteArray) (kd st sz : Int) (hok : Fld.ok ⟨nm, kd, st, sz⟩) (hnmx : nm.size ≤ 9223372036854775807) (m : Mask) (far : Int) (w : World) :
    Calls Tryd.prog 35 #[.agg #[.string nm, .int .i8 kd, .int .i16 st, .int .i16 sz], .agg #[.int .u64 (lo m), .int .u64 (hi m)], .int .i64 far] w fun e w' => ∃ v, e = .returned (.tuple #[v, .int .i64 (nearF ⟨nm, kd, st, sz⟩ m far).2]) ∧ Ow encI64 2 w' w.heap.size v (nearF ⟨nm, kd, st, sz⟩ m far).1 ∧ Ext w w' := by
  obtain ⟨⟨a0, a1⟩, ⟨a2, a3⟩, a4, a5⟩ := hok
  dsimp only at a0 a1 a2 a3 a4 a5
  have hif := fun W => impl_isField nm kd st sz a0 a1 a2 a3 a4 a5 hnmx W
  cases hf : fldB ⟨nm, kd, st, sz⟩ with
  | false =>
    have hv := hd (show nearF ⟨nm, kd, st, sz⟩ m far = ([], 1) by unfold nearF; rw [hf]; rfl)
    rw [hf] at hif
    go_enter Tryd.func35, Tryd.ntmps35
    go_wp2_with fail
    refine Calls.mono (hif _) ?_
    rintro e w1 ⟨rfl, hb1⟩
    go_wp2
    refine bodyPost_ret (v := .tuple #[.slice none 0 0, .int .i64 1]) (by simp [results, Tryd.results35, go_sem]) rfl ⟨_, by rw [hv.out], by rw [hv.out]; exact Ow.nil _ _ _ _, by ((repeat (first | with_reducible exact Ext.refl _ | with_reducible exact hw | with_reducible exact hb9 | with_reducible exact hb8 | with_reducible exact hb7 | with_reducible exact hb6 | with_reducible exact hb5 | with_reducible exact hb4 | with_reducible exact hb3 | with_reducible exact hb2 | with_reducible exact hb1 | with_reducible refine Ext.alloc ?_ _ | with_reducible refine Ext.drew ?_ | ((with_reducible refine Ext.set ?_ ?_ _); focus (dsimp only; omega)) | with_reducible refine Ext.trans ?_ hb9 | with_reducible refine Ext.trans ?_ hb8 | with_reducible refine Ext.trans ?_ hb7 | with_reducible refine Ext.trans ?_ hb6 | with_reducible refine Ext.trans ?_ hb5 | with_reducible refine Ext.trans ?_ hb4 | with_reducible refine Ext.trans ?_ hb3 | with_reducible refine Ext.trans ?_ hb2 | with_reducible refine Ext.trans ?_ hb1 | with_reducible refine Ext.trans ?_ hw)))⟩
  | true =>
    rw [hf] at hif
    have him := fun W => impl_isMask m W
    cases hm : isMaskB m with
    | false =>
      have hv := hd (show nearF ⟨nm, kd, st, sz⟩ m far = ([], 1) by unfold nearF; rw [hf, hm]; rfl)
      rw [hm] at him
      go_enter Tryd.func35, Tryd.ntmps35
      go_wp2_with fail
      refine Calls.mono (hif _) ?_
      rintro e w1 ⟨rfl, hb1⟩
      obtain ⟨hc1, hf1, hz1⟩ := bcell3 hb1
      try simp at hz1
      have hz1_0 : w.heap.size < w1.heap.size := by omega
      have hz1_1 : w.heap.size + 1 < w1.heap.size := by omega
      go_wp2_with fail
      refine Calls.mono (him _) ?_
      rintro e w2 ⟨rfl, hb2⟩
      go_wp2
      refine bodyPost_ret (v := .tuple #[.slice none 0 0, .int .i64 1]) (by simp [results, Tryd.results35, go_sem]) rfl ⟨_, by rw [hv.out], by rw [hv.out]; exact Ow.nil _ _ _ _, by ((repeat (first | with_reducible exact Ext.refl _ | with_reducible exact hw | with_reducible exact hb9 | with_reducible exact hb8 | with_reducible exact hb7 | with_reducible exact hb6 | with_reducible exact hb5 | with_reducible exact hb4 | with_reducible exact hb3 | with_reducible exact hb2 | with_reducible exact hb1 | with_reducible refine Ext.alloc ?_ _ | with_reducible refine Ext.drew ?_ | ((with_reducible refine Ext.set ?_ ?_ _); focus (dsimp only; omega)) | with_reducible refine Ext.trans ?_ hb9 | with_reducible refine Ext.trans ?_ hb8 | with_reducible refine Ext.trans ?_ hb7 | with_reducible refine Ext.trans ?_ hb6 | with_reducible refine Ext.trans ?_ hb5 | with_reducible refine Ext.trans ?_ hb4 | with_reducible refine Ext.trans ?_ hb3 | with_reducible refine Ext.trans ?_ hb2 | with_reducible refine Ext.trans ?_ hb1 | with_reducible refine Ext.trans ?_ hw)))⟩
    | true =>
      rw [hm] at him
      by_cases hr : 0 ≤ far ∧ far ≤ 2
      · have hv := hd (show nearF ⟨nm, kd, st, sz⟩ m far = (nearL ⟨nm, kd, st, sz⟩ m far, 0) by unfold nearF; rw [hf, hm, show (true && true) = true from rfl, if_pos rfl, if_pos hr])
        obtain ⟨r0, r1⟩ := hr
        have hne := fun W => impl_near nm kd st sz hf m far W
        generalize nearL ⟨nm, kd, st, sz⟩ m far = nl at hv hne
        go_enter Tryd.func35, Tryd.ntmps35
        go_wp2_with fail
        refine Calls.mono (hif _) ?_
        rintro e w1 ⟨rfl, hb1⟩
        obtain ⟨hc1, hf1, hz1⟩ := bcell3 hb1
        try simp at hz1
        have hz1_0 : w.heap.size < w1.heap.size := by omega
        have hz1_1 : w.heap.size + 1 < w1.heap.size := by omega
        go_wp2_with fail
        refine Calls.mono (him _) ?_
        rintro e w2 ⟨rfl, hb2⟩
        obtain ⟨hc2, hf2, hz2⟩ := bcell3 hb2
        try simp at hz2
        have hz2_0 : w.heap.size < w2.heap.size := by omega
        have hz2_1 : w.heap.size + 1 < w2.heap.size := by omega
        have hw : Ext w w2 := by ((repeat (first | with_reducible exact Ext.refl _ | with_reducible exact hw | with_reducible exact hb9 | with_reducible exact hb8 | with_reducible exact hb7 | with_reducible exact hb6 | with_reducible exact hb5 | with_reducible exact hb4 | with_reducible exact hb3 | with_reducible exact hb2 | with_reducible exact hb1 | with_reducible refine Ext.alloc ?_ _ | with_reducible refine Ext.drew ?_ | ((with_reducible refine Ext.set ?_ ?_ _); focus (dsimp only; omega)) | with_reducible refine Ext.trans ?_ hb9 | with_reducible refine Ext.trans ?_ hb8 | with_reducible refine Ext.trans ?_ hb7 | with_reducible refine Ext.trans ?_ hb6 | with_reducible refine Ext.trans ?_ hb5 | with_reducible refine Ext.trans ?_ hb4 | with_reducible refine Ext.trans ?_ hb3 | with_reducible refine Ext.trans ?_ hb2 | with_reducible refine Ext.trans ?_ hb1 | with_reducible refine Ext.trans ?_ hw)))
        go_wp2_with fail
        refine Calls.mono (hne _) ?_
        rintro e w3 ⟨v3, rfl, hO3, hb3⟩
        go_wp2
        refine bodyPost_ret (v := .tuple #[v3, .int .i64 0]) (by simp [results, Tryd.results35, go_sem]) rfl ⟨_, by rw [hv.out], by rw [hv.out]; exact hO3.lower hw.size, hw.trans hb3⟩
      · have hv := hd (show nearF ⟨nm, kd, st, sz⟩ m far = ([], 2) by unfold nearF; rw [hf, hm, show (true && true) = true from rfl, if_pos rfl, if_neg hr])
        by_cases r0 : far < 0
        · clear hr
          go_enter Tryd.func35, Tryd.ntmps35
          go_wp2_with fail
          refine Calls.mono (hif _) ?_
          rintro e w1 ⟨rfl, hb1⟩
          obtain ⟨hc1, hf1, hz1⟩ := bcell3 hb1
          try simp at hz1
          have hz1_0 : w.heap.size < w1.heap.size := by omega
          have hz1_1 : w.heap.size + 1 < w1.heap.size := by omega
          go_wp2_with fail
          refine Calls.mono (him _) ?_
          rintro e w2 ⟨rfl, hb2⟩
          go_wp2
          refine bodyPost_ret (v := .tuple #[.slice none 0 0, .int .i64 2]) (by simp [results, Tryd.results35, go_sem]) rfl ⟨_, by rw [hv.out], by rw [hv.out]; exact Ow.nil _ _ _ _, by ((repeat (first | with_reducible exact Ext.refl _ | with_reducible exact hw | with_reducible exact hb9 | with_reducible exact hb8 | with_reducible exact hb7 | with_reducible exact hb6 | with_reducible exact hb5 | with_reducible exact hb4 | with_reducible exact hb3 | with_reducible exact hb2 | with_reducible exact hb1 | with_reducible refine Ext.alloc ?_ _ | with_reducible refine Ext.drew ?_ | ((with_reducible refine Ext.set ?_ ?_ _); focus (dsimp only; omega)) | with_reducible refine Ext.trans ?_ hb9 | with_reducible refine Ext.trans ?_ hb8 | with_reducible refine Ext.trans ?_ hb7 | with_reducible refine Ext.trans ?_ hb6 | with_reducible refine Ext.trans ?_ hb5 | with_reducible refine Ext.trans ?_ hb4 | with_reducible refine Ext.trans ?_ hb3 | with_reducible refine Ext.trans ?_ hb2 | with_reducible refine Ext.trans ?_ hb1 | with_reducible refine Ext.trans ?_ hw)))⟩
        · have r1 : 2 < far := by omega
          clear hr
          go_enter Tryd.func35, Tryd.ntmps35
          go_wp2_with fail
          refine Calls.mono (hif _) ?_
          rintro e w1 ⟨rfl, hb1⟩
          obtain ⟨hc1, hf1, hz1⟩ := bcell3 hb1
          try simp at hz1
          have hz1_0 : w.heap.size < w1.heap.size := by omega
          have hz1_1 : w.heap.size + 1 < w1.heap.size := by omega
          go_wp2_with fail
          refine Calls.mono (him _) ?_
          rintro e w2 ⟨rfl, hb2⟩
          go_wp2
          refine bodyPost_ret (v := .tuple #[.slice none 0 0, .int .i64 2]) (by simp [results, Tryd.results35, go_sem]) rfl ⟨_, by rw [hv.out], by rw [hv.out]; exact Ow.nil _ _ _ _, by ((repeat (first | with_reducible exact Ext.refl _ | with_reducible exact hw | with_reducible exact hb9 | with_reducible exact hb8 | with_reducible exact hb7 | with_reducible exact hb6 | with_reducible exact hb5 | with_reducible exact hb4 | with_reducible exact hb3 | with_reducible exact hb2 | with_reducible exact hb1 | with_reducible refine Ext.alloc ?_ _ | with_reducible refine Ext.drew ?_ | ((with_reducible refine Ext.set ?_ ?_ _); focus (dsimp only; omega)) | with_reducible refine Ext.trans ?_ hb9 | with_reducible refine Ext.trans ?_ hb8 | with_reducible refine Ext.trans ?_ hb7 | with_reducible refine Ext.trans ?_ hb6 | with_reducible refine Ext.trans ?_ hb5 | with_reducible refine Ext.trans ?_ hb4 | with_reducible refine Ext.trans ?_ hb3 | with_reducible refine Ext.trans ?_ hb2 | with_reducible refine Ext.trans ?_ hb1 | with_reducible refine Ext.trans ?_ hw)))⟩
set_option maxHeartbeats 1000000 in
theorem spec_ValuesNear (nm : ByteArray) (kd st sz : Int) (hok : Fld.ok ⟨nm, kd, st, sz⟩) (hnmx : nm.size ≤ 9223372036854775807) (m : Mask) (far : Int) (w : World) :
    Calls Tryd.prog 36 #[.agg #[.string nm, .int .i8 kd, .int .i16 st, .int .i16 sz], .agg #[.int .u64 (lo m), .int .u64 (hi m)], .int .i64 far] w fun e w' => ∃ v, e = .returned (.tuple #[v, .int .i64 (nearF ⟨nm, kd, st, sz⟩ m far).2]) ∧ Ow encI64 2 w' w.heap.size v (nearF ⟨nm, kd, st, sz⟩ m far).1 ∧ Ext w w' := by
  obtain ⟨⟨a0, a1⟩, ⟨a2, a3⟩, a4, a5⟩ := hok
  dsimp only at a0 a1 a2 a3 a4 a5
  have hA : FldAt ((w.alloc (.cells #[.string nm, .int .i8 kd, .int .i16 st, .int .i16 sz] 48)).alloc (.cells #[.int .u64 (lo m), .int .u64 (hi m)] 33)) w.heap.size 0 ⟨nm, kd, st, sz⟩ := ⟨by go_simp, by go_simp, by go_simp, by go_simp⟩
  have hif := spec_l01Field nm kd st sz w.heap.size 0 a0 a1 a2 a3 a4 a5 hnmx _ hA (by simp <;> omega)
  cases hf : fldB ⟨nm, kd, st, sz⟩ with
  | false =>
    have hv := hd (show nearF ⟨nm, kd, st, sz⟩ m far = ([], 1) by unfold nearF; rw [hf]; rfl)
    rw [hf] at hif
    clear hA
    go_enter Tryd.func36, Tryd.ntmps36
    go_wp2_with fail
    refine Calls.mono (hif) ?_
    rintro e w1 ⟨rfl, hb1⟩
    go_wp2
    refine bodyPost_ret (v := .tuple #[.slice (some ⟨w1.heap.size, 0, none⟩) 0 0, .int .i64 1]) (by simp [results, Tryd.results36, go_sem]) rfl ⟨_, by rw [hv.out], by rw [hv.out]; exact Ow.made0 rfl (by have := hb1.size; simp at this; omega), by ((repeat (first | with_reducible exact Ext.refl _ | with_reducible exact hw | with_reducible exact hb9 | with_reducible exact hb8 | with_reducible exact hb7 | with_reducible exact hb6 | with_reducible exact hb5 | with_reducible exact hb4 | with_reducible exact hb3 | with_reducible exact hb2 | with_reducible exact hb1 | with_reducible refine Ext.alloc ?_ _ | with_reducible refine Ext.drew ?_ | ((with_reducible refine Ext.set ?_ ?_ _); focus (dsimp only; omega)) | with_reducible refine Ext.trans ?_ hb9 | with_reducible refine Ext.trans ?_ hb8 | with_reducible refine Ext.trans ?_ hb7 | with_reducible refine Ext.trans ?_ hb6 | with_reducible refine Ext.trans ?_ hb5 | with_reducible refine Ext.trans ?_ hb4 | with_reducible refine Ext.trans ?_ hb3 | with_reducible refine Ext.trans ?_ hb2 | with_reducible refine Ext.trans ?_ hb1 | with_reducible refine Ext.trans ?_ hw)))⟩
  | true =>
    rw [hf] at hif
    have him := fun W => spec_l01Mask m W
    cases hm : isMaskB m with
    | false =>
      have hv := hd (show nearF ⟨nm, kd, st, sz⟩ m far = ([], 1) by unfold nearF; rw [hf, hm]; rfl)
      rw [hm] at him
      clear hA
      go_enter Tryd.func36, Tryd.ntmps36
      go_wp2_with fail
      refine Calls.mono (hif) ?_
      rintro e w1 ⟨rfl, hb1⟩
      obtain ⟨hc1, hf1, hz1⟩ := bcell3 hb1
      try simp at hz1
      have hz1_0 : w.heap.size < w1.heap.size := by omega
      have hz1_1 : w.heap.size + 1 < w1.heap.size := by omega
      go_wp2_with fail
      refine Calls.mono (him _) ?_
      rintro e w2 ⟨rfl, hb2⟩
      have hw : Ext w w2 := by ((repeat (first | with_reducible exact Ext.refl _ | with_reducible exact hw | with_reducible exact hb9 | with_reducible exact hb8 | with_reducible exact hb7 | with_reducible exact hb6 | with_reducible exact hb5 | with_reducible exact hb4 | with_reducible exact hb3 | with_reducible exact hb2 | with_reducible exact hb1 | with_reducible refine Ext.alloc ?_ _ | with_reducible refine Ext.drew ?_ | ((with_reducible refine Ext.set ?_ ?_ _); focus (dsimp only; omega)) | with_reducible refine Ext.trans ?_ hb9 | with_reducible refine Ext.trans ?_ hb8 | with_reducible refine Ext.trans ?_ hb7 | with_reducible refine Ext.trans ?_ hb6 | with_reducible refine Ext.trans ?_ hb5 | with_reducible refine Ext.trans ?_ hb4 | with_reducible refine Ext.trans ?_ hb3 | with_reducible refine Ext.trans ?_ hb2 | with_reducible refine Ext.trans ?_ hb1 | with_reducible refine Ext.trans ?_ hw)))
      go_wp2
      refine bodyPost_ret (v := .tuple #[.slice (some ⟨w2.heap.size, 0, none⟩) 0 0, .int .i64 1]) (by simp [results, Tryd.results36, go_sem]) rfl ⟨_, by rw [hv.out], by rw [hv.out]; exact Ow.made0 rfl hw.size, hw.alloc _⟩
    | true =>
      rw [hm] at him
      by_cases hr : inB far 0 2 = true
      · have hr2 : 0 ≤ far ∧ far ≤ 2 := by unfold inB at hr; simpa using hr
        have hv := hd (show nearF ⟨nm, kd, st, sz⟩ m far = (nearL ⟨nm, kd, st, sz⟩ m far, 0) by unfold nearF; rw [hf, hm, show (true && true) = true from rfl, if_pos rfl, if_pos hr2])
        have hne := fun (W : World) (h : FldAt W w.heap.size 0 ⟨nm, kd, st, sz⟩) => spec_l04Near ⟨nm, kd, st, sz⟩ hf m far w.heap.size 0 W h
        have hin := fun W => spec_l00In far 0 2 W
        rw [hr] at hin
        clear hr hr2
        generalize nearL ⟨nm, kd, st, sz⟩ m far = nl at hv hne
        go_enter Tryd.func36, Tryd.ntmps36
        go_wp2_with fail
        refine Calls.mono (hif) ?_
        rintro e w1 ⟨rfl, hb1⟩
        obtain ⟨hc1, hf1, hz1⟩ := bcell3 hb1
        try simp at hz1
        have hz1_0 : w.heap.size < w1.heap.size := by omega
        have hz1_1 : w.heap.size + 1 < w1.heap.size := by omega
        have hA := hA.ext hb1
        go_wp2_with fail
        refine Calls.mono (him _) ?_
        rintro e w2 ⟨rfl, hb2⟩
        obtain ⟨hc2, hf2, hz2⟩ := bcell3 hb2
        try simp at hz2
        have hz2_0 : w.heap.size < w2.heap.size := by omega
        have hz2_1 : w.heap.size + 1 < w2.heap.size := by omega
        have hA := hA.ext hb2
        go_wp2_with fail
        refine Calls.mono (hin _) ?_
        rintro e w3 ⟨rfl, hb3⟩
        obtain ⟨hc3, hf3, hz3⟩ := bcell3 hb3
        try simp at hz3
        have hz3_0 : w.heap.size < w3.heap.size := by omega
        have hz3_1 : w.heap.size + 1 < w3.heap.size := by omega
        have hA := hA.ext hb3
        have hw : Ext w w3 := by ((repeat (first | with_reducible exact Ext.refl _ | with_reducible exact hw | with_reducible exact hb9 | with_reducible exact hb8 | with_reducible exact hb7 | with_reducible exact hb6 | with_reducible exact hb5 | with_reducible exact hb4 | with_reducible exact hb3 | with_reducible exact hb2 | with_reducible exact hb1 | with_reducible refine Ext.alloc ?_ _ | with_reducible refine Ext.drew ?_ | ((with_reducible refine Ext.set ?_ ?_ _); focus (dsimp only; omega)) | with_reducible refine Ext.trans ?_ hb9 | with_reducible refine Ext.trans ?_ hb8 | with_reducible refine Ext.trans ?_ hb7 | with_reducible refine Ext.trans ?_ hb6 | with_reducible refine Ext.trans ?_ hb5 | with_reducible refine Ext.trans ?_ hb4 | with_reducible refine Ext.trans ?_ hb3 | with_reducible refine Ext.trans ?_ hb2 | with_reducible refine Ext.trans ?_ hb1 | with_reducible refine Ext.trans ?_ hw)))
        go_wp2_with fail
        refine Calls.mono (hne _ hA) ?_
        rintro e w4 ⟨v4, rfl, hO4, hb4⟩
        go_wp2
        refine bodyPost_ret (v := .tuple #[v4, .int .i64 0]) (by simp [results, Tryd.results36, go_sem]) rfl ⟨_, by rw [hv.out], by rw [hv.out]; exact hO4.lower hw.size, hw.trans hb4⟩
      · have hr2 : ¬ (0 ≤ far ∧ far ≤ 2) := fun h => hr (by unfold inB; simpa using h)
        have hv := hd (show nearF ⟨nm, kd, st, sz⟩ m far = ([], 2) by unfold nearF; rw [hf, hm, show (true && true) = true from rfl, if_pos rfl, if_neg hr2])
        have hin := fun W => spec_l00In far 0 2 W
        rw [show inB far 0 2 = false by simpa using hr] at hin
        clear hr hr2
        go_enter Tryd.func36, Tryd.ntmps36
        go_wp2_with fail
        refine Calls.mono (hif) ?_
        rintro e w1 ⟨rfl, hb1⟩
        obtain ⟨hc1, hf1, hz1⟩ := bcell3 hb1
        try simp at hz1
        have hz1_0 : w.heap.size < w1.heap.size := by omega
        have hz1_1 : w.heap.size + 1 < w1.heap.size := by omega
        go_wp2_with fail
        refine Calls.mono (him _) ?_
        rintro e w2 ⟨rfl, hb2⟩
        obtain ⟨hc2, hf2, hz2⟩ := bcell3 hb2
        try simp at hz2
        have hz2_0 : w.heap.size < w2.heap.size := by omega
        have hz2_1 : w.heap.size + 1 < w2.heap.size := by omega
        go_wp2_with fail
        refine Calls.mono (hin _) ?_
        rintro e w3 ⟨rfl, hb3⟩
        have hw : Ext w w3 := by ((repeat (first | with_reducible exact Ext.refl _ | with_reducible exact hw | with_reducible exact hb9 | with_reducible exact hb8 | with_reducible exact hb7 | with_reducible exact hb6 | with_reducible exact hb5 | with_reducible exact hb4 | with_reducible exact hb3 | with_reducible exact hb2 | with_reducible exact hb1 | with_reducible refine Ext.alloc ?_ _ | with_reducible refine Ext.drew ?_ | ((with_reducible refine Ext.set ?_ ?_ _); focus (dsimp only; omega)) | with_reducible refine Ext.trans ?_ hb9 | with_reducible refine Ext.trans ?_ hb8 | with_reducible refine Ext.trans ?_ hb7 | with_reducible refine Ext.trans ?_ hb6 | with_reducible refine Ext.trans ?_ hb5 | with_reducible refine Ext.trans ?_ hb4 | with_reducible refine Ext.trans ?_ hb3 | with_reducible refine Ext.trans ?_ hb2 | with_reducible refine Ext.trans ?_ hb1 | with_reducible refine Ext.trans ?_ hw)))
        go_wp2
        refine bodyPost_ret (v := .tuple #[.slice (some ⟨w3.heap.size, 0, none⟩) 0 0, .int .i64 2]) (by simp [results, Tryd.results36, go_sem]) rfl ⟨_, by rw [hv.out], by rw [hv.out]; exact Ow.made0 rfl hw.size, hw.alloc _⟩
end Go.Proofs.YtegopgpnjgikeaaDoor
set_option linter.unusedVariables false
set_option linter.unusedSimpArgs false
namespace Go.Proofs.YtegopgpnjgikeaaDoor
open Go.RowKit
set_option maxHeartbeats 400000 in
theorem spec_WearCard (x : Crd) (hx : x.nm.size ≤ 9223372036854775807) (t f : Mask) (w : World) :
    Calls Tryd.prog 30 #[.agg #[.string x.nm, .int .u64 (lo x.m), .int .u64 (hi x.m)], .agg #[.int .u64 (lo t), .int .u64 (hi t), .int .u64 (lo f), .int .u64 (hi f)]] w fun e w' => e = .returned (.tuple #[.agg #[.string (wearF x t f).1.nm, .int .u64 (lo (wearF x t f).1.m), .int .u64 (hi (wearF x t f).1.m)], .int .i64 (wearF x t f).2]) ∧ Ext w w' := by
  cases h1 : isCardB x
  · rw [wearF_miss1 h1]
    go_enter Tryd.func30, Tryd.ntmps30
    go_wp2_with fail
    refine Calls.mono (spec_l01Ok x hx w.heap.size 0 _ (by first | omega | (simp <;> omega)) (by go_simp) (by go_simp) (by go_simp)) ?_
    rintro e w1 ⟨rfl, hb1⟩
    obtain ⟨hc1, hf1, hz1⟩ := bcell3 hb1
    try simp at hz1
    have hz1_0 : w.heap.size < w1.heap.size := by omega
    have hz1_1 : w.heap.size + 1 < w1.heap.size := by omega
    have hz1_2 : w.heap.size + 1 + 1 < w1.heap.size := by omega
    go_wp2
    have c0 : w1.cell? ⟨w.heap.size + 1 + 1, 0, none⟩ = some (.string ⟨#[]⟩) := by go_simp
    have c1 : w1.cell? ⟨w.heap.size + 1 + 1, 1, none⟩ = some (.int .u64 0) := by go_simp
    have c2 : w1.cell? ⟨w.heap.size + 1 + 1, 2, none⟩ = some (.int .u64 0) := by go_simp
    try clear hc1 hf1
    try clear hc2 hf2
    try clear hc3 hf3
    try clear hc4 hf4
    try clear hc5 hf5
    try clear hc6 hf6
    try clear hc7 hf7
    try clear hc8 hf8
    try clear hc9 hf9
    refine bodyPost_ret (v := .tuple #[.agg #[.string ⟨#[]⟩, .int .u64 0, .int .u64 0], .int .i64 1]) (by simp [results, Tryd.results30, go_sem, c0, c1, c2]) rfl ⟨rfl, ?_⟩
    (repeat (first | with_reducible exact Ext.refl _ | with_reducible exact hw | with_reducible exact hb9 | with_reducible exact hb8 | with_reducible exact hb7 | with_reducible exact hb6 | with_reducible exact hb5 | with_reducible exact hb4 | with_reducible exact hb3 | with_reducible exact hb2 | with_reducible exact hb1 | with_reducible refine Ext.alloc ?_ _ | with_reducible refine Ext.drew ?_ | ((with_reducible refine Ext.set ?_ ?_ _); focus (dsimp only; omega)) | with_reducible refine Ext.trans ?_ hb9 | with_reducible refine Ext.trans ?_ hb8 | with_reducible refine Ext.trans ?_ hb7 | with_reducible refine Ext.trans ?_ hb6 | with_reducible refine Ext.trans ?_ hb5 | with_reducible refine Ext.trans ?_ hb4 | with_reducible refine Ext.trans ?_ hb3 | with_reducible refine Ext.trans ?_ hb2 | with_reducible refine Ext.trans ?_ hb1 | with_reducible refine Ext.trans ?_ hw))
  · cases h2 : isWearB t f
    · rw [wearF_miss2 h2]
      go_enter Tryd.func30, Tryd.ntmps30
      go_wp2_with fail
      refine Calls.mono (spec_l01Ok x hx w.heap.size 0 _ (by first | omega | (simp <;> omega)) (by go_simp) (by go_simp) (by go_simp)) ?_
      rintro e w1 ⟨rfl, hb1⟩
      obtain ⟨hc1, hf1, hz1⟩ := bcell3 hb1
      try simp at hz1
      have hz1_0 : w.heap.size < w1.heap.size := by omega
      have hz1_1 : w.heap.size + 1 < w1.heap.size := by omega
      have hz1_2 : w.heap.size + 1 + 1 < w1.heap.size := by omega
      go_wp2_with fail
      refine Calls.mono (spec_l04Ok t f (w.heap.size + 1) 0 _ (by first | omega | (simp <;> omega)) (by go_simp) (by go_simp) (by go_simp) (by go_simp)) ?_
      rintro e w2 ⟨rfl, hb2⟩
      obtain ⟨hc2, hf2, hz2⟩ := bcell3 hb2
      try simp at hz2
      have hz2_0 : w.heap.size < w2.heap.size := by omega
      have hz2_1 : w.heap.size + 1 < w2.heap.size := by omega
      have hz2_2 : w.heap.size + 1 + 1 < w2.heap.size := by omega
      go_wp2
      have c0 : w2.cell? ⟨w.heap.size + 1 + 1, 0, none⟩ = some (.string ⟨#[]⟩) := by go_simp
      have c1 : w2.cell? ⟨w.heap.size + 1 + 1, 1, none⟩ = some (.int .u64 0) := by go_simp
      have c2 : w2.cell? ⟨w.heap.size + 1 + 1, 2, none⟩ = some (.int .u64 0) := by go_simp
      try clear hc1 hf1
      try clear hc2 hf2
      try clear hc3 hf3
      try clear hc4 hf4
      try clear hc5 hf5
      try clear hc6 hf6
      try clear hc7 hf7
      try clear hc8 hf8
      try clear hc9 hf9
      refine bodyPost_ret (v := .tuple #[.agg #[.string ⟨#[]⟩, .int .u64 0, .int .u64 0], .int .i64 1]) (by simp [results, Tryd.results30, go_sem, c0, c1, c2]) rfl ⟨rfl, ?_⟩
      (repeat (first | with_reducible exact Ext.refl _ | with_reducible exact hw | with_reducible exact hb9 | with_reducible exact hb8 | with_reducible exact hb7 | with_reducible exact hb6 | with_reducible exact hb5 | with_reducible exact hb4 | with_reducible exact hb3 | with_reducible exact hb2 | with_reducible exact hb1 | with_reducible refine Ext.alloc ?_ _ | with_reducible refine Ext.drew ?_ | ((with_reducible refine Ext.set ?_ ?_ _); focus (dsimp only; omega)) | with_reducible refine Ext.trans ?_ hb9 | with_reducible refine Ext.trans ?_ hb8 | with_reducible refine Ext.trans ?_ hb7 | with_reducible refine Ext.trans ?_ hb6 | with_reducible refine Ext.trans ?_ hb5 | with_reducible refine Ext.trans ?_ hb4 | with_reducible refine Ext.trans ?_ hb3 | with_reducible refine Ext.trans ?_ hb2 | with_reducible refine Ext.trans ?_ hb1 | with_reducible refine Ext.trans ?_ hw))
    · rw [wearF_hit h1 h2]
      go_enter Tryd.func30, Tryd.ntmps30
      go_wp2_with fail
      refine Calls.mono (spec_l01Ok x hx w.heap.size 0 _ (by first | omega | (simp <;> omega)) (by go_simp) (by go_simp) (by go_simp)) ?_
      rintro e w1 ⟨rfl, hb1⟩
      obtain ⟨hc1, hf1, hz1⟩ := bcell3 hb1
      try simp at hz1
      have hz1_0 : w.heap.size < w1.heap.size := by omega
      have hz1_1 : w.heap.size + 1 < w1.heap.size := by omega
      have hz1_2 : w.heap.size + 1 + 1 < w1.heap.size := by omega
      go_wp2_with fail
      refine Calls.mono (spec_l04Ok t f (w.heap.size + 1) 0 _ (by first | omega | (simp <;> omega)) (by go_simp) (by go_simp) (by go_simp) (by go_simp)) ?_
      rintro e w2 ⟨rfl, hb2⟩
      obtain ⟨hc2, hf2, hz2⟩ := bcell3 hb2
      try simp at hz2
      have hz2_0 : w.heap.size < w2.heap.size := by omega
      have hz2_1 : w.heap.size + 1 < w2.heap.size := by omega
      have hz2_2 : w.heap.size + 1 + 1 < w2.heap.size := by omega
      go_wp2_with fail
      refine Calls.mono (spec_l04Worn t f x.m (w.heap.size + 1) 0 _ (by first | omega | (simp <;> omega)) (by go_simp) (by go_simp) (by go_simp) (by go_simp)) ?_
      rintro e w3 ⟨rfl, hb3⟩
      obtain ⟨hc3, hf3, hz3⟩ := bcell3 hb3
      try simp at hz3
      have hz3_0 : w.heap.size < w3.heap.size := by omega
      have hz3_1 : w.heap.size + 1 < w3.heap.size := by omega
      have hz3_2 : w.heap.size + 1 + 1 < w3.heap.size := by omega
      have c0_0 : w3.cell? ⟨w.heap.size, 0, none⟩ = some (.string x.nm) := by go_simp
      have f0_0 : w3.frozen? ⟨w.heap.size, 0, none⟩ = false := by go_simp
      have c0_1 : w3.cell? ⟨w.heap.size, 1, none⟩ = some (.int .u64 (lo x.m)) := by go_simp
      have f0_1 : w3.frozen? ⟨w.heap.size, 1, none⟩ = false := by go_simp
      have c0_2 : w3.cell? ⟨w.heap.size, 2, none⟩ = some (.int .u64 (hi x.m)) := by go_simp
      have f0_2 : w3.frozen? ⟨w.heap.size, 2, none⟩ = false := by go_simp
      have c2_0 : w3.cell? ⟨w.heap.size + 1 + 1, 0, none⟩ = some (.string ⟨#[]⟩) := by go_simp
      have f2_0 : w3.frozen? ⟨w.heap.size + 1 + 1, 0, none⟩ = false := by go_simp
      have c2_1 : w3.cell? ⟨w.heap.size + 1 + 1, 1, none⟩ = some (.int .u64 0) := by go_simp
      have f2_1 : w3.frozen? ⟨w.heap.size + 1 + 1, 1, none⟩ = false := by go_simp
      have c2_2 : w3.cell? ⟨w.heap.size + 1 + 1, 2, none⟩ = some (.int .u64 0) := by go_simp
      have f2_2 : w3.frozen? ⟨w.heap.size + 1 + 1, 2, none⟩ = false := by go_simp
      try clear hc1 hf1
      try clear hc2 hf2
      try clear hc3 hf3
      try clear hc4 hf4
      try clear hc5 hf5
      try clear hc6 hf6
      try clear hc7 hf7
      try clear hc8 hf8
      try clear hc9 hf9
      go_wp2
      refine bodyPost_ret (v := .tuple #[.agg #[.string x.nm, .int .u64 (lo (wornM t f x.m)), .int .u64 (hi (wornM t f x.m))], .int .i64 0]) (by simp [results, Tryd.results30, go_sem, c2_0, c2_1, c2_2]) rfl ⟨rfl, ?_⟩
      (repeat (first | with_reducible exact Ext.refl _ | with_reducible exact hw | with_reducible exact hb9 | with_reducible exact hb8 | with_reducible exact hb7 | with_reducible exact hb6 | with_reducible exact hb5 | with_reducible exact hb4 | with_reducible exact hb3 | with_reducible exact hb2 | with_reducible exact hb1 | with_reducible refine Ext.alloc ?_ _ | with_reducible refine Ext.drew ?_ | ((with_reducible refine Ext.set ?_ ?_ _); focus (dsimp only; omega)) | with_reducible refine Ext.trans ?_ hb9 | with_reducible refine Ext.trans ?_ hb8 | with_reducible refine Ext.trans ?_ hb7 | with_reducible refine Ext.trans ?_ hb6 | with_reducible refine Ext.trans ?_ hb5 | with_reducible refine Ext.trans ?_ hb4 | with_reducible refine Ext.trans ?_ hb3 | with_reducible refine Ext.trans ?_ hb2 | with_reducible refine Ext.trans ?_ hb1 | with_reducible refine Ext.trans ?_ hw))
end Go.Proofs.YtegopgpnjgikeaaDoor
set_option linter.unusedVariables false
set_option linter.unusedSimpArgs false
set_option maxRecDepth 100000
namespace Go.Proofs.YtegopgpnjgikeaaDoor
open Go.RowKit
theorem impl_LeastDistanceT (f : Fld) (hin : FldIn f) (w : World) :
    Calls Tryd.prog 23 #[.agg #[.string f.nm, .int .i8 f.kd, .int .i16 f.st, .int .i16 f.sz]] w fun e w' => e = .returned (.tuple #[.int .i64 (leastF f).1, .int .i64 (leastF f).2]) ∧ Ext w w' := impl_LeastDistance f.nm f.kd f.st f.sz hin.1 hin.2 w
theorem spec_LeastDistanceT (f : Fld) (hin : FldIn f) (w : World) :
    Calls Tryd.prog 24 #[.agg #[.string f.nm, .int .i8 f.kd, .int .i16 f.st, .int .i16 f.sz]] w fun e w' => e = .returned (.tuple #[.int .i64 (leastF f).1, .int .i64 (leastF f).2]) ∧ Ext w w' := spec_LeastDistance f.nm f.kd f.st f.sz hin.1 hin.2 w
theorem impl_IsToldT (f : Fld) (hin : FldIn f) (v : Int) (t u : Mask) (w : World) :
    Calls Tryd.prog 27 #[.agg #[.string f.nm, .int .i8 f.kd, .int .i16 f.st, .int .i16 f.sz], .int .i64 v, .agg #[.int .u64 (lo t), .int .u64 (hi t), .int .u64 (lo u), .int .u64 (hi u)]] w fun e w' => e = .returned (.tuple #[.bool (toldF f v t u).1, .int .i64 (toldF f v t u).2]) ∧ Ext w w' := impl_IsTold f.nm f.kd f.st f.sz hin.1 hin.2 v t u w
theorem spec_IsToldT (f : Fld) (hin : FldIn f) (v : Int) (t u : Mask) (w : World) :
    Calls Tryd.prog 28 #[.agg #[.string f.nm, .int .i8 f.kd, .int .i16 f.st, .int .i16 f.sz], .int .i64 v, .agg #[.int .u64 (lo t), .int .u64 (hi t), .int .u64 (lo u), .int .u64 (hi u)]] w fun e w' => e = .returned (.tuple #[.bool (toldF f v t u).1, .int .i64 (toldF f v t u).2]) ∧ Ext w w' := spec_IsTold f.nm f.kd f.st f.sz hin.1 hin.2 v t u w
theorem impl_ValuesNearT (f : Fld) (hin : FldIn f) (m : Mask) (far : Int) (w : World) :
    Calls Tryd.prog 35 #[.agg #[.string f.nm, .int .i8 f.kd, .int .i16 f.st, .int .i16 f.sz], .agg #[.int .u64 (lo m), .int .u64 (hi m)], .int .i64 far] w fun e w' => ∃ v, e = .returned (.tuple #[v, .int .i64 (nearF f m far).2]) ∧ Ow encI64 2 w' w.heap.size v (nearF f m far).1 ∧ Ext w w' := impl_ValuesNear f.nm f.kd f.st f.sz hin.1 hin.2 m far w
theorem spec_ValuesNearT (f : Fld) (hin : FldIn f) (m : Mask) (far : Int) (w : World) :
    Calls Tryd.prog 36 #[.agg #[.string f.nm, .int .i8 f.kd, .int .i16 f.st, .int .i16 f.sz], .agg #[.int .u64 (lo m), .int .u64 (hi m)], .int .i64 far] w fun e w' => ∃ v, e = .returned (.tuple #[v, .int .i64 (nearF f m far).2]) ∧ Ow encI64 2 w' w.heap.size v (nearF f m far).1 ∧ Ext w w' := spec_ValuesNear f.nm f.kd f.st f.sz hin.1 hin.2 m far w
theorem impl_NearestValueT (f : Fld) (hin : FldIn f) (m : Mask) (w : World) :
    Calls Tryd.prog 37 #[.agg #[.string f.nm, .int .i8 f.kd, .int .i16 f.st, .int .i16 f.sz], .agg #[.int .u64 (lo m), .int .u64 (hi m)]] w fun e w' => e = .returned (.tuple #[.int .i64 (nearestF f m).1, .int .i64 (nearestF f m).2.1, .int .i64 (nearestF f m).2.2]) ∧ Ext w w' := impl_NearestValue f.nm f.kd f.st f.sz hin.1 hin.2 m w
theorem spec_NearestValueT (f : Fld) (hin : FldIn f) (m : Mask) (w : World) :
    Calls Tryd.prog 38 #[.agg #[.string f.nm, .int .i8 f.kd, .int .i16 f.st, .int .i16 f.sz], .agg #[.int .u64 (lo m), .int .u64 (hi m)]] w fun e w' => e = .returned (.tuple #[.int .i64 (nearestF f m).1, .int .i64 (nearestF f m).2.1, .int .i64 (nearestF f m).2.2]) ∧ Ext w w' := spec_NearestValue f.nm f.kd f.st f.sz hin.1 hin.2 m w
theorem card_a {m : Mask} (h : isMaskB m = true) : isCardB ⟨⟨#[97]⟩, m⟩ = true := by
  unfold isCardB
  rw [show isNameB (⟨#[97]⟩ : ByteArray) = true by decide +kernel, h]
  rfl
theorem spec_WearA (m t u : Mask) (hm : isMaskB m = true) (hv : isWearB t u = true) (w : World) :
    Calls Tryd.prog 30 #[.agg #[.string ⟨#[97]⟩, .int .u64 (lo m), .int .u64 (hi m)], .agg #[.int .u64 (lo t), .int .u64 (hi t), .int .u64 (lo u), .int .u64 (hi u)]] w fun e w' => e = .returned (.tuple #[.agg #[.string ⟨#[97]⟩, .int .u64 (lo (wornM t u m)), .int .u64 (hi (wornM t u m))], .int .i64 0]) ∧ Ext w w' := by
  have h := spec_WearCard ⟨⟨#[97]⟩, m⟩ (show (1 : Nat) ≤ 9223372036854775807 by decide) t u w
  rw [wearF_hit (card_a hm) hv] at h
  exact h
end Go.Proofs.YtegopgpnjgikeaaDoor
set_option linter.unusedVariables false
set_option linter.unusedSimpArgs false
set_option maxRecDepth 100000
namespace Go.Proofs.YtegopgpnjgikeaaDoor
open Go.RowKit
set_option maxHeartbeats 1000000 in
theorem spec_l04Drawn (base b n : Nat) (w : World) (hS : Src w base b n) (hn : n + 50 ≤ 1099511627776) :
    Calls Tryd.prog 66 #[.pointer (some ⟨b, 0, none⟩)] w fun e w' => ∃ t f : Mask, e = .returned (.agg #[.int .u64 (lo t), .int .u64 (hi t), .int .u64 (lo f), .int .u64 (hi f)]) ∧ isWearB t f = true ∧ Src w' base b (n + 50) ∧ Win b (b + 1) w w' := by
  have lS := hS.lt
  have hbs := hS.base
  have hS1 := hS.ext (((Ext.refl w).alloc (.cells #[.int .u64 0, .int .u64 0, .int .u64 0, .int .u64 0] 54)).alloc (.cells #[.int .u64 0, .int .u64 0, .int .u64 0, .int .u64 0] 54))
  have hX1 : BoxAt ((w.alloc (.cells #[.int .u64 0, .int .u64 0, .int .u64 0, .int .u64 0] 54)).alloc (.cells #[.int .u64 0, .int .u64 0, .int .u64 0, .int .u64 0] 54)) w.heap.size #[.int .u64 0, .int .u64 0, .int .u64 0, .int .u64 0] 54 := (BoxAt.new' rfl).alloc _
  have hM1 : BoxAt ((w.alloc (.cells #[.int .u64 0, .int .u64 0, .int .u64 0, .int .u64 0] 54)).alloc (.cells #[.int .u64 0, .int .u64 0, .int .u64 0, .int .u64 0] 54)) (w.heap.size + 1) #[.int .u64 0, .int .u64 0, .int .u64 0, .int .u64 0] 54 := BoxAt.new' (by simp)
  have hw1 : Win b (b + 1) w ((w.alloc (.cells #[.int .u64 0, .int .u64 0, .int .u64 0, .int .u64 0] 54)).alloc (.cells #[.int .u64 0, .int .u64 0, .int .u64 0, .int .u64 0] 54)) := Win.of (((Ext.refl w).alloc _).alloc _)
  go_enter Tryd.func66, Tryd.ntmps66
  go_wp2_with fail
  refine Calls.mono (src_pick base b n 5 (by omega) _ hS1 (by omega)) ?_
  rintro e w2 ⟨k0, rfl, k00, k01, hS2, hW2⟩
  have hM2 := hM1.win hW2 (.inr (by omega))
  have hX2 := hX1.win hW2 (.inr (by omega))
  have hw2 := hw1.trans hW2
  clear hS1 hM1 hX1 hW2 hw1
  obtain ⟨k0, rfl⟩ := Int.eq_ofNat_of_zero_le k00
  go_wp2
  go_loopg [4] k0 (fun g kv wr => ∃ k : Nat, ∃ t f : Mask, g = k ∧ kv = .int .i64 k ∧ k ≤ 5 ∧ isWearB t f = true ∧ BoxAt wr (w.heap.size + 1) #[.int .u64 (lo t), .int .u64 (hi t), .int .u64 (lo f), .int .u64 (hi f)] 54 ∧ BoxAt wr w.heap.size #[.int .u64 0, .int .u64 0, .int .u64 0, .int .u64 0] 54 ∧ Src wr base b (n + 50 - 4 * k) ∧ Win b (b + 1) w wr)
  case atStart => exact ⟨k0, 0, 0, rfl, rfl, by omega, wear_zero, hM2, hX2, hS2.up (by omega) (by omega), hw2⟩
  case round =>
    obtain ⟨k, t, f, hg, rfl, hk, hv, hM, hX, hSr, hw⟩ := hrel
    clear hS2 hM2 hX2 hw2 k00 k01
    cases k with
    | zero =>
      have y0 : wr.cell? ⟨w.heap.size + 1, 0, none⟩ = some (.int .u64 (lo t)) := hM.cell 0
      have y1 : wr.cell? ⟨w.heap.size + 1, 1, none⟩ = some (.int .u64 (hi t)) := hM.cell 1
      have y2 : wr.cell? ⟨w.heap.size + 1, 2, none⟩ = some (.int .u64 (lo f)) := hM.cell 2
      have y3 : wr.cell? ⟨w.heap.size + 1, 3, none⟩ = some (.int .u64 (hi f)) := hM.cell 3
      have x0 : wr.cell? ⟨w.heap.size, 0, none⟩ = some (.int .u64 0) := hX.cell 0
      have x1 : wr.cell? ⟨w.heap.size, 1, none⟩ = some (.int .u64 0) := hX.cell 1
      have x2 : wr.cell? ⟨w.heap.size, 2, none⟩ = some (.int .u64 0) := hX.cell 2
      have x3 : wr.cell? ⟨w.heap.size, 3, none⟩ = some (.int .u64 0) := hX.cell 3
      have f0 := hX.frozen 0
      have f1 := hX.frozen 1
      have f2 := hX.frozen 2
      have f3 := hX.frozen 3
      have lX := hX.lt
      have lM := hM.lt
      go_wp2
      have hXf := (((hX.set 0 (.int .u64 (lo t))).set 1 (.int .u64 (hi t))).set 2 (.int .u64 (lo f))).set 3 (.int .u64 (hi f))
      clear x0 x1 x2 x3 f0 f1 f2 f3 y0 y1 y2 y3
      have c0 : World.cell? _ ⟨w.heap.size, 0, none⟩ = some (.int .u64 (lo t)) := hXf.cell 0
      have c1 : World.cell? _ ⟨w.heap.size, 1, none⟩ = some (.int .u64 (hi t)) := hXf.cell 1
      have c2 : World.cell? _ ⟨w.heap.size, 2, none⟩ = some (.int .u64 (lo f)) := hXf.cell 2
      have c3 : World.cell? _ ⟨w.heap.size, 3, none⟩ = some (.int .u64 (hi f)) := hXf.cell 3
      refine bodyPost_ret (v := .agg #[.int .u64 (lo t), .int .u64 (hi t), .int .u64 (lo f), .int .u64 (hi f)]) (by simp [results, Tryd.results66, go_sem, c0, c1, c2, c3]) rfl ⟨_, _, rfl, hv, ?_, ?_⟩
      · exact ((((hSr.set (by dsimp only; omega) (by dsimp only; omega) _).set (by dsimp only; omega) (by dsimp only; omega) _).set (by dsimp only; omega) (by dsimp only; omega) _).set (by dsimp only; omega) (by dsimp only; omega) _).up (by omega) (by omega)
      · exact (((hw.setOut (Nat.le_refl _) _).setOut (Nat.le_refl _) _).setOut (Nat.le_refl _) _).setOut (Nat.le_refl _) _
    | succ k =>
      have i1 : ((0 : Int) < (k + 1 : Nat)) = True := eq_true (by omega)
      rw [show ((k + 1 : Nat) : Int) = (k : Int) + 1 from rfl] at *
      go_wp2_with fail
      refine Calls.mono (src_pick base b _ 96 (by omega) _ hSr (by omega)) ?_
      rintro e w3 ⟨r, rfl, r0, r1, hS3, hW3⟩
      have hM3 := hM.win hW3 (.inr (by omega))
      have hX3 := hX.win hW3 (.inr (by omega))
      have hw3 := hw.trans hW3
      clear hM hX hw hSr hW3
      have hbt := sm_bit r0 (show r < 96 by omega)
      have hbc := fun W => spec_l01Bit r (by omega) (by omega) W
      generalize hbit : mbit r = bt at hbt hbc
      clear hbit
      go_wp2_with fail
      refine Calls.mono (hbc _) ?_
      rintro e w4 ⟨rfl, hb4⟩
      have hM4 := (hM3.ext hb4).alloc (.cells #[.int .u64 (lo bt), .int .u64 (hi bt)] 33)
      have hX4 := (hX3.ext hb4).alloc (.cells #[.int .u64 (lo bt), .int .u64 (hi bt)] 33)
      have hS4 := (hS3.ext hb4).ext ((Ext.refl w4).alloc (.cells #[.int .u64 (lo bt), .int .u64 (hi bt)] 33))
      have hB4 : BoxAt (w4.alloc (.cells #[.int .u64 (lo bt), .int .u64 (hi bt)] 33)) w4.heap.size #[.int .u64 (lo bt), .int .u64 (hi bt)] 33 := BoxAt.new' rfl
      have hw4 := hw3.trans (Win.of (lo := b) (hi := b + 1) (hb4.alloc (.cells #[.int .u64 (lo bt), .int .u64 (hi bt)] 33)))
      have l4 : w.heap.size + 1 < w4.heap.size := (hM3.ext hb4).lt
      clear hM3 hX3 hS3 hw3 hb4
      go_wp2_with fail
      refine Calls.mono (src_one base b _ 2 (by omega) _ hS4 (by omega)) ?_
      rintro e w5 ⟨q, rfl, hS5, hW5⟩
      have hM5 := hM4.win hW5 (.inr (by omega))
      have hX5 := hX4.win hW5 (.inr (by omega))
      have hB5 := hB4.win hW5 (.inr (by omega))
      have hw5 := hw4.trans hW5
      clear hM4 hX4 hS4 hB4 hw4 hW5
      have y0 : w5.cell? ⟨w.heap.size + 1, 0, none⟩ = some (.int .u64 (lo t)) := hM5.cell 0
      have y1 : w5.cell? ⟨w.heap.size + 1, 1, none⟩ = some (.int .u64 (hi t)) := hM5.cell 1
      have y2 : w5.cell? ⟨w.heap.size + 1, 2, none⟩ = some (.int .u64 (lo f)) := hM5.cell 2
      have y3 : w5.cell? ⟨w.heap.size + 1, 3, none⟩ = some (.int .u64 (hi f)) := hM5.cell 3
      have v0 : w5.cell? ⟨w4.heap.size, 0, none⟩ = some (.int .u64 (lo bt)) := hB5.cell 0
      have v1 : w5.cell? ⟨w4.heap.size, 1, none⟩ = some (.int .u64 (hi bt)) := hB5.cell 1
      have lM := hM5.lt
      have lB := hB5.lt
      cases q
      · go_wp2_with fail
        refine Calls.mono (spec_l01Join f bt _) ?_
        rintro e w6 ⟨rfl, hb6⟩
        have hM6 := hM5.ext hb6
        have hX6 := hX5.ext hb6
        have hB6 := hB5.ext hb6
        have hS6 := hS5.ext hb6
        have hw6 := hw5.trans (Win.of (lo := b) (hi := b + 1) hb6)
        clear y0 y1 y2 y3 v0 v1 lM lB hM5 hX5 hB5 hS5 hw5
        have y0 : w6.cell? ⟨w.heap.size + 1, 0, none⟩ = some (.int .u64 (lo t)) := hM6.cell 0
        have y1 : w6.cell? ⟨w.heap.size + 1, 1, none⟩ = some (.int .u64 (hi t)) := hM6.cell 1
        have y2 : w6.cell? ⟨w.heap.size + 1, 2, none⟩ = some (.int .u64 (lo f)) := hM6.cell 2
        have y3 : w6.cell? ⟨w.heap.size + 1, 3, none⟩ = some (.int .u64 (hi f)) := hM6.cell 3
        have v0 : w6.cell? ⟨w4.heap.size, 0, none⟩ = some (.int .u64 (lo bt)) := hB6.cell 0
        have v1 : w6.cell? ⟨w4.heap.size, 1, none⟩ = some (.int .u64 (hi bt)) := hB6.cell 1
        have f0 := hM6.frozen 2
        have f1 := hM6.frozen 3
        have lM := hM6.lt
        have lB := hB6.lt
        have hv2 := wear_fill hv hbt
        generalize hn1 : mjoin f bt = n1 at *
        go_wp2_with fail
        refine Calls.mono (spec_l01Less t bt _) ?_
        rintro e w7 ⟨rfl, hb7⟩
        have hM7 := (((hM6.set 2 (.int .u64 (lo n1))).set 3 (.int .u64 (hi n1))).ext hb7)
        have hX7 := ((hX6.setOther (p := ⟨w.heap.size + 1, 2, none⟩) (by dsimp only; omega) (.int .u64 (lo n1))).setOther (p := ⟨w.heap.size + 1, 3, none⟩) (by dsimp only; omega) (.int .u64 (hi n1))).ext hb7
        have hS7 := ((hS6.set (p := ⟨w.heap.size + 1, 2, none⟩) (by dsimp only; omega) (by dsimp only; omega) (.int .u64 (lo n1))).set (p := ⟨w.heap.size + 1, 3, none⟩) (by dsimp only; omega) (by dsimp only; omega) (.int .u64 (hi n1))).ext hb7
        have hw7 := ((hw6.setOut (p := ⟨w.heap.size + 1, 2, none⟩) (by dsimp only; omega) (.int .u64 (lo n1))).setOut (p := ⟨w.heap.size + 1, 3, none⟩) (by dsimp only; omega) (.int .u64 (hi n1))).trans (Win.of (lo := b) (hi := b + 1) hb7)
        clear y0 y1 y2 y3 v0 v1 f0 f1 lM lB hM6 hX6 hB6 hS6 hw6 hb6 hb7
        have y0 : w7.cell? ⟨w.heap.size + 1, 0, none⟩ = some (.int .u64 (lo t)) := hM7.cell 0
        have y1 : w7.cell? ⟨w.heap.size + 1, 1, none⟩ = some (.int .u64 (hi t)) := hM7.cell 1
        have f0 := hM7.frozen 0
        have f1 := hM7.frozen 1
        have lM := hM7.lt
        go_wp2
        go_roundg k
        case rel => exact ⟨k, mless t bt, n1, rfl, rfl, by omega, hv2, (hM7.set 0 _).set 1 _, (hX7.setOther (by dsimp only; omega) _).setOther (by dsimp only; omega) _, ((hS7.set (by dsimp only; omega) (by dsimp only; omega) _).set (by dsimp only; omega) (by dsimp only; omega) _).up (by omega) (by omega), (hw7.setOut (by dsimp only; omega) _).setOut (by dsimp only; omega) _⟩
        case measure => omega
      · go_wp2_with fail
        refine Calls.mono (spec_l01Join t bt _) ?_
        rintro e w6 ⟨rfl, hb6⟩
        have hM6 := hM5.ext hb6
        have hX6 := hX5.ext hb6
        have hB6 := hB5.ext hb6
        have hS6 := hS5.ext hb6
        have hw6 := hw5.trans (Win.of (lo := b) (hi := b + 1) hb6)
        clear y0 y1 y2 y3 v0 v1 lM lB hM5 hX5 hB5 hS5 hw5
        have y0 : w6.cell? ⟨w.heap.size + 1, 0, none⟩ = some (.int .u64 (lo t)) := hM6.cell 0
        have y1 : w6.cell? ⟨w.heap.size + 1, 1, none⟩ = some (.int .u64 (hi t)) := hM6.cell 1
        have y2 : w6.cell? ⟨w.heap.size + 1, 2, none⟩ = some (.int .u64 (lo f)) := hM6.cell 2
        have y3 : w6.cell? ⟨w.heap.size + 1, 3, none⟩ = some (.int .u64 (hi f)) := hM6.cell 3
        have v0 : w6.cell? ⟨w4.heap.size, 0, none⟩ = some (.int .u64 (lo bt)) := hB6.cell 0
        have v1 : w6.cell? ⟨w4.heap.size, 1, none⟩ = some (.int .u64 (hi bt)) := hB6.cell 1
        have f0 := hM6.frozen 0
        have f1 := hM6.frozen 1
        have lM := hM6.lt
        have lB := hB6.lt
        have hv2 := wear_tear hv hbt
        generalize hn1 : mjoin t bt = n1 at *
        go_wp2_with fail
        refine Calls.mono (spec_l01Less f bt _) ?_
        rintro e w7 ⟨rfl, hb7⟩
        have hM7 := (((hM6.set 0 (.int .u64 (lo n1))).set 1 (.int .u64 (hi n1))).ext hb7)
        have hX7 := ((hX6.setOther (p := ⟨w.heap.size + 1, 0, none⟩) (by dsimp only; omega) (.int .u64 (lo n1))).setOther (p := ⟨w.heap.size + 1, 1, none⟩) (by dsimp only; omega) (.int .u64 (hi n1))).ext hb7
        have hS7 := ((hS6.set (p := ⟨w.heap.size + 1, 0, none⟩) (by dsimp only; omega) (by dsimp only; omega) (.int .u64 (lo n1))).set (p := ⟨w.heap.size + 1, 1, none⟩) (by dsimp only; omega) (by dsimp only; omega) (.int .u64 (hi n1))).ext hb7
        have hw7 := ((hw6.setOut (p := ⟨w.heap.size + 1, 0, none⟩) (by dsimp only; omega) (.int .u64 (lo n1))).setOut (p := ⟨w.heap.size + 1, 1, none⟩) (by dsimp only; omega) (.int .u64 (hi n1))).trans (Win.of (lo := b) (hi := b + 1) hb7)
        clear y0 y1 y2 y3 v0 v1 f0 f1 lM lB hM6 hX6 hB6 hS6 hw6 hb6 hb7
        have y0 : w7.cell? ⟨w.heap.size + 1, 2, none⟩ = some (.int .u64 (lo f)) := hM7.cell 2
        have y1 : w7.cell? ⟨w.heap.size + 1, 3, none⟩ = some (.int .u64 (hi f)) := hM7.cell 3
        have f0 := hM7.frozen 2
        have f1 := hM7.frozen 3
        have lM := hM7.lt
        go_wp2
        go_roundg k
        case rel => exact ⟨k, n1, mless f bt, rfl, rfl, by omega, hv2, (hM7.set 2 _).set 3 _, (hX7.setOther (by dsimp only; omega) _).setOther (by dsimp only; omega) _, ((hS7.set (by dsimp only; omega) (by dsimp only; omega) _).set (by dsimp only; omega) (by dsimp only; omega) _).up (by omega) (by omega), (hw7.setOut (by dsimp only; omega) _).setOut (by dsimp only; omega) _⟩
        case measure => omega
theorem spec_P6Wear (cs : List UInt8) (A : Option Addr) (cap : Nat) (w : World) (hR : Rd encU8 w A cs) (hn : cs.length ≤ 1099511627776) :
    Calls Tryd.prog 26 #[.slice A cs.length cap] w fun e w' => ∃ t f : Mask, e = .returned (.agg #[.int .u64 (lo t), .int .u64 (hi t), .int .u64 (lo f), .int .u64 (hi f)]) ∧ isWearB t f = true ∧ Ext w w' := by
  have hf := spec_l00From cs A cap w _ hR hn ((Ext.refl w).alloc (.cells #[.int .u64 0, .int .u64 0, .int .u64 0, .int .u64 0] 54))
  go_enter Tryd.func26, Tryd.ntmps26
  go_wp2_with fail
  refine Calls.mono hf ?_
  rintro e w1 ⟨b, rfl, hS, hb, hE1⟩
  have hX : BoxAt w1 w.heap.size #[.int .u64 0, .int .u64 0, .int .u64 0, .int .u64 0] 54 := (BoxAt.new' rfl).ext hE1
  simp only [World.size_alloc] at hb
  have hw1 := ((Ext.refl w).alloc (.cells #[.int .u64 0, .int .u64 0, .int .u64 0, .int .u64 0] 54)).trans hE1
  clear hf hE1
  have hd := spec_l04Drawn w.heap.size b 0 w1 hS (by omega)
  go_wp2_with fail
  refine Calls.mono hd ?_
  rintro e w2 ⟨t, f, rfl, hv, hS2, hW2⟩
  have hX2 := hX.win hW2 (.inl (by omega))
  have hw2 := hw1.win hW2 (by omega)
  clear hd hX hw1 hS hS2 hW2
  have x0 : w2.cell? ⟨w.heap.size, 0, none⟩ = some (.int .u64 0) := hX2.cell 0
  have x1 : w2.cell? ⟨w.heap.size, 1, none⟩ = some (.int .u64 0) := hX2.cell 1
  have x2 : w2.cell? ⟨w.heap.size, 2, none⟩ = some (.int .u64 0) := hX2.cell 2
  have x3 : w2.cell? ⟨w.heap.size, 3, none⟩ = some (.int .u64 0) := hX2.cell 3
  have f0 := hX2.frozen 0
  have f1 := hX2.frozen 1
  have f2 := hX2.frozen 2
  have f3 := hX2.frozen 3
  have lX := hX2.lt
  go_wp2
  have hXf := (((hX2.set 0 (.int .u64 (lo t))).set 1 (.int .u64 (hi t))).set 2 (.int .u64 (lo f))).set 3 (.int .u64 (hi f))
  clear x0 x1 x2 x3 f0 f1 f2 f3
  have c0 : World.cell? _ ⟨w.heap.size, 0, none⟩ = some (.int .u64 (lo t)) := hXf.cell 0
  have c1 : World.cell? _ ⟨w.heap.size, 1, none⟩ = some (.int .u64 (hi t)) := hXf.cell 1
  have c2 : World.cell? _ ⟨w.heap.size, 2, none⟩ = some (.int .u64 (lo f)) := hXf.cell 2
  have c3 : World.cell? _ ⟨w.heap.size, 3, none⟩ = some (.int .u64 (hi f)) := hXf.cell 3
  refine bodyPost_ret (v := .agg #[.int .u64 (lo t), .int .u64 (hi t), .int .u64 (lo f), .int .u64 (hi f)]) (by simp [results, Tryd.results26, go_sem, c0, c1, c2, c3]) rfl ⟨_, _, rfl, hv, ?_⟩
  exact Ext.set (Nat.le_refl _) (Ext.set (Nat.le_refl _) (Ext.set (Nat.le_refl _) (Ext.set (Nat.le_refl _) hw2 _) _) _) _
end Go.Proofs.YtegopgpnjgikeaaDoor
