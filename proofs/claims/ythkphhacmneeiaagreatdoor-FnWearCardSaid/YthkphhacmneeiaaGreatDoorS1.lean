/-
  Wear that the reference draws: it is valid.
-/
import Derived.Test.YthkphhacmneeiaaGreatDoorS0
import Derived.Test.YthkphhacmneeiaaGreatDoorVM
set_option linter.unusedVariables false
set_option linter.unusedSimpArgs false
set_option maxRecDepth 100000
namespace Go.Proofs.YthkphhacmneeiaaGreatDoor
open Go.RowKit
set_option maxHeartbeats 1000000 in
theorem spec_l04Drawn (base b n : Nat) (w : World) (hS : Src w base b n) (hn : n + 50 ≤ 1099511627776) :
    Calls Tryz.prog 38 #[.pointer (some ⟨b, 0, none⟩)] w fun e w' => ∃ t f : Mask, e = .returned (.agg #[.int .u64 (lo t), .int .u64 (hi t), .int .u64 (lo f), .int .u64 (hi f)]) ∧ isWearB t f = true ∧ Src w' base b (n + 50) ∧ Win b (b + 1) w w' := by
  have lS := hS.lt
  have hbs := hS.base
  have hS1 := hS.ext (((Ext.refl w).alloc (.cells #[.int .u64 0, .int .u64 0, .int .u64 0, .int .u64 0] 31)).alloc (.cells #[.int .u64 0, .int .u64 0, .int .u64 0, .int .u64 0] 31))
  have hX1 : BoxAt ((w.alloc (.cells #[.int .u64 0, .int .u64 0, .int .u64 0, .int .u64 0] 31)).alloc (.cells #[.int .u64 0, .int .u64 0, .int .u64 0, .int .u64 0] 31)) w.heap.size #[.int .u64 0, .int .u64 0, .int .u64 0, .int .u64 0] 31 := (BoxAt.new' rfl).alloc _
  have hM1 : BoxAt ((w.alloc (.cells #[.int .u64 0, .int .u64 0, .int .u64 0, .int .u64 0] 31)).alloc (.cells #[.int .u64 0, .int .u64 0, .int .u64 0, .int .u64 0] 31)) (w.heap.size + 1) #[.int .u64 0, .int .u64 0, .int .u64 0, .int .u64 0] 31 := BoxAt.new' (by simp)
  have hw1 : Win b (b + 1) w ((w.alloc (.cells #[.int .u64 0, .int .u64 0, .int .u64 0, .int .u64 0] 31)).alloc (.cells #[.int .u64 0, .int .u64 0, .int .u64 0, .int .u64 0] 31)) := Win.of (((Ext.refl w).alloc _).alloc _)
  go_enter Tryz.func38, Tryz.ntmps38
  go_wp2_with fail
  refine Calls.mono (src_pick base b n 5 (by omega) _ hS1 (by omega)) ?_
  rintro e w2 ⟨k0, rfl, k00, k01, hS2, hW2⟩
  have hM2 := hM1.win hW2 (.inr (by omega))
  have hX2 := hX1.win hW2 (.inr (by omega))
  have hw2 := hw1.trans hW2
  clear hS1 hM1 hX1 hW2 hw1
  obtain ⟨k0, rfl⟩ := Int.eq_ofNat_of_zero_le k00
  go_wp2
  go_loopg [4] k0 (fun g kv wr => ∃ k : Nat, ∃ t f : Mask, g = k ∧ kv = .int .i64 k ∧ k ≤ 5 ∧ isWearB t f = true ∧ BoxAt wr (w.heap.size + 1) #[.int .u64 (lo t), .int .u64 (hi t), .int .u64 (lo f), .int .u64 (hi f)] 31 ∧ BoxAt wr w.heap.size #[.int .u64 0, .int .u64 0, .int .u64 0, .int .u64 0] 31 ∧ Src wr base b (n + 50 - 4 * k) ∧ Win b (b + 1) w wr)
  case atStart => exact ⟨k0, 0, 0, rfl, rfl, by omega, wear_zero, hM2, hX2, hS2.up (by omega) (by omega), hw2⟩
  case round =>
    obtain ⟨k, t, f, hg, rfl, hk, hv, hM, hX, hSr, hw⟩ := hrel
    clear hS2 hM2 hX2 hw2 k00 k01
    cases k with
    | zero =>
      have y0 : wr.cell? ⟨w.heap.size + 1, 0, none⟩ = some (.int .u64 (lo t)) := hM.cell 0
      have y1 : wr.cell? ⟨w.heap.size + 1, 1, none⟩ = some (.int .u64 (hi t)) := hM.cell 1
      have y2 : wr.cell? ⟨w.heap.size + 1, 2, none⟩ = some (.int .u64 (lo f)) := hM.cell 2
      have y3 : wr.cell? ⟨w.heap.size + 1, 3, none⟩ = some (.int .u64 (hi f)) := hM.cell 3
      have x0 : wr.cell? ⟨w.heap.size, 0, none⟩ = some (.int .u64 0) := hX.cell 0
      have x1 : wr.cell? ⟨w.heap.size, 1, none⟩ = some (.int .u64 0) := hX.cell 1
      have x2 : wr.cell? ⟨w.heap.size, 2, none⟩ = some (.int .u64 0) := hX.cell 2
      have x3 : wr.cell? ⟨w.heap.size, 3, none⟩ = some (.int .u64 0) := hX.cell 3
      have f0 := hX.frozen 0
      have f1 := hX.frozen 1
      have f2 := hX.frozen 2
      have f3 := hX.frozen 3
      have lX := hX.lt
      have lM := hM.lt
      go_wp2
      have hXf := (((hX.set 0 (.int .u64 (lo t))).set 1 (.int .u64 (hi t))).set 2 (.int .u64 (lo f))).set 3 (.int .u64 (hi f))
      clear x0 x1 x2 x3 f0 f1 f2 f3 y0 y1 y2 y3
      have c0 : World.cell? _ ⟨w.heap.size, 0, none⟩ = some (.int .u64 (lo t)) := hXf.cell 0
      have c1 : World.cell? _ ⟨w.heap.size, 1, none⟩ = some (.int .u64 (hi t)) := hXf.cell 1
      have c2 : World.cell? _ ⟨w.heap.size, 2, none⟩ = some (.int .u64 (lo f)) := hXf.cell 2
      have c3 : World.cell? _ ⟨w.heap.size, 3, none⟩ = some (.int .u64 (hi f)) := hXf.cell 3
      refine bodyPost_ret (v := .agg #[.int .u64 (lo t), .int .u64 (hi t), .int .u64 (lo f), .int .u64 (hi f)]) (by simp [results, Tryz.results38, go_sem, c0, c1, c2, c3]) rfl ⟨_, _, rfl, hv, ?_, ?_⟩
      · exact ((((hSr.set (by dsimp only; omega) (by dsimp only; omega) _).set (by dsimp only; omega) (by dsimp only; omega) _).set (by dsimp only; omega) (by dsimp only; omega) _).set (by dsimp only; omega) (by dsimp only; omega) _).up (by omega) (by omega)
      · exact (((hw.setOut (Nat.le_refl _) _).setOut (Nat.le_refl _) _).setOut (Nat.le_refl _) _).setOut (Nat.le_refl _) _
    | succ k =>
      have i1 : ((0 : Int) < (k + 1 : Nat)) = True := eq_true (by omega)
      rw [show ((k + 1 : Nat) : Int) = (k : Int) + 1 from rfl] at *
      go_wp2_with fail
      refine Calls.mono (src_pick base b _ 96 (by omega) _ hSr (by omega)) ?_
      rintro e w3 ⟨r, rfl, r0, r1, hS3, hW3⟩
      have hM3 := hM.win hW3 (.inr (by omega))
      have hX3 := hX.win hW3 (.inr (by omega))
      have hw3 := hw.trans hW3
      clear hM hX hw hSr hW3
      have hbt := sm_bit r0 (show r < 96 by omega)
      have hbc := fun W => spec_l01Bit r (by omega) (by omega) W
      generalize hbit : mbit r = bt at hbt hbc
      clear hbit
      go_wp2_with fail
      refine Calls.mono (hbc _) ?_
      rintro e w4 ⟨rfl, hb4⟩
      have hM4 := (hM3.ext hb4).alloc (.cells #[.int .u64 (lo bt), .int .u64 (hi bt)] 26)
      have hX4 := (hX3.ext hb4).alloc (.cells #[.int .u64 (lo bt), .int .u64 (hi bt)] 26)
      have hS4 := (hS3.ext hb4).ext ((Ext.refl w4).alloc (.cells #[.int .u64 (lo bt), .int .u64 (hi bt)] 26))
      have hB4 : BoxAt (w4.alloc (.cells #[.int .u64 (lo bt), .int .u64 (hi bt)] 26)) w4.heap.size #[.int .u64 (lo bt), .int .u64 (hi bt)] 26 := BoxAt.new' rfl
      have hw4 := hw3.trans (Win.of (lo := b) (hi := b + 1) (hb4.alloc (.cells #[.int .u64 (lo bt), .int .u64 (hi bt)] 26)))
      have l4 : w.heap.size + 1 < w4.heap.size := (hM3.ext hb4).lt
      clear hM3 hX3 hS3 hw3 hb4
      go_wp2_with fail
      refine Calls.mono (src_one base b _ 2 (by omega) _ hS4 (by omega)) ?_
      rintro e w5 ⟨q, rfl, hS5, hW5⟩
      have hM5 := hM4.win hW5 (.inr (by omega))
      have hX5 := hX4.win hW5 (.inr (by omega))
      have hB5 := hB4.win hW5 (.inr (by omega))
      have hw5 := hw4.trans hW5
      clear hM4 hX4 hS4 hB4 hw4 hW5
      have y0 : w5.cell? ⟨w.heap.size + 1, 0, none⟩ = some (.int .u64 (lo t)) := hM5.cell 0
      have y1 : w5.cell? ⟨w.heap.size + 1, 1, none⟩ = some (.int .u64 (hi t)) := hM5.cell 1
      have y2 : w5.cell? ⟨w.heap.size + 1, 2, none⟩ = some (.int .u64 (lo f)) := hM5.cell 2
      have y3 : w5.cell? ⟨w.heap.size + 1, 3, none⟩ = some (.int .u64 (hi f)) := hM5.cell 3
      have v0 : w5.cell? ⟨w4.heap.size, 0, none⟩ = some (.int .u64 (lo bt)) := hB5.cell 0
      have v1 : w5.cell? ⟨w4.heap.size, 1, none⟩ = some (.int .u64 (hi bt)) := hB5.cell 1
      have lM := hM5.lt
      have lB := hB5.lt
      cases q
      · go_wp2_with fail
        refine Calls.mono (spec_l01Join f bt _) ?_
        rintro e w6 ⟨rfl, hb6⟩
        have hM6 := hM5.ext hb6
        have hX6 := hX5.ext hb6
        have hB6 := hB5.ext hb6
        have hS6 := hS5.ext hb6
        have hw6 := hw5.trans (Win.of (lo := b) (hi := b + 1) hb6)
        clear y0 y1 y2 y3 v0 v1 lM lB hM5 hX5 hB5 hS5 hw5
        have y0 : w6.cell? ⟨w.heap.size + 1, 0, none⟩ = some (.int .u64 (lo t)) := hM6.cell 0
        have y1 : w6.cell? ⟨w.heap.size + 1, 1, none⟩ = some (.int .u64 (hi t)) := hM6.cell 1
        have y2 : w6.cell? ⟨w.heap.size + 1, 2, none⟩ = some (.int .u64 (lo f)) := hM6.cell 2
        have y3 : w6.cell? ⟨w.heap.size + 1, 3, none⟩ = some (.int .u64 (hi f)) := hM6.cell 3
        have v0 : w6.cell? ⟨w4.heap.size, 0, none⟩ = some (.int .u64 (lo bt)) := hB6.cell 0
        have v1 : w6.cell? ⟨w4.heap.size, 1, none⟩ = some (.int .u64 (hi bt)) := hB6.cell 1
        have f0 := hM6.frozen 2
        have f1 := hM6.frozen 3
        have lM := hM6.lt
        have lB := hB6.lt
        have hv2 := wear_fill hv hbt
        generalize hn1 : mjoin f bt = n1 at *
        go_wp2_with fail
        refine Calls.mono (spec_l01Less t bt _) ?_
        rintro e w7 ⟨rfl, hb7⟩
        have hM7 := (((hM6.set 2 (.int .u64 (lo n1))).set 3 (.int .u64 (hi n1))).ext hb7)
        have hX7 := ((hX6.setOther (p := ⟨w.heap.size + 1, 2, none⟩) (by dsimp only; omega) (.int .u64 (lo n1))).setOther (p := ⟨w.heap.size + 1, 3, none⟩) (by dsimp only; omega) (.int .u64 (hi n1))).ext hb7
        have hS7 := ((hS6.set (p := ⟨w.heap.size + 1, 2, none⟩) (by dsimp only; omega) (by dsimp only; omega) (.int .u64 (lo n1))).set (p := ⟨w.heap.size + 1, 3, none⟩) (by dsimp only; omega) (by dsimp only; omega) (.int .u64 (hi n1))).ext hb7
        have hw7 := ((hw6.setOut (p := ⟨w.heap.size + 1, 2, none⟩) (by dsimp only; omega) (.int .u64 (lo n1))).setOut (p := ⟨w.heap.size + 1, 3, none⟩) (by dsimp only; omega) (.int .u64 (hi n1))).trans (Win.of (lo := b) (hi := b + 1) hb7)
        clear y0 y1 y2 y3 v0 v1 f0 f1 lM lB hM6 hX6 hB6 hS6 hw6 hb6 hb7
        have y0 : w7.cell? ⟨w.heap.size + 1, 0, none⟩ = some (.int .u64 (lo t)) := hM7.cell 0
        have y1 : w7.cell? ⟨w.heap.size + 1, 1, none⟩ = some (.int .u64 (hi t)) := hM7.cell 1
        have f0 := hM7.frozen 0
        have f1 := hM7.frozen 1
        have lM := hM7.lt
        go_wp2
        go_roundg k
        case rel => exact ⟨k, mless t bt, n1, rfl, rfl, by omega, hv2, (hM7.set 0 _).set 1 _, (hX7.setOther (by dsimp only; omega) _).setOther (by dsimp only; omega) _, ((hS7.set (by dsimp only; omega) (by dsimp only; omega) _).set (by dsimp only; omega) (by dsimp only; omega) _).up (by omega) (by omega), (hw7.setOut (by dsimp only; omega) _).setOut (by dsimp only; omega) _⟩
        case measure => omega
      · go_wp2_with fail
        refine Calls.mono (spec_l01Join t bt _) ?_
        rintro e w6 ⟨rfl, hb6⟩
        have hM6 := hM5.ext hb6
        have hX6 := hX5.ext hb6
        have hB6 := hB5.ext hb6
        have hS6 := hS5.ext hb6
        have hw6 := hw5.trans (Win.of (lo := b) (hi := b + 1) hb6)
        clear y0 y1 y2 y3 v0 v1 lM lB hM5 hX5 hB5 hS5 hw5
        have y0 : w6.cell? ⟨w.heap.size + 1, 0, none⟩ = some (.int .u64 (lo t)) := hM6.cell 0
        have y1 : w6.cell? ⟨w.heap.size + 1, 1, none⟩ = some (.int .u64 (hi t)) := hM6.cell 1
        have y2 : w6.cell? ⟨w.heap.size + 1, 2, none⟩ = some (.int .u64 (lo f)) := hM6.cell 2
        have y3 : w6.cell? ⟨w.heap.size + 1, 3, none⟩ = some (.int .u64 (hi f)) := hM6.cell 3
        have v0 : w6.cell? ⟨w4.heap.size, 0, none⟩ = some (.int .u64 (lo bt)) := hB6.cell 0
        have v1 : w6.cell? ⟨w4.heap.size, 1, none⟩ = some (.int .u64 (hi bt)) := hB6.cell 1
        have f0 := hM6.frozen 0
        have f1 := hM6.frozen 1
        have lM := hM6.lt
        have lB := hB6.lt
        have hv2 := wear_tear hv hbt
        generalize hn1 : mjoin t bt = n1 at *
        go_wp2_with fail
        refine Calls.mono (spec_l01Less f bt _) ?_
        rintro e w7 ⟨rfl, hb7⟩
        have hM7 := (((hM6.set 0 (.int .u64 (lo n1))).set 1 (.int .u64 (hi n1))).ext hb7)
        have hX7 := ((hX6.setOther (p := ⟨w.heap.size + 1, 0, none⟩) (by dsimp only; omega) (.int .u64 (lo n1))).setOther (p := ⟨w.heap.size + 1, 1, none⟩) (by dsimp only; omega) (.int .u64 (hi n1))).ext hb7
        have hS7 := ((hS6.set (p := ⟨w.heap.size + 1, 0, none⟩) (by dsimp only; omega) (by dsimp only; omega) (.int .u64 (lo n1))).set (p := ⟨w.heap.size + 1, 1, none⟩) (by dsimp only; omega) (by dsimp only; omega) (.int .u64 (hi n1))).ext hb7
        have hw7 := ((hw6.setOut (p := ⟨w.heap.size + 1, 0, none⟩) (by dsimp only; omega) (.int .u64 (lo n1))).setOut (p := ⟨w.heap.size + 1, 1, none⟩) (by dsimp only; omega) (.int .u64 (hi n1))).trans (Win.of (lo := b) (hi := b + 1) hb7)
        clear y0 y1 y2 y3 v0 v1 f0 f1 lM lB hM6 hX6 hB6 hS6 hw6 hb6 hb7
        have y0 : w7.cell? ⟨w.heap.size + 1, 2, none⟩ = some (.int .u64 (lo f)) := hM7.cell 2
        have y1 : w7.cell? ⟨w.heap.size + 1, 3, none⟩ = some (.int .u64 (hi f)) := hM7.cell 3
        have f0 := hM7.frozen 2
        have f1 := hM7.frozen 3
        have lM := hM7.lt
        go_wp2
        go_roundg k
        case rel => exact ⟨k, n1, mless f bt, rfl, rfl, by omega, hv2, (hM7.set 2 _).set 3 _, (hX7.setOther (by dsimp only; omega) _).setOther (by dsimp only; omega) _, ((hS7.set (by dsimp only; omega) (by dsimp only; omega) _).set (by dsimp only; omega) (by dsimp only; omega) _).up (by omega) (by omega), (hw7.setOut (by dsimp only; omega) _).setOut (by dsimp only; omega) _⟩
        case measure => omega
theorem spec_P6Wear (cs : List UInt8) (A : Option Addr) (cap : Nat) (w : World) (hR : Rd encU8 w A cs) (hn : cs.length ≤ 1099511627776) :
    Calls Tryz.prog 13 #[.slice A cs.length cap] w fun e w' => ∃ t f : Mask, e = .returned (.agg #[.int .u64 (lo t), .int .u64 (hi t), .int .u64 (lo f), .int .u64 (hi f)]) ∧ isWearB t f = true ∧ Ext w w' := by
  have hf := spec_l00From cs A cap w _ hR hn ((Ext.refl w).alloc (.cells #[.int .u64 0, .int .u64 0, .int .u64 0, .int .u64 0] 31))
  go_enter Tryz.func13, Tryz.ntmps13
  go_wp2_with fail
  refine Calls.mono hf ?_
  rintro e w1 ⟨b, rfl, hS, hb, hE1⟩
  have hX : BoxAt w1 w.heap.size #[.int .u64 0, .int .u64 0, .int .u64 0, .int .u64 0] 31 := (BoxAt.new' rfl).ext hE1
  simp only [World.size_alloc] at hb
  have hw1 := ((Ext.refl w).alloc (.cells #[.int .u64 0, .int .u64 0, .int .u64 0, .int .u64 0] 31)).trans hE1
  clear hf hE1
  have hd := spec_l04Drawn w.heap.size b 0 w1 hS (by omega)
  go_wp2_with fail
  refine Calls.mono hd ?_
  rintro e w2 ⟨t, f, rfl, hv, hS2, hW2⟩
  have hX2 := hX.win hW2 (.inl (by omega))
  have hw2 := hw1.win hW2 (by omega)
  clear hd hX hw1 hS hS2 hW2
  have x0 : w2.cell? ⟨w.heap.size, 0, none⟩ = some (.int .u64 0) := hX2.cell 0
  have x1 : w2.cell? ⟨w.heap.size, 1, none⟩ = some (.int .u64 0) := hX2.cell 1
  have x2 : w2.cell? ⟨w.heap.size, 2, none⟩ = some (.int .u64 0) := hX2.cell 2
  have x3 : w2.cell? ⟨w.heap.size, 3, none⟩ = some (.int .u64 0) := hX2.cell 3
  have f0 := hX2.frozen 0
  have f1 := hX2.frozen 1
  have f2 := hX2.frozen 2
  have f3 := hX2.frozen 3
  have lX := hX2.lt
  go_wp2
  have hXf := (((hX2.set 0 (.int .u64 (lo t))).set 1 (.int .u64 (hi t))).set 2 (.int .u64 (lo f))).set 3 (.int .u64 (hi f))
  clear x0 x1 x2 x3 f0 f1 f2 f3
  have c0 : World.cell? _ ⟨w.heap.size, 0, none⟩ = some (.int .u64 (lo t)) := hXf.cell 0
  have c1 : World.cell? _ ⟨w.heap.size, 1, none⟩ = some (.int .u64 (hi t)) := hXf.cell 1
  have c2 : World.cell? _ ⟨w.heap.size, 2, none⟩ = some (.int .u64 (lo f)) := hXf.cell 2
  have c3 : World.cell? _ ⟨w.heap.size, 3, none⟩ = some (.int .u64 (hi f)) := hXf.cell 3
  refine bodyPost_ret (v := .agg #[.int .u64 (lo t), .int .u64 (hi t), .int .u64 (lo f), .int .u64 (hi f)]) (by simp [results, Tryz.results13, go_sem, c0, c1, c2, c3]) rfl ⟨_, _, rfl, hv, ?_⟩
  exact Ext.set (Nat.le_refl _) (Ext.set (Nat.le_refl _) (Ext.set (Nat.le_refl _) (Ext.set (Nat.le_refl _) hw2 _) _) _) _
end Go.Proofs.YthkphhacmneeiaaGreatDoor
