/-
  The walk of the law FnWear.
-/
import Derived.Test.YthkphhacmneeiaaGreatDoorS1
import Derived.Test.YthkphhacmneeiaaGreatDoorVC
import Derived.Test.YthkphhacmneeiaaGreatDoorEQ
import Derived.Test.YthkphhacmneeiaaGreatDoorC4
set_option linter.unusedVariables false
set_option linter.unusedSimpArgs false
set_option maxRecDepth 100000
namespace Go.Proofs.YthkphhacmneeiaaGreatDoor
open Go.RowKit
theorem laws_f6big (cs : List UInt8) (A : Option Addr) (cap : Nat) (w : World) :
    Calls Tryz.prog 4 #[.slice A cs.length cap] w fun e w' => e = .returned (.bool (decide (4096 < cs.length))) ∧ Ext w w' := by
  have e : decide ((4096 : Int) < (cs.length : Int)) = decide (4096 < cs.length) := by rw [decide_eq_decide]; omega
  by_cases h : 4096 < cs.length
  · have h' : (4096 : Int) < (cs.length : Int) := by omega
    rw [decide_eq_true h]
    go_enter Tryz.func4, Tryz.ntmps4
    go_wp2
    go_ret
    exact ⟨by simp [h'], Ext.refl _⟩
  · have h' : ((4096 : Int) < (cs.length : Int)) = False := eq_false (by omega)
    rw [decide_eq_false h]
    go_enter Tryz.func4, Tryz.ntmps4
    go_wp2
    go_ret
    exact ⟨by simp [h'], Ext.refl _⟩
set_option maxHeartbeats 4000000 in
theorem laws_FnWear (cs ds : List UInt8) (A B : Option Addr) (cap cap' : Nat) (w : World) (hn : cs.length ≤ 9223372036854775807) (hR : Rd encU8 w A cs) (hm : ds.length ≤ 9223372036854775807) (hS : Rd encU8 w B ds) (hG : Glob w) (hEn : Env w) :
    Calls Tryz.prog 3 #[.slice A cs.length cap, .slice B ds.length cap'] w fun e w' => e = .returned (.bool true) ∧ Ext w w' := by
  have hx := @ExtOf.cell
  have b1 := fun W => laws_f6big cs A cap W
  have b2 := fun W => laws_f6big ds B cap' W
  by_cases h1 : 4096 < cs.length
  · rw [decide_eq_true h1] at b1
    go_enter Tryz.func3, Tryz.ntmps3
    go_wp2_with fail
    refine Calls.mono (b1 _) ?_
    rintro e w1 ⟨rfl, hb1⟩
    go_wp2
    go_ret
    exact ⟨rfl, hb1⟩
  rw [decide_eq_false h1] at b1
  by_cases h2 : 4096 < ds.length
  · rw [decide_eq_true h2] at b2
    go_enter Tryz.func3, Tryz.ntmps3
    go_wp2_with fail
    refine Calls.mono (b1 _) ?_
    rintro e w1 ⟨rfl, hb1⟩
    go_wp2_with fail
    refine Calls.mono (b2 _) ?_
    rintro e w2 ⟨rfl, hb2⟩
    go_wp2
    go_ret
    exact ⟨rfl, hb1.trans hb2⟩
  rw [decide_eq_false h2] at b2
  go_enter Tryz.func3, Tryz.ntmps3
  go_wp2_with fail
  refine Calls.mono (b1 _) ?_
  rintro e w1 ⟨rfl, hb1⟩
  go_wp2_with fail
  refine Calls.mono (b2 _) ?_
  rintro e w2 ⟨rfl, hb2⟩
  have hw2 := hb1.trans hb2
  clear hb1 hb2 b1 b2
  go_wp2_with fail
  refine intro_world (R := fun W => Calls _ _ _ W _) (fun W2 hN => ?_)
  have eW2 : Ext w W2 := by rw [hN]; exact hw2
  clear hN
  refine Calls.mono (spec_P6Mask cs A cap W2 (hR.ext eW2) (by omega)) ?_
  rintro e w3 ⟨a, rfl, ha, hb3⟩
  have hw3 := eW2.trans hb3
  clear hb3 eW2
  go_wp2_with fail
  refine intro_world (R := fun W => Calls _ _ _ W _) (fun W3 hN => ?_)
  have eW3 : Ext w W3 := by rw [hN]; exact hw3.alloc _
  have Xa : BoxAt W3 w3.heap.size #[.int .u64 (lo a), .int .u64 (hi a)] 26 := by rw [hN]; exact (BoxAt.new' rfl)
  clear hN
  refine Calls.mono (spec_P6Mask ds B cap' W3 (hS.ext eW3) (by omega)) ?_
  rintro e w4 ⟨b, rfl, hb, hb4⟩
  have hw4 := eW3.trans hb4
  replace Xa := Xa.ext hb4
  clear hb4 eW3 hw3
  obtain ⟨p, q, k1, k2, k3, k4, k5, k6, hpq, hqp, hwo, hwb⟩ := between_law ha hb
  have c1 := fun W => impl_WearBetween a b W
  have c2 := fun W => spec_WearBetween a b W
  have c3 := fun W => impl_UndoWear p q W
  rw [k1, k2, k3] at c1 c2
  rw [k4, k5, k6] at c3
  clear k1 k2 k3 k4 k5 k6
  have c4 := fun W => wear_ant ha hpq hwo W
  have c5 := fun W => wear_ant hb hqp hwb W
  have c6 := fun W => impl_WearText p q W
  rw [if_pos hpq] at c6
  have hsz := wearT_le p q
  have c7 := fun W h1 h2 => impl_ReadWear (wearT p q) (by omega) W h1 h2
  have hrb := hd (fun t f c (h : RW (wearT p q) t f c) => read_back hpq h)
  generalize wearT p q = txt at c6 c7 hrb
  have c8 := fun W => impl_ValidWear p q W
  rw [hpq] at c8
  clear hsz hwo hwb hqp hpq
  have ya0 : w4.cell? ⟨w3.heap.size, 0, none⟩ = some (.int .u64 (lo a)) := Xa.cell 0
  have ya1 : w4.cell? ⟨w3.heap.size, 1, none⟩ = some (.int .u64 (hi a)) := Xa.cell 1
  have la := Xa.lt
  go_wp2_with fail
  refine intro_world (R := fun W => Calls _ _ _ W _) (fun W4 hN => ?_)
  have eW4 : Ext w W4 := by rw [hN]; exact (hw4.alloc _).alloc _
  have Xa : BoxAt W4 w3.heap.size #[.int .u64 (lo a), .int .u64 (hi a)] 26 := by rw [hN]; exact (Xa.alloc _).alloc _
  have Xb : BoxAt W4 w4.heap.size #[.int .u64 (lo b), .int .u64 (hi b)] 26 := by rw [hN]; exact (BoxAt.new' rfl).alloc _
  have Xc : BoxAt W4 (w4.heap.size + 1) #[.string ⟨#[97, 110, 116]⟩, .int .u64 (lo a), .int .u64 (hi a)] 29 := by rw [hN]; exact (BoxAt.new' (by simp))
  clear hN
  clear ya0 ya1 la
  refine Calls.mono (c1 W4) ?_
  rintro e w5 ⟨rfl, hb5⟩
  have hw5 := eW4.trans hb5
  replace Xa := Xa.ext hb5
  replace Xb := Xb.ext hb5
  replace Xc := Xc.ext hb5
  clear hb5 eW4 hw4
  have ya0 : w5.cell? ⟨w3.heap.size, 0, none⟩ = some (.int .u64 (lo a)) := Xa.cell 0
  have ya1 : w5.cell? ⟨w3.heap.size, 1, none⟩ = some (.int .u64 (hi a)) := Xa.cell 1
  have la := Xa.lt
  have yb0 : w5.cell? ⟨w4.heap.size, 0, none⟩ = some (.int .u64 (lo b)) := Xb.cell 0
  have yb1 : w5.cell? ⟨w4.heap.size, 1, none⟩ = some (.int .u64 (hi b)) := Xb.cell 1
  have lb := Xb.lt
  go_wp2_with fail
  refine intro_world (R := fun W => Calls _ _ _ W _) (fun W5 hN => ?_)
  have eW5 : Ext w W5 := by rw [hN]; exact hw5.alloc _
  have Xa : BoxAt W5 w3.heap.size #[.int .u64 (lo a), .int .u64 (hi a)] 26 := by rw [hN]; exact Xa.alloc _
  have Xb : BoxAt W5 w4.heap.size #[.int .u64 (lo b), .int .u64 (hi b)] 26 := by rw [hN]; exact Xb.alloc _
  have Xc : BoxAt W5 (w4.heap.size + 1) #[.string ⟨#[97, 110, 116]⟩, .int .u64 (lo a), .int .u64 (hi a)] 29 := by rw [hN]; exact Xc.alloc _
  have Xw : BoxAt W5 w5.heap.size #[.int .u64 (lo p), .int .u64 (hi p), .int .u64 (lo q), .int .u64 (hi q)] 31 := by rw [hN]; exact (BoxAt.new' rfl)
  clear hN
  clear ya0 ya1 la yb0 yb1 lb
  refine Calls.mono (c2 W5) ?_
  rintro e w6 ⟨rfl, hb6⟩
  have hw6 := eW5.trans hb6
  replace Xa := Xa.ext hb6
  replace Xb := Xb.ext hb6
  replace Xc := Xc.ext hb6
  replace Xw := Xw.ext hb6
  clear hb6 eW5 hw5
  have yc0 : w6.cell? ⟨(w4.heap.size + 1), 0, none⟩ = some (.string ⟨#[97, 110, 116]⟩) := Xc.cell 0
  have yc1 : w6.cell? ⟨(w4.heap.size + 1), 1, none⟩ = some (.int .u64 (lo a)) := Xc.cell 1
  have yc2 : w6.cell? ⟨(w4.heap.size + 1), 2, none⟩ = some (.int .u64 (hi a)) := Xc.cell 2
  have lc := Xc.lt
  have mc : w4.heap.size < w6.heap.size := by omega
  go_wp2_with fail
  refine intro_world (R := fun W => Calls _ _ _ W _) (fun W6 hN => ?_)
  have eW6 : Ext w W6 := by rw [hN]; exact hw6.alloc _
  have Xa : BoxAt W6 w3.heap.size #[.int .u64 (lo a), .int .u64 (hi a)] 26 := by rw [hN]; exact Xa.alloc _
  have Xb : BoxAt W6 w4.heap.size #[.int .u64 (lo b), .int .u64 (hi b)] 26 := by rw [hN]; exact Xb.alloc _
  have Xc : BoxAt W6 (w4.heap.size + 1) #[.string ⟨#[97, 110, 116]⟩, .int .u64 (lo a), .int .u64 (hi a)] 29 := by rw [hN]; exact Xc.alloc _
  have Xw : BoxAt W6 w5.heap.size #[.int .u64 (lo p), .int .u64 (hi p), .int .u64 (lo q), .int .u64 (hi q)] 31 := by rw [hN]; exact Xw.alloc _
  have Xdue : BoxAt W6 w6.heap.size #[.int .u64 (lo p), .int .u64 (hi p), .int .u64 (lo q), .int .u64 (hi q)] 31 := by rw [hN]; exact (BoxAt.new' rfl)
  clear hN
  clear yc0 yc1 yc2 lc mc
  refine Calls.mono (c4 W6) ?_
  rintro e w7 ⟨rfl, hb7⟩
  have hw7 := eW6.trans hb7
  replace Xa := Xa.ext hb7
  replace Xb := Xb.ext hb7
  replace Xc := Xc.ext hb7
  replace Xw := Xw.ext hb7
  replace Xdue := Xdue.ext hb7
  clear hb7 eW6 hw6
  have ydue0 : w7.cell? ⟨w6.heap.size, 0, none⟩ = some (.int .u64 (lo p)) := Xdue.cell 0
  have ydue1 : w7.cell? ⟨w6.heap.size, 1, none⟩ = some (.int .u64 (hi p)) := Xdue.cell 1
  have ydue2 : w7.cell? ⟨w6.heap.size, 2, none⟩ = some (.int .u64 (lo q)) := Xdue.cell 2
  have ydue3 : w7.cell? ⟨w6.heap.size, 3, none⟩ = some (.int .u64 (hi q)) := Xdue.cell 3
  have ldue := Xdue.lt
  go_wp2_with fail
  refine intro_world (R := fun W => Calls _ _ _ W _) (fun W7 hN => ?_)
  have eW7 : Ext w W7 := by rw [hN]; exact hw7.alloc _
  have Xa : BoxAt W7 w3.heap.size #[.int .u64 (lo a), .int .u64 (hi a)] 26 := by rw [hN]; exact Xa.alloc _
  have Xb : BoxAt W7 w4.heap.size #[.int .u64 (lo b), .int .u64 (hi b)] 26 := by rw [hN]; exact Xb.alloc _
  have Xc : BoxAt W7 (w4.heap.size + 1) #[.string ⟨#[97, 110, 116]⟩, .int .u64 (lo a), .int .u64 (hi a)] 29 := by rw [hN]; exact Xc.alloc _
  have Xw : BoxAt W7 w5.heap.size #[.int .u64 (lo p), .int .u64 (hi p), .int .u64 (lo q), .int .u64 (hi q)] 31 := by rw [hN]; exact Xw.alloc _
  have Xdue : BoxAt W7 w6.heap.size #[.int .u64 (lo p), .int .u64 (hi p), .int .u64 (lo q), .int .u64 (hi q)] 31 := by rw [hN]; exact Xdue.alloc _
  have Xworn : BoxAt W7 w7.heap.size #[.string ⟨#[97, 110, 116]⟩, .int .u64 (lo b), .int .u64 (hi b)] 29 := by rw [hN]; exact (BoxAt.new' rfl)
  clear hN
  clear ydue0 ydue1 ydue2 ydue3 ldue
  refine Calls.mono (c3 W7) ?_
  rintro e w8 ⟨rfl, hb8⟩
  have hw8 := eW7.trans hb8
  replace Xa := Xa.ext hb8
  replace Xb := Xb.ext hb8
  replace Xc := Xc.ext hb8
  replace Xw := Xw.ext hb8
  replace Xdue := Xdue.ext hb8
  replace Xworn := Xworn.ext hb8
  clear hb8 eW7 hw7
  have yworn0 : w8.cell? ⟨w7.heap.size, 0, none⟩ = some (.string ⟨#[97, 110, 116]⟩) := Xworn.cell 0
  have yworn1 : w8.cell? ⟨w7.heap.size, 1, none⟩ = some (.int .u64 (lo b)) := Xworn.cell 1
  have yworn2 : w8.cell? ⟨w7.heap.size, 2, none⟩ = some (.int .u64 (hi b)) := Xworn.cell 2
  have lworn := Xworn.lt
  go_wp2_with fail
  refine intro_world (R := fun W => Calls _ _ _ W _) (fun W8 hN => ?_)
  have eW8 : Ext w W8 := by rw [hN]; exact hw8.alloc _
  have Xa : BoxAt W8 w3.heap.size #[.int .u64 (lo a), .int .u64 (hi a)] 26 := by rw [hN]; exact Xa.alloc _
  have Xb : BoxAt W8 w4.heap.size #[.int .u64 (lo b), .int .u64 (hi b)] 26 := by rw [hN]; exact Xb.alloc _
  have Xc : BoxAt W8 (w4.heap.size + 1) #[.string ⟨#[97, 110, 116]⟩, .int .u64 (lo a), .int .u64 (hi a)] 29 := by rw [hN]; exact Xc.alloc _
  have Xw : BoxAt W8 w5.heap.size #[.int .u64 (lo p), .int .u64 (hi p), .int .u64 (lo q), .int .u64 (hi q)] 31 := by rw [hN]; exact Xw.alloc _
  have Xdue : BoxAt W8 w6.heap.size #[.int .u64 (lo p), .int .u64 (hi p), .int .u64 (lo q), .int .u64 (hi q)] 31 := by rw [hN]; exact Xdue.alloc _
  have Xworn : BoxAt W8 w7.heap.size #[.string ⟨#[97, 110, 116]⟩, .int .u64 (lo b), .int .u64 (hi b)] 29 := by rw [hN]; exact Xworn.alloc _
  have Xundo : BoxAt W8 w8.heap.size #[.int .u64 (lo q), .int .u64 (hi q), .int .u64 (lo p), .int .u64 (hi p)] 31 := by rw [hN]; exact (BoxAt.new' rfl)
  clear hN
  clear yworn0 yworn1 yworn2 lworn
  refine Calls.mono (c5 W8) ?_
  rintro e w9 ⟨rfl, hb9⟩
  have hw9 := eW8.trans hb9
  replace Xa := Xa.ext hb9
  replace Xb := Xb.ext hb9
  replace Xc := Xc.ext hb9
  replace Xw := Xw.ext hb9
  replace Xdue := Xdue.ext hb9
  replace Xworn := Xworn.ext hb9
  replace Xundo := Xundo.ext hb9
  clear hb9 eW8 hw8
  have ydue0 : w9.cell? ⟨w6.heap.size, 0, none⟩ = some (.int .u64 (lo p)) := Xdue.cell 0
  have ydue1 : w9.cell? ⟨w6.heap.size, 1, none⟩ = some (.int .u64 (hi p)) := Xdue.cell 1
  have ydue2 : w9.cell? ⟨w6.heap.size, 2, none⟩ = some (.int .u64 (lo q)) := Xdue.cell 2
  have ydue3 : w9.cell? ⟨w6.heap.size, 3, none⟩ = some (.int .u64 (hi q)) := Xdue.cell 3
  have ldue := Xdue.lt
  go_wp2_with fail
  refine intro_world (R := fun W => Calls _ _ _ W _) (fun W9 hN => ?_)
  have eW9 : Ext w W9 := by rw [hN]; exact hw9.alloc _
  have Xa : BoxAt W9 w3.heap.size #[.int .u64 (lo a), .int .u64 (hi a)] 26 := by rw [hN]; exact Xa.alloc _
  have Xb : BoxAt W9 w4.heap.size #[.int .u64 (lo b), .int .u64 (hi b)] 26 := by rw [hN]; exact Xb.alloc _
  have Xc : BoxAt W9 (w4.heap.size + 1) #[.string ⟨#[97, 110, 116]⟩, .int .u64 (lo a), .int .u64 (hi a)] 29 := by rw [hN]; exact Xc.alloc _
  have Xw : BoxAt W9 w5.heap.size #[.int .u64 (lo p), .int .u64 (hi p), .int .u64 (lo q), .int .u64 (hi q)] 31 := by rw [hN]; exact Xw.alloc _
  have Xdue : BoxAt W9 w6.heap.size #[.int .u64 (lo p), .int .u64 (hi p), .int .u64 (lo q), .int .u64 (hi q)] 31 := by rw [hN]; exact Xdue.alloc _
  have Xworn : BoxAt W9 w7.heap.size #[.string ⟨#[97, 110, 116]⟩, .int .u64 (lo b), .int .u64 (hi b)] 29 := by rw [hN]; exact Xworn.alloc _
  have Xundo : BoxAt W9 w8.heap.size #[.int .u64 (lo q), .int .u64 (hi q), .int .u64 (lo p), .int .u64 (hi p)] 31 := by rw [hN]; exact Xundo.alloc _
  have Xback : BoxAt W9 w9.heap.size #[.string ⟨#[97, 110, 116]⟩, .int .u64 (lo a), .int .u64 (hi a)] 29 := by rw [hN]; exact (BoxAt.new' rfl)
  clear hN
  clear ydue0 ydue1 ydue2 ydue3 ldue
  refine Calls.mono (c6 W9) ?_
  rintro e w10 ⟨rfl, hb10⟩
  have hw10 := eW9.trans hb10
  replace Xa := Xa.ext hb10
  replace Xb := Xb.ext hb10
  replace Xc := Xc.ext hb10
  replace Xw := Xw.ext hb10
  replace Xdue := Xdue.ext hb10
  replace Xworn := Xworn.ext hb10
  replace Xundo := Xundo.ext hb10
  replace Xback := Xback.ext hb10
  clear hb10 eW9 hw9
  go_wp2_with fail
  refine intro_world (R := fun W => Calls _ _ _ W _) (fun W10 hN => ?_)
  have eW10 : Ext w W10 := by rw [hN]; exact hw10
  have Xa : BoxAt W10 w3.heap.size #[.int .u64 (lo a), .int .u64 (hi a)] 26 := by rw [hN]; exact Xa
  have Xb : BoxAt W10 w4.heap.size #[.int .u64 (lo b), .int .u64 (hi b)] 26 := by rw [hN]; exact Xb
  have Xc : BoxAt W10 (w4.heap.size + 1) #[.string ⟨#[97, 110, 116]⟩, .int .u64 (lo a), .int .u64 (hi a)] 29 := by rw [hN]; exact Xc
  have Xw : BoxAt W10 w5.heap.size #[.int .u64 (lo p), .int .u64 (hi p), .int .u64 (lo q), .int .u64 (hi q)] 31 := by rw [hN]; exact Xw
  have Xdue : BoxAt W10 w6.heap.size #[.int .u64 (lo p), .int .u64 (hi p), .int .u64 (lo q), .int .u64 (hi q)] 31 := by rw [hN]; exact Xdue
  have Xworn : BoxAt W10 w7.heap.size #[.string ⟨#[97, 110, 116]⟩, .int .u64 (lo b), .int .u64 (hi b)] 29 := by rw [hN]; exact Xworn
  have Xundo : BoxAt W10 w8.heap.size #[.int .u64 (lo q), .int .u64 (hi q), .int .u64 (lo p), .int .u64 (hi p)] 31 := by rw [hN]; exact Xundo
  have Xback : BoxAt W10 w9.heap.size #[.string ⟨#[97, 110, 116]⟩, .int .u64 (lo a), .int .u64 (hi a)] 29 := by rw [hN]; exact Xback
  clear hN
  refine Calls.mono (c7 W10 (hG.ext eW10) (hEn.ext eW10)) ?_
  rintro e w11 ⟨rt, rf, rc, rfl, hrw, hb11⟩
  have hw11 := eW10.trans hb11
  replace Xa := Xa.ext hb11
  replace Xb := Xb.ext hb11
  replace Xc := Xc.ext hb11
  replace Xw := Xw.ext hb11
  replace Xdue := Xdue.ext hb11
  replace Xworn := Xworn.ext hb11
  replace Xundo := Xundo.ext hb11
  replace Xback := Xback.ext hb11
  clear hb11 eW10 hw10
  obtain ⟨rfl, rfl, rfl⟩ := hrb.out _ _ _ hrw
  clear hrw hrb
  have e1 := eqA_Mask
  have e2 := eqA_Wear
  have e3 := eqA_Card
  have yw0 : w11.cell? ⟨w5.heap.size, 0, none⟩ = some (.int .u64 (lo rt)) := Xw.cell 0
  have yw1 : w11.cell? ⟨w5.heap.size, 1, none⟩ = some (.int .u64 (hi rt)) := Xw.cell 1
  have yw2 : w11.cell? ⟨w5.heap.size, 2, none⟩ = some (.int .u64 (lo rf)) := Xw.cell 2
  have yw3 : w11.cell? ⟨w5.heap.size, 3, none⟩ = some (.int .u64 (hi rf)) := Xw.cell 3
  have lw := Xw.lt
  have ydue0 : w11.cell? ⟨w6.heap.size, 0, none⟩ = some (.int .u64 (lo rt)) := Xdue.cell 0
  have ydue1 : w11.cell? ⟨w6.heap.size, 1, none⟩ = some (.int .u64 (hi rt)) := Xdue.cell 1
  have ydue2 : w11.cell? ⟨w6.heap.size, 2, none⟩ = some (.int .u64 (lo rf)) := Xdue.cell 2
  have ydue3 : w11.cell? ⟨w6.heap.size, 3, none⟩ = some (.int .u64 (hi rf)) := Xdue.cell 3
  have ldue := Xdue.lt
  have yworn0 : w11.cell? ⟨w7.heap.size, 0, none⟩ = some (.string ⟨#[97, 110, 116]⟩) := Xworn.cell 0
  have yworn1 : w11.cell? ⟨w7.heap.size, 1, none⟩ = some (.int .u64 (lo b)) := Xworn.cell 1
  have yworn2 : w11.cell? ⟨w7.heap.size, 2, none⟩ = some (.int .u64 (hi b)) := Xworn.cell 2
  have lworn := Xworn.lt
  have yb0 : w11.cell? ⟨w4.heap.size, 0, none⟩ = some (.int .u64 (lo b)) := Xb.cell 0
  have yb1 : w11.cell? ⟨w4.heap.size, 1, none⟩ = some (.int .u64 (hi b)) := Xb.cell 1
  have lb := Xb.lt
  have yback0 : w11.cell? ⟨w9.heap.size, 0, none⟩ = some (.string ⟨#[97, 110, 116]⟩) := Xback.cell 0
  have yback1 : w11.cell? ⟨w9.heap.size, 1, none⟩ = some (.int .u64 (lo a)) := Xback.cell 1
  have yback2 : w11.cell? ⟨w9.heap.size, 2, none⟩ = some (.int .u64 (hi a)) := Xback.cell 2
  have lback := Xback.lt
  have yc0 : w11.cell? ⟨(w4.heap.size + 1), 0, none⟩ = some (.string ⟨#[97, 110, 116]⟩) := Xc.cell 0
  have yc1 : w11.cell? ⟨(w4.heap.size + 1), 1, none⟩ = some (.int .u64 (lo a)) := Xc.cell 1
  have yc2 : w11.cell? ⟨(w4.heap.size + 1), 2, none⟩ = some (.int .u64 (hi a)) := Xc.cell 2
  have lc := Xc.lt
  have mc : w4.heap.size < w11.heap.size := by omega
  go_wp2_with fail
  refine intro_world (R := fun W => Calls _ _ _ W _) (fun W11 hN => ?_)
  have eW11 : Ext w W11 := by rw [hN]; exact hw11.alloc _
  have Xa : BoxAt W11 w3.heap.size #[.int .u64 (lo a), .int .u64 (hi a)] 26 := by rw [hN]; exact Xa.alloc _
  have Xb : BoxAt W11 w4.heap.size #[.int .u64 (lo b), .int .u64 (hi b)] 26 := by rw [hN]; exact Xb.alloc _
  have Xc : BoxAt W11 (w4.heap.size + 1) #[.string ⟨#[97, 110, 116]⟩, .int .u64 (lo a), .int .u64 (hi a)] 29 := by rw [hN]; exact Xc.alloc _
  have Xw : BoxAt W11 w5.heap.size #[.int .u64 (lo rt), .int .u64 (hi rt), .int .u64 (lo rf), .int .u64 (hi rf)] 31 := by rw [hN]; exact Xw.alloc _
  have Xdue : BoxAt W11 w6.heap.size #[.int .u64 (lo rt), .int .u64 (hi rt), .int .u64 (lo rf), .int .u64 (hi rf)] 31 := by rw [hN]; exact Xdue.alloc _
  have Xworn : BoxAt W11 w7.heap.size #[.string ⟨#[97, 110, 116]⟩, .int .u64 (lo b), .int .u64 (hi b)] 29 := by rw [hN]; exact Xworn.alloc _
  have Xundo : BoxAt W11 w8.heap.size #[.int .u64 (lo rf), .int .u64 (hi rf), .int .u64 (lo rt), .int .u64 (hi rt)] 31 := by rw [hN]; exact Xundo.alloc _
  have Xback : BoxAt W11 w9.heap.size #[.string ⟨#[97, 110, 116]⟩, .int .u64 (lo a), .int .u64 (hi a)] 29 := by rw [hN]; exact Xback.alloc _
  have Xread : BoxAt W11 w11.heap.size #[.int .u64 (lo rt), .int .u64 (hi rt), .int .u64 (lo rf), .int .u64 (hi rf)] 31 := by rw [hN]; exact (BoxAt.new' rfl)
  clear hN
  clear yw0 yw1 yw2 yw3 lw ydue0 ydue1 ydue2 ydue3 ldue yworn0 yworn1 yworn2 lworn yb0 yb1 lb yback0 yback1 yback2 lback yc0 yc1 yc2 lc mc
  refine Calls.mono (c8 W11) ?_
  rintro e w12 ⟨rfl, hb12⟩
  have hw12 := eW11.trans hb12
  replace Xa := Xa.ext hb12
  replace Xb := Xb.ext hb12
  replace Xc := Xc.ext hb12
  replace Xw := Xw.ext hb12
  replace Xdue := Xdue.ext hb12
  replace Xworn := Xworn.ext hb12
  replace Xundo := Xundo.ext hb12
  replace Xback := Xback.ext hb12
  replace Xread := Xread.ext hb12
  clear hb12 eW11 hw11
  clear Xw
  clear Xdue
  clear Xworn
  clear Xb
  clear Xundo
  clear Xback
  clear Xread
  clear e1 e2 e3 c1 c2 c3 c4 c5 c6 c7 c8
  go_wp2_with fail
  refine intro_world (R := fun W => Calls _ _ _ W _) (fun W12 hN => ?_)
  have eW12 : Ext w W12 := by rw [hN]; exact hw12
  have Xa : BoxAt W12 w3.heap.size #[.int .u64 (lo a), .int .u64 (hi a)] 26 := by rw [hN]; exact Xa
  have Xc : BoxAt W12 (w4.heap.size + 1) #[.string ⟨#[97, 110, 116]⟩, .int .u64 (lo a), .int .u64 (hi a)] 29 := by rw [hN]; exact Xc
  clear hN
  refine Calls.mono (spec_P6Wear cs A cap W12 (hR.ext eW12) (by omega)) ?_
  rintro e w13 ⟨vt, vf, rfl, hv, hb13⟩
  have hw13 := eW12.trans hb13
  replace Xa := Xa.ext hb13
  replace Xc := Xc.ext hb13
  clear hb13 eW12 hw12
  go_wp2_with fail
  refine intro_world (R := fun W => Calls _ _ _ W _) (fun W13 hN => ?_)
  have eW13 : Ext w W13 := by rw [hN]; exact hw13.alloc _
  have Xa : BoxAt W13 w3.heap.size #[.int .u64 (lo a), .int .u64 (hi a)] 26 := by rw [hN]; exact Xa.alloc _
  have Xc : BoxAt W13 (w4.heap.size + 1) #[.string ⟨#[97, 110, 116]⟩, .int .u64 (lo a), .int .u64 (hi a)] 29 := by rw [hN]; exact Xc.alloc _
  have Xv : BoxAt W13 w13.heap.size #[.int .u64 (lo vt), .int .u64 (hi vt), .int .u64 (lo vf), .int .u64 (hi vf)] 31 := by rw [hN]; exact (BoxAt.new' rfl)
  clear hN
  refine Calls.mono (spec_P6Wear ds B cap' W13 (hS.ext eW13) (by omega)) ?_
  rintro e w14 ⟨ut, uf, rfl, hu, hb14⟩
  have hw14 := eW13.trans hb14
  replace Xa := Xa.ext hb14
  replace Xc := Xc.ext hb14
  replace Xv := Xv.ext hb14
  clear hb14 eW13 hw13
  obtain ⟨p, q, k1, k2, k3, hpq, hwo⟩ := after_law hv hu
  have c1 := fun W => impl_AfterWear vt vf ut uf W
  have c2 := fun W => spec_AfterWear vt vf ut uf W
  rw [k1, k2, k3] at c1 c2
  clear k1 k2 k3
  have c3 := fun W => wear_ant ha hv rfl W
  have c4 := fun W => wear_ant (worn_mask ha hv) hu rfl W
  have c5 := fun W => wear_ant ha hpq (hwo a) W
  generalize wornM ut uf (wornM vt vf a) = m2 at c4 c5
  generalize wornM vt vf a = m1 at c3 c4
  have c8 := fun W => impl_ValidWear p q W
  rw [hpq] at c8
  clear hwo hpq hv hu
  have yv0 : w14.cell? ⟨w13.heap.size, 0, none⟩ = some (.int .u64 (lo vt)) := Xv.cell 0
  have yv1 : w14.cell? ⟨w13.heap.size, 1, none⟩ = some (.int .u64 (hi vt)) := Xv.cell 1
  have yv2 : w14.cell? ⟨w13.heap.size, 2, none⟩ = some (.int .u64 (lo vf)) := Xv.cell 2
  have yv3 : w14.cell? ⟨w13.heap.size, 3, none⟩ = some (.int .u64 (hi vf)) := Xv.cell 3
  have lv := Xv.lt
  go_wp2_with fail
  refine intro_world (R := fun W => Calls _ _ _ W _) (fun W14 hN => ?_)
  have eW14 : Ext w W14 := by rw [hN]; exact hw14.alloc _
  have Xa : BoxAt W14 w3.heap.size #[.int .u64 (lo a), .int .u64 (hi a)] 26 := by rw [hN]; exact Xa.alloc _
  have Xc : BoxAt W14 (w4.heap.size + 1) #[.string ⟨#[97, 110, 116]⟩, .int .u64 (lo a), .int .u64 (hi a)] 29 := by rw [hN]; exact Xc.alloc _
  have Xv : BoxAt W14 w13.heap.size #[.int .u64 (lo vt), .int .u64 (hi vt), .int .u64 (lo vf), .int .u64 (hi vf)] 31 := by rw [hN]; exact Xv.alloc _
  have Xu : BoxAt W14 w14.heap.size #[.int .u64 (lo ut), .int .u64 (hi ut), .int .u64 (lo uf), .int .u64 (hi uf)] 31 := by rw [hN]; exact (BoxAt.new' rfl)
  clear hN
  clear yv0 yv1 yv2 yv3 lv
  refine Calls.mono (c1 W14) ?_
  rintro e w15 ⟨rfl, hb15⟩
  have hw15 := eW14.trans hb15
  replace Xa := Xa.ext hb15
  replace Xc := Xc.ext hb15
  replace Xv := Xv.ext hb15
  replace Xu := Xu.ext hb15
  clear hb15 eW14 hw14
  have yv0 : w15.cell? ⟨w13.heap.size, 0, none⟩ = some (.int .u64 (lo vt)) := Xv.cell 0
  have yv1 : w15.cell? ⟨w13.heap.size, 1, none⟩ = some (.int .u64 (hi vt)) := Xv.cell 1
  have yv2 : w15.cell? ⟨w13.heap.size, 2, none⟩ = some (.int .u64 (lo vf)) := Xv.cell 2
  have yv3 : w15.cell? ⟨w13.heap.size, 3, none⟩ = some (.int .u64 (hi vf)) := Xv.cell 3
  have lv := Xv.lt
  have yu0 : w15.cell? ⟨w14.heap.size, 0, none⟩ = some (.int .u64 (lo ut)) := Xu.cell 0
  have yu1 : w15.cell? ⟨w14.heap.size, 1, none⟩ = some (.int .u64 (hi ut)) := Xu.cell 1
  have yu2 : w15.cell? ⟨w14.heap.size, 2, none⟩ = some (.int .u64 (lo uf)) := Xu.cell 2
  have yu3 : w15.cell? ⟨w14.heap.size, 3, none⟩ = some (.int .u64 (hi uf)) := Xu.cell 3
  have lu := Xu.lt
  go_wp2_with fail
  refine intro_world (R := fun W => Calls _ _ _ W _) (fun W15 hN => ?_)
  have eW15 : Ext w W15 := by rw [hN]; exact hw15.alloc _
  have Xa : BoxAt W15 w3.heap.size #[.int .u64 (lo a), .int .u64 (hi a)] 26 := by rw [hN]; exact Xa.alloc _
  have Xc : BoxAt W15 (w4.heap.size + 1) #[.string ⟨#[97, 110, 116]⟩, .int .u64 (lo a), .int .u64 (hi a)] 29 := by rw [hN]; exact Xc.alloc _
  have Xv : BoxAt W15 w13.heap.size #[.int .u64 (lo vt), .int .u64 (hi vt), .int .u64 (lo vf), .int .u64 (hi vf)] 31 := by rw [hN]; exact Xv.alloc _
  have Xu : BoxAt W15 w14.heap.size #[.int .u64 (lo ut), .int .u64 (hi ut), .int .u64 (lo uf), .int .u64 (hi uf)] 31 := by rw [hN]; exact Xu.alloc _
  have Xboth : BoxAt W15 w15.heap.size #[.int .u64 (lo p), .int .u64 (hi p), .int .u64 (lo q), .int .u64 (hi q)] 31 := by rw [hN]; exact (BoxAt.new' rfl)
  clear hN
  clear yv0 yv1 yv2 yv3 lv yu0 yu1 yu2 yu3 lu
  refine Calls.mono (c2 W15) ?_
  rintro e w16 ⟨rfl, hb16⟩
  have hw16 := eW15.trans hb16
  replace Xa := Xa.ext hb16
  replace Xc := Xc.ext hb16
  replace Xv := Xv.ext hb16
  replace Xu := Xu.ext hb16
  replace Xboth := Xboth.ext hb16
  clear hb16 eW15 hw15
  have yc0 : w16.cell? ⟨(w4.heap.size + 1), 0, none⟩ = some (.string ⟨#[97, 110, 116]⟩) := Xc.cell 0
  have yc1 : w16.cell? ⟨(w4.heap.size + 1), 1, none⟩ = some (.int .u64 (lo a)) := Xc.cell 1
  have yc2 : w16.cell? ⟨(w4.heap.size + 1), 2, none⟩ = some (.int .u64 (hi a)) := Xc.cell 2
  have lc := Xc.lt
  have mc : w4.heap.size < w16.heap.size := by omega
  have yv0 : w16.cell? ⟨w13.heap.size, 0, none⟩ = some (.int .u64 (lo vt)) := Xv.cell 0
  have yv1 : w16.cell? ⟨w13.heap.size, 1, none⟩ = some (.int .u64 (hi vt)) := Xv.cell 1
  have yv2 : w16.cell? ⟨w13.heap.size, 2, none⟩ = some (.int .u64 (lo vf)) := Xv.cell 2
  have yv3 : w16.cell? ⟨w13.heap.size, 3, none⟩ = some (.int .u64 (hi vf)) := Xv.cell 3
  have lv := Xv.lt
  go_wp2_with fail
  refine intro_world (R := fun W => Calls _ _ _ W _) (fun W16 hN => ?_)
  have eW16 : Ext w W16 := by rw [hN]; exact hw16.alloc _
  have Xa : BoxAt W16 w3.heap.size #[.int .u64 (lo a), .int .u64 (hi a)] 26 := by rw [hN]; exact Xa.alloc _
  have Xc : BoxAt W16 (w4.heap.size + 1) #[.string ⟨#[97, 110, 116]⟩, .int .u64 (lo a), .int .u64 (hi a)] 29 := by rw [hN]; exact Xc.alloc _
  have Xv : BoxAt W16 w13.heap.size #[.int .u64 (lo vt), .int .u64 (hi vt), .int .u64 (lo vf), .int .u64 (hi vf)] 31 := by rw [hN]; exact Xv.alloc _
  have Xu : BoxAt W16 w14.heap.size #[.int .u64 (lo ut), .int .u64 (hi ut), .int .u64 (lo uf), .int .u64 (hi uf)] 31 := by rw [hN]; exact Xu.alloc _
  have Xboth : BoxAt W16 w15.heap.size #[.int .u64 (lo p), .int .u64 (hi p), .int .u64 (lo q), .int .u64 (hi q)] 31 := by rw [hN]; exact Xboth.alloc _
  have Xmodel : BoxAt W16 w16.heap.size #[.int .u64 (lo p), .int .u64 (hi p), .int .u64 (lo q), .int .u64 (hi q)] 31 := by rw [hN]; exact (BoxAt.new' rfl)
  clear hN
  clear yc0 yc1 yc2 lc mc yv0 yv1 yv2 yv3 lv
  refine Calls.mono (c3 W16) ?_
  rintro e w17 ⟨rfl, hb17⟩
  have hw17 := eW16.trans hb17
  replace Xa := Xa.ext hb17
  replace Xc := Xc.ext hb17
  replace Xv := Xv.ext hb17
  replace Xu := Xu.ext hb17
  replace Xboth := Xboth.ext hb17
  replace Xmodel := Xmodel.ext hb17
  clear hb17 eW16 hw16
  have yu0 : w17.cell? ⟨w14.heap.size, 0, none⟩ = some (.int .u64 (lo ut)) := Xu.cell 0
  have yu1 : w17.cell? ⟨w14.heap.size, 1, none⟩ = some (.int .u64 (hi ut)) := Xu.cell 1
  have yu2 : w17.cell? ⟨w14.heap.size, 2, none⟩ = some (.int .u64 (lo uf)) := Xu.cell 2
  have yu3 : w17.cell? ⟨w14.heap.size, 3, none⟩ = some (.int .u64 (hi uf)) := Xu.cell 3
  have lu := Xu.lt
  go_wp2_with fail
  refine intro_world (R := fun W => Calls _ _ _ W _) (fun W17 hN => ?_)
  have eW17 : Ext w W17 := by rw [hN]; exact hw17.alloc _
  have Xa : BoxAt W17 w3.heap.size #[.int .u64 (lo a), .int .u64 (hi a)] 26 := by rw [hN]; exact Xa.alloc _
  have Xc : BoxAt W17 (w4.heap.size + 1) #[.string ⟨#[97, 110, 116]⟩, .int .u64 (lo a), .int .u64 (hi a)] 29 := by rw [hN]; exact Xc.alloc _
  have Xv : BoxAt W17 w13.heap.size #[.int .u64 (lo vt), .int .u64 (hi vt), .int .u64 (lo vf), .int .u64 (hi vf)] 31 := by rw [hN]; exact Xv.alloc _
  have Xu : BoxAt W17 w14.heap.size #[.int .u64 (lo ut), .int .u64 (hi ut), .int .u64 (lo uf), .int .u64 (hi uf)] 31 := by rw [hN]; exact Xu.alloc _
  have Xboth : BoxAt W17 w15.heap.size #[.int .u64 (lo p), .int .u64 (hi p), .int .u64 (lo q), .int .u64 (hi q)] 31 := by rw [hN]; exact Xboth.alloc _
  have Xmodel : BoxAt W17 w16.heap.size #[.int .u64 (lo p), .int .u64 (hi p), .int .u64 (lo q), .int .u64 (hi q)] 31 := by rw [hN]; exact Xmodel.alloc _
  have Xfirst : BoxAt W17 w17.heap.size #[.string ⟨#[97, 110, 116]⟩, .int .u64 (lo m1), .int .u64 (hi m1)] 29 := by rw [hN]; exact (BoxAt.new' rfl)
  clear hN
  clear yu0 yu1 yu2 yu3 lu
  refine Calls.mono (c4 W17) ?_
  rintro e w18 ⟨rfl, hb18⟩
  have hw18 := eW17.trans hb18
  replace Xa := Xa.ext hb18
  replace Xc := Xc.ext hb18
  replace Xv := Xv.ext hb18
  replace Xu := Xu.ext hb18
  replace Xboth := Xboth.ext hb18
  replace Xmodel := Xmodel.ext hb18
  replace Xfirst := Xfirst.ext hb18
  clear hb18 eW17 hw17
  have yc0 : w18.cell? ⟨(w4.heap.size + 1), 0, none⟩ = some (.string ⟨#[97, 110, 116]⟩) := Xc.cell 0
  have yc1 : w18.cell? ⟨(w4.heap.size + 1), 1, none⟩ = some (.int .u64 (lo a)) := Xc.cell 1
  have yc2 : w18.cell? ⟨(w4.heap.size + 1), 2, none⟩ = some (.int .u64 (hi a)) := Xc.cell 2
  have lc := Xc.lt
  have mc : w4.heap.size < w18.heap.size := by omega
  have yboth0 : w18.cell? ⟨w15.heap.size, 0, none⟩ = some (.int .u64 (lo p)) := Xboth.cell 0
  have yboth1 : w18.cell? ⟨w15.heap.size, 1, none⟩ = some (.int .u64 (hi p)) := Xboth.cell 1
  have yboth2 : w18.cell? ⟨w15.heap.size, 2, none⟩ = some (.int .u64 (lo q)) := Xboth.cell 2
  have yboth3 : w18.cell? ⟨w15.heap.size, 3, none⟩ = some (.int .u64 (hi q)) := Xboth.cell 3
  have lboth := Xboth.lt
  go_wp2_with fail
  refine intro_world (R := fun W => Calls _ _ _ W _) (fun W18 hN => ?_)
  have eW18 : Ext w W18 := by rw [hN]; exact hw18.alloc _
  have Xa : BoxAt W18 w3.heap.size #[.int .u64 (lo a), .int .u64 (hi a)] 26 := by rw [hN]; exact Xa.alloc _
  have Xc : BoxAt W18 (w4.heap.size + 1) #[.string ⟨#[97, 110, 116]⟩, .int .u64 (lo a), .int .u64 (hi a)] 29 := by rw [hN]; exact Xc.alloc _
  have Xv : BoxAt W18 w13.heap.size #[.int .u64 (lo vt), .int .u64 (hi vt), .int .u64 (lo vf), .int .u64 (hi vf)] 31 := by rw [hN]; exact Xv.alloc _
  have Xu : BoxAt W18 w14.heap.size #[.int .u64 (lo ut), .int .u64 (hi ut), .int .u64 (lo uf), .int .u64 (hi uf)] 31 := by rw [hN]; exact Xu.alloc _
  have Xboth : BoxAt W18 w15.heap.size #[.int .u64 (lo p), .int .u64 (hi p), .int .u64 (lo q), .int .u64 (hi q)] 31 := by rw [hN]; exact Xboth.alloc _
  have Xmodel : BoxAt W18 w16.heap.size #[.int .u64 (lo p), .int .u64 (hi p), .int .u64 (lo q), .int .u64 (hi q)] 31 := by rw [hN]; exact Xmodel.alloc _
  have Xfirst : BoxAt W18 w17.heap.size #[.string ⟨#[97, 110, 116]⟩, .int .u64 (lo m1), .int .u64 (hi m1)] 29 := by rw [hN]; exact Xfirst.alloc _
  have Xsecond : BoxAt W18 w18.heap.size #[.string ⟨#[97, 110, 116]⟩, .int .u64 (lo m2), .int .u64 (hi m2)] 29 := by rw [hN]; exact (BoxAt.new' rfl)
  clear hN
  clear yc0 yc1 yc2 lc mc yboth0 yboth1 yboth2 yboth3 lboth
  refine Calls.mono (c5 W18) ?_
  rintro e w19 ⟨rfl, hb19⟩
  have hw19 := eW18.trans hb19
  replace Xa := Xa.ext hb19
  replace Xc := Xc.ext hb19
  replace Xv := Xv.ext hb19
  replace Xu := Xu.ext hb19
  replace Xboth := Xboth.ext hb19
  replace Xmodel := Xmodel.ext hb19
  replace Xfirst := Xfirst.ext hb19
  replace Xsecond := Xsecond.ext hb19
  clear hb19 eW18 hw18
  have e1 := eqA_Mask
  have e2 := eqA_Wear
  have e3 := eqA_Card
  have yboth0 : w19.cell? ⟨w15.heap.size, 0, none⟩ = some (.int .u64 (lo p)) := Xboth.cell 0
  have yboth1 : w19.cell? ⟨w15.heap.size, 1, none⟩ = some (.int .u64 (hi p)) := Xboth.cell 1
  have yboth2 : w19.cell? ⟨w15.heap.size, 2, none⟩ = some (.int .u64 (lo q)) := Xboth.cell 2
  have yboth3 : w19.cell? ⟨w15.heap.size, 3, none⟩ = some (.int .u64 (hi q)) := Xboth.cell 3
  have lboth := Xboth.lt
  have ymodel0 : w19.cell? ⟨w16.heap.size, 0, none⟩ = some (.int .u64 (lo p)) := Xmodel.cell 0
  have ymodel1 : w19.cell? ⟨w16.heap.size, 1, none⟩ = some (.int .u64 (hi p)) := Xmodel.cell 1
  have ymodel2 : w19.cell? ⟨w16.heap.size, 2, none⟩ = some (.int .u64 (lo q)) := Xmodel.cell 2
  have ymodel3 : w19.cell? ⟨w16.heap.size, 3, none⟩ = some (.int .u64 (hi q)) := Xmodel.cell 3
  have lmodel := Xmodel.lt
  have ysecond0 : w19.cell? ⟨w18.heap.size, 0, none⟩ = some (.string ⟨#[97, 110, 116]⟩) := Xsecond.cell 0
  have ysecond1 : w19.cell? ⟨w18.heap.size, 1, none⟩ = some (.int .u64 (lo m2)) := Xsecond.cell 1
  have ysecond2 : w19.cell? ⟨w18.heap.size, 2, none⟩ = some (.int .u64 (hi m2)) := Xsecond.cell 2
  have lsecond := Xsecond.lt
  go_wp2_with fail
  refine intro_world (R := fun W => Calls _ _ _ W _) (fun W19 hN => ?_)
  have eW19 : Ext w W19 := by rw [hN]; exact hw19.alloc _
  have Xa : BoxAt W19 w3.heap.size #[.int .u64 (lo a), .int .u64 (hi a)] 26 := by rw [hN]; exact Xa.alloc _
  have Xc : BoxAt W19 (w4.heap.size + 1) #[.string ⟨#[97, 110, 116]⟩, .int .u64 (lo a), .int .u64 (hi a)] 29 := by rw [hN]; exact Xc.alloc _
  have Xv : BoxAt W19 w13.heap.size #[.int .u64 (lo vt), .int .u64 (hi vt), .int .u64 (lo vf), .int .u64 (hi vf)] 31 := by rw [hN]; exact Xv.alloc _
  have Xu : BoxAt W19 w14.heap.size #[.int .u64 (lo ut), .int .u64 (hi ut), .int .u64 (lo uf), .int .u64 (hi uf)] 31 := by rw [hN]; exact Xu.alloc _
  have Xboth : BoxAt W19 w15.heap.size #[.int .u64 (lo p), .int .u64 (hi p), .int .u64 (lo q), .int .u64 (hi q)] 31 := by rw [hN]; exact Xboth.alloc _
  have Xmodel : BoxAt W19 w16.heap.size #[.int .u64 (lo p), .int .u64 (hi p), .int .u64 (lo q), .int .u64 (hi q)] 31 := by rw [hN]; exact Xmodel.alloc _
  have Xfirst : BoxAt W19 w17.heap.size #[.string ⟨#[97, 110, 116]⟩, .int .u64 (lo m1), .int .u64 (hi m1)] 29 := by rw [hN]; exact Xfirst.alloc _
  have Xsecond : BoxAt W19 w18.heap.size #[.string ⟨#[97, 110, 116]⟩, .int .u64 (lo m2), .int .u64 (hi m2)] 29 := by rw [hN]; exact Xsecond.alloc _
  have Xwhole : BoxAt W19 w19.heap.size #[.string ⟨#[97, 110, 116]⟩, .int .u64 (lo m2), .int .u64 (hi m2)] 29 := by rw [hN]; exact (BoxAt.new' rfl)
  clear hN
  clear yboth0 yboth1 yboth2 yboth3 lboth ymodel0 ymodel1 ymodel2 ymodel3 lmodel ysecond0 ysecond1 ysecond2 lsecond
  refine Calls.mono (c8 W19) ?_
  rintro e w20 ⟨rfl, hb20⟩
  have hw20 := eW19.trans hb20
  replace Xa := Xa.ext hb20
  replace Xc := Xc.ext hb20
  replace Xv := Xv.ext hb20
  replace Xu := Xu.ext hb20
  replace Xboth := Xboth.ext hb20
  replace Xmodel := Xmodel.ext hb20
  replace Xfirst := Xfirst.ext hb20
  replace Xsecond := Xsecond.ext hb20
  replace Xwhole := Xwhole.ext hb20
  clear hb20 eW19 hw19
  clear Xv
  clear Xu
  clear Xboth
  clear Xmodel
  clear Xfirst
  clear Xsecond
  clear Xwhole
  clear e1 e2 e3 c1 c2 c3 c4 c5 c8
  go_wp2_with fail
  refine intro_world (R := fun W => Calls _ _ _ W _) (fun W20 hN => ?_)
  have eW20 : Ext w W20 := by rw [hN]; exact hw20
  have Xa : BoxAt W20 w3.heap.size #[.int .u64 (lo a), .int .u64 (hi a)] 26 := by rw [hN]; exact Xa
  have Xc : BoxAt W20 (w4.heap.size + 1) #[.string ⟨#[97, 110, 116]⟩, .int .u64 (lo a), .int .u64 (hi a)] 29 := by rw [hN]; exact Xc
  clear hN
  refine Calls.mono (spec_P6Pick cs A cap 300 (by omega) W20 (hR.ext eW20) (by omega)) ?_
  rintro e w21 ⟨r, rfl, r0, r1, hb21⟩
  have hw21 := eW20.trans hb21
  replace Xa := Xa.ext hb21
  replace Xc := Xc.ext hb21
  clear hb21 eW20 hw20
  go_wp2_with fail
  refine intro_world (R := fun W => Calls _ _ _ W _) (fun W21 hN => ?_)
  have eW21 : Ext w W21 := by rw [hN]; exact hw21
  have Xa : BoxAt W21 w3.heap.size #[.int .u64 (lo a), .int .u64 (hi a)] 26 := by rw [hN]; exact Xa
  have Xc : BoxAt W21 (w4.heap.size + 1) #[.string ⟨#[97, 110, 116]⟩, .int .u64 (lo a), .int .u64 (hi a)] 29 := by rw [hN]; exact Xc
  clear hN
  refine Calls.mono (spec_P6Pick ds B cap' 300 (by omega) W21 (hS.ext eW21) (by omega)) ?_
  rintro e w22 ⟨s, rfl, s0, s1, hb22⟩
  have hw22 := eW21.trans hb22
  replace Xa := Xa.ext hb22
  replace Xc := Xc.ext hb22
  clear hb22 eW21 hw21
  obtain ⟨t, f, m, sd, htf, hwo, hx1, hx2, c1, c2⟩ := chance_ant ha r s r0 (by omega) s0 (by omega)
  have c3 := fun W => wear_ant ha htf hwo W
  have c4 := fun W => impl_CountWear t f W
  have k1 : cwN t f = mcount t + mcount f := by unfold cwN; rw [if_pos htf]
  have k2 : cwC t f = 0 := by unfold cwC; rw [if_pos htf]
  rw [k1, k2] at c4
  have c5 := fun W => spec_LessMask a m W
  have c6 := fun W => spec_LessMask m a W
  rw [hx2] at c5
  rw [hx1] at c6
  have c7 := fun W => spec_CountHoles t W
  have c8 := fun W => spec_CountHoles f W
  have g1 := mcount_ge t
  have g2 := mcount_ge f
  have g3 := mcount_le t
  have g4 := mcount_le f
  generalize mcount t = nt at *
  generalize mcount f = nf at *
  clear htf hwo hx1 hx2 k1 k2 ha
  have yc0 : w22.cell? ⟨(w4.heap.size + 1), 0, none⟩ = some (.string ⟨#[97, 110, 116]⟩) := Xc.cell 0
  have yc1 : w22.cell? ⟨(w4.heap.size + 1), 1, none⟩ = some (.int .u64 (lo a)) := Xc.cell 1
  have yc2 : w22.cell? ⟨(w4.heap.size + 1), 2, none⟩ = some (.int .u64 (hi a)) := Xc.cell 2
  have lc := Xc.lt
  have mc : w4.heap.size < w22.heap.size := by omega
  go_wp2_with fail
  refine intro_world (R := fun W => Calls _ _ _ W _) (fun W22 hN => ?_)
  have eW22 : Ext w W22 := by rw [hN]; exact hw22
  have Xa : BoxAt W22 w3.heap.size #[.int .u64 (lo a), .int .u64 (hi a)] 26 := by rw [hN]; exact Xa
  have Xc : BoxAt W22 (w4.heap.size + 1) #[.string ⟨#[97, 110, 116]⟩, .int .u64 (lo a), .int .u64 (hi a)] 29 := by rw [hN]; exact Xc
  clear hN
  clear yc0 yc1 yc2 lc mc
  refine Calls.mono (c1 W22) ?_
  rintro e w23 ⟨rfl, hb23⟩
  have hw23 := eW22.trans hb23
  replace Xa := Xa.ext hb23
  replace Xc := Xc.ext hb23
  clear hb23 eW22 hw22
  have yc0 : w23.cell? ⟨(w4.heap.size + 1), 0, none⟩ = some (.string ⟨#[97, 110, 116]⟩) := Xc.cell 0
  have yc1 : w23.cell? ⟨(w4.heap.size + 1), 1, none⟩ = some (.int .u64 (lo a)) := Xc.cell 1
  have yc2 : w23.cell? ⟨(w4.heap.size + 1), 2, none⟩ = some (.int .u64 (hi a)) := Xc.cell 2
  have lc := Xc.lt
  have mc : w4.heap.size < w23.heap.size := by omega
  go_wp2_with fail
  refine intro_world (R := fun W => Calls _ _ _ W _) (fun W23 hN => ?_)
  have eW23 : Ext w W23 := by rw [hN]; exact (hw23.alloc _).alloc _
  have Xa : BoxAt W23 w3.heap.size #[.int .u64 (lo a), .int .u64 (hi a)] 26 := by rw [hN]; exact (Xa.alloc _).alloc _
  have Xc : BoxAt W23 (w4.heap.size + 1) #[.string ⟨#[97, 110, 116]⟩, .int .u64 (lo a), .int .u64 (hi a)] 29 := by rw [hN]; exact (Xc.alloc _).alloc _
  have Xd : BoxAt W23 w23.heap.size #[.string ⟨#[97, 110, 116]⟩, .int .u64 (lo m), .int .u64 (hi m)] 29 := by rw [hN]; exact (BoxAt.new' rfl).alloc _
  have Xby : BoxAt W23 (w23.heap.size + 1) #[.int .u64 (lo t), .int .u64 (hi t), .int .u64 (lo f), .int .u64 (hi f)] 31 := by rw [hN]; exact (BoxAt.new' (by simp))
  clear hN
  clear yc0 yc1 yc2 lc mc
  refine Calls.mono (c2 W23) ?_
  rintro e w24 ⟨rfl, hb24⟩
  have hw24 := eW23.trans hb24
  replace Xa := Xa.ext hb24
  replace Xc := Xc.ext hb24
  replace Xd := Xd.ext hb24
  replace Xby := Xby.ext hb24
  clear hb24 eW23 hw23
  have yc0 : w24.cell? ⟨(w4.heap.size + 1), 0, none⟩ = some (.string ⟨#[97, 110, 116]⟩) := Xc.cell 0
  have yc1 : w24.cell? ⟨(w4.heap.size + 1), 1, none⟩ = some (.int .u64 (lo a)) := Xc.cell 1
  have yc2 : w24.cell? ⟨(w4.heap.size + 1), 2, none⟩ = some (.int .u64 (hi a)) := Xc.cell 2
  have lc := Xc.lt
  have mc : w4.heap.size < w24.heap.size := by omega
  go_wp2_with fail
  refine intro_world (R := fun W => Calls _ _ _ W _) (fun W24 hN => ?_)
  have eW24 : Ext w W24 := by rw [hN]; exact (hw24.alloc _).alloc _
  have Xa : BoxAt W24 w3.heap.size #[.int .u64 (lo a), .int .u64 (hi a)] 26 := by rw [hN]; exact (Xa.alloc _).alloc _
  have Xc : BoxAt W24 (w4.heap.size + 1) #[.string ⟨#[97, 110, 116]⟩, .int .u64 (lo a), .int .u64 (hi a)] 29 := by rw [hN]; exact (Xc.alloc _).alloc _
  have Xd : BoxAt W24 w23.heap.size #[.string ⟨#[97, 110, 116]⟩, .int .u64 (lo m), .int .u64 (hi m)] 29 := by rw [hN]; exact (Xd.alloc _).alloc _
  have Xby : BoxAt W24 (w23.heap.size + 1) #[.int .u64 (lo t), .int .u64 (hi t), .int .u64 (lo f), .int .u64 (hi f)] 31 := by rw [hN]; exact (Xby.alloc _).alloc _
  have Xold : BoxAt W24 w24.heap.size #[.string ⟨#[97, 110, 116]⟩, .int .u64 (lo m), .int .u64 (hi m)] 29 := by rw [hN]; exact (BoxAt.new' rfl).alloc _
  have Xtold : BoxAt W24 (w24.heap.size + 1) #[.int .u64 (lo t), .int .u64 (hi t), .int .u64 (lo f), .int .u64 (hi f)] 31 := by rw [hN]; exact (BoxAt.new' (by simp))
  clear hN
  clear yc0 yc1 yc2 lc mc
  refine Calls.mono (c3 W24) ?_
  rintro e w25 ⟨rfl, hb25⟩
  have hw25 := eW24.trans hb25
  replace Xa := Xa.ext hb25
  replace Xc := Xc.ext hb25
  replace Xd := Xd.ext hb25
  replace Xby := Xby.ext hb25
  replace Xold := Xold.ext hb25
  replace Xtold := Xtold.ext hb25
  clear hb25 eW24 hw24
  have ytold0 : w25.cell? ⟨(w24.heap.size + 1), 0, none⟩ = some (.int .u64 (lo t)) := Xtold.cell 0
  have ytold1 : w25.cell? ⟨(w24.heap.size + 1), 1, none⟩ = some (.int .u64 (hi t)) := Xtold.cell 1
  have ytold2 : w25.cell? ⟨(w24.heap.size + 1), 2, none⟩ = some (.int .u64 (lo f)) := Xtold.cell 2
  have ytold3 : w25.cell? ⟨(w24.heap.size + 1), 3, none⟩ = some (.int .u64 (hi f)) := Xtold.cell 3
  have ltold := Xtold.lt
  have mtold : w24.heap.size < w25.heap.size := by omega
  go_wp2_with fail
  refine intro_world (R := fun W => Calls _ _ _ W _) (fun W25 hN => ?_)
  have eW25 : Ext w W25 := by rw [hN]; exact hw25.alloc _
  have Xa : BoxAt W25 w3.heap.size #[.int .u64 (lo a), .int .u64 (hi a)] 26 := by rw [hN]; exact Xa.alloc _
  have Xc : BoxAt W25 (w4.heap.size + 1) #[.string ⟨#[97, 110, 116]⟩, .int .u64 (lo a), .int .u64 (hi a)] 29 := by rw [hN]; exact Xc.alloc _
  have Xd : BoxAt W25 w23.heap.size #[.string ⟨#[97, 110, 116]⟩, .int .u64 (lo m), .int .u64 (hi m)] 29 := by rw [hN]; exact Xd.alloc _
  have Xby : BoxAt W25 (w23.heap.size + 1) #[.int .u64 (lo t), .int .u64 (hi t), .int .u64 (lo f), .int .u64 (hi f)] 31 := by rw [hN]; exact Xby.alloc _
  have Xold : BoxAt W25 w24.heap.size #[.string ⟨#[97, 110, 116]⟩, .int .u64 (lo m), .int .u64 (hi m)] 29 := by rw [hN]; exact Xold.alloc _
  have Xtold : BoxAt W25 (w24.heap.size + 1) #[.int .u64 (lo t), .int .u64 (hi t), .int .u64 (lo f), .int .u64 (hi f)] 31 := by rw [hN]; exact Xtold.alloc _
  have Xagain : BoxAt W25 w25.heap.size #[.string ⟨#[97, 110, 116]⟩, .int .u64 (lo m), .int .u64 (hi m)] 29 := by rw [hN]; exact (BoxAt.new' rfl)
  clear hN
  clear ytold0 ytold1 ytold2 ytold3 ltold mtold
  refine Calls.mono (c4 W25) ?_
  rintro e w26 ⟨rfl, hb26⟩
  have hw26 := eW25.trans hb26
  replace Xa := Xa.ext hb26
  replace Xc := Xc.ext hb26
  replace Xd := Xd.ext hb26
  replace Xby := Xby.ext hb26
  replace Xold := Xold.ext hb26
  replace Xtold := Xtold.ext hb26
  replace Xagain := Xagain.ext hb26
  clear hb26 eW25 hw25
  have e1 := eqA_Mask
  have e2 := eqA_Wear
  have e3 := eqA_Card
  have i1 : IntKind.i64.wrap (nf + nt) = nt + nf := by rw [Int.add_comm]; exact IntWalk.i64_in _ (by omega)
  clear c1 c2 c3 c4
  have yd0 : w26.cell? ⟨w23.heap.size, 0, none⟩ = some (.string ⟨#[97, 110, 116]⟩) := Xd.cell 0
  have yd1 : w26.cell? ⟨w23.heap.size, 1, none⟩ = some (.int .u64 (lo m)) := Xd.cell 1
  have yd2 : w26.cell? ⟨w23.heap.size, 2, none⟩ = some (.int .u64 (hi m)) := Xd.cell 2
  have ld := Xd.lt
  have yold0 : w26.cell? ⟨w24.heap.size, 0, none⟩ = some (.string ⟨#[97, 110, 116]⟩) := Xold.cell 0
  have yold1 : w26.cell? ⟨w24.heap.size, 1, none⟩ = some (.int .u64 (lo m)) := Xold.cell 1
  have yold2 : w26.cell? ⟨w24.heap.size, 2, none⟩ = some (.int .u64 (hi m)) := Xold.cell 2
  have lold := Xold.lt
  have yby0 : w26.cell? ⟨(w23.heap.size + 1), 0, none⟩ = some (.int .u64 (lo t)) := Xby.cell 0
  have yby1 : w26.cell? ⟨(w23.heap.size + 1), 1, none⟩ = some (.int .u64 (hi t)) := Xby.cell 1
  have yby2 : w26.cell? ⟨(w23.heap.size + 1), 2, none⟩ = some (.int .u64 (lo f)) := Xby.cell 2
  have yby3 : w26.cell? ⟨(w23.heap.size + 1), 3, none⟩ = some (.int .u64 (hi f)) := Xby.cell 3
  have lby := Xby.lt
  have mby : w23.heap.size < w26.heap.size := by omega
  have ytold0 : w26.cell? ⟨(w24.heap.size + 1), 0, none⟩ = some (.int .u64 (lo t)) := Xtold.cell 0
  have ytold1 : w26.cell? ⟨(w24.heap.size + 1), 1, none⟩ = some (.int .u64 (hi t)) := Xtold.cell 1
  have ytold2 : w26.cell? ⟨(w24.heap.size + 1), 2, none⟩ = some (.int .u64 (lo f)) := Xtold.cell 2
  have ytold3 : w26.cell? ⟨(w24.heap.size + 1), 3, none⟩ = some (.int .u64 (hi f)) := Xtold.cell 3
  have ltold := Xtold.lt
  have mtold : w24.heap.size < w26.heap.size := by omega
  have yagain0 : w26.cell? ⟨w25.heap.size, 0, none⟩ = some (.string ⟨#[97, 110, 116]⟩) := Xagain.cell 0
  have yagain1 : w26.cell? ⟨w25.heap.size, 1, none⟩ = some (.int .u64 (lo m)) := Xagain.cell 1
  have yagain2 : w26.cell? ⟨w25.heap.size, 2, none⟩ = some (.int .u64 (hi m)) := Xagain.cell 2
  have lagain := Xagain.lt
  have ya0 : w26.cell? ⟨w3.heap.size, 0, none⟩ = some (.int .u64 (lo a)) := Xa.cell 0
  have ya1 : w26.cell? ⟨w3.heap.size, 1, none⟩ = some (.int .u64 (hi a)) := Xa.cell 1
  have la := Xa.lt
  go_wp2
  refine wp_region_ext (by kernel_rfl) (by kernel_rfl) ?_
  repeat (first | go_big_quiet_step ((first | (go_at_call 21; with_reducible exact Calls.ext_of (c5 _)) | (go_at_call 21; with_reducible exact Calls.ext_of (c6 _)) | (go_at_call 20; with_reducible exact Calls.ext_of (c7 _)) | (go_at_call 20; with_reducible exact Calls.ext_of (c8 _)))) | quiet_step ((first | (go_at_call 21; with_reducible exact Calls.ext_of (c5 _)) | (go_at_call 21; with_reducible exact Calls.ext_of (c6 _)) | (go_at_call 20; with_reducible exact Calls.ext_of (c7 _)) | (go_at_call 20; with_reducible exact Calls.ext_of (c8 _)))))
  refine wpQuiet_nil ?_
  intro w99 hq99
  have hb99 := ext_of_class hq99
  clear hq99
  obtain ⟨hc99, hf99, hz99⟩ := bcell3 hb99
  try simp at hz99
  go_wp2
  go_ret
  exact ⟨rfl, hw26.trans hb99⟩
end Go.Proofs.YthkphhacmneeiaaGreatDoor
