/-
  The walk of the law FnFields.
-/
import Derived.Test.YtciepjdacmjhlaaDoorFW0
import Derived.Test.YtciepjdacmjhlaaDoorFDX
set_option linter.unusedVariables false
set_option linter.unusedSimpArgs false
set_option maxRecDepth 100000
namespace Go.Proofs.YtciepjdacmjhlaaDoor
open Go.RowKit
theorem card_name : isNameB ⟨#[99, 97, 114, 100]⟩ = true := by decide
set_option maxHeartbeats 40000000 in
theorem laws_FnFields (cs ds : List UInt8) (A B : Option Addr) (cap cap' : Nat) (w : World) (hn : cs.length ≤ 9223372036854775807) (hR : Rd encU8 w A cs) (hm : ds.length ≤ 9223372036854775807) (hS : Rd encU8 w B ds) :
    Calls Tryd.prog 3 #[.slice A cs.length cap, .slice B ds.length cap'] w fun e w' => e = .returned (.bool true) ∧ Ext w w' := by
  have hx := @ExtOf.cell
  have b1 := fun W => laws_a2Long cs ds A B cap cap' W
  by_cases h1 : 3000 < cs.length ∨ 3000 < ds.length
  · rw [decide_eq_true h1] at b1
    go_enter Tryd.func3, Tryd.ntmps3
    go_wp2_with fail
    refine Calls.mono (b1 _) ?_
    rintro e w1 ⟨rfl, hb1⟩
    go_wp2
    go_ret
    exact ⟨rfl, hb1⟩
  rw [decide_eq_false h1] at b1
  go_enter Tryd.func3, Tryd.ntmps3
  go_wp2_with fail
  refine Calls.mono (b1 _) ?_
  rintro e w1 ⟨rfl, hb1⟩
  clear b1
  go_wp2_with fail
  refine Calls.mono (spec_A2Scheme cs A cap _ (hR.ext hb1) (by omega)) ?_
  rintro e w2 ⟨xs, v2, rfl, hO, hD, l1, l5, hb2⟩
  obtain ⟨C, cc, rfl, hle, hRx⟩ := hO.slice
  have hw2 := hb1.trans hb2
  clear hO hb1 hb2
  go_wp2_with fail
  refine Calls.mono (laws_a2At ds B cap' 0 xs.length (by omega) (by omega) _ (hS.ext hw2)) ?_
  rintro e w3 ⟨q, rfl, q0, q1, hb3⟩
  have hw3 := hw2.trans hb3
  replace hRx := hRx.ext hb3
  obtain ⟨q, rfl⟩ := Int.eq_ofNat_of_zero_le q0
  have hq : q < xs.length := by omega
  clear hb3 hw2 q0 q1 hle
  obtain ⟨bF, oF, hAF, hltF, hrF⟩ := hRx q hq
  subst hAF
  clear hrF
  obtain ⟨m0, m1, m2, m3, mb⟩ := hRx.fld q hq
  have hfd := hD _ (List.getElem_mem hq)
  have q1 : (q : Int) < xs.length := by omega
  have hin := drawn_in hfd
  generalize xs[q] = f at m0 m1 m2 m3 hfd hin
  have hf := hfd.1
  have hL := code_law hf hfd.2
  have hmo := mostF_le f hf
  have hpm := part_mask hf
  have hpc := part_count hf
  have c1 := fun W => impl_MostOf f hf hin W
  have c2 := fun W => impl_PartOf f hf hin W
  have c3 := fun W => impl_HolesOf f hf hin W
  have c4 := fun W => spec_MostOf f hf hin W
  have c5 := fun W => impl_CountHoles (partF f) W
  rw [hpc] at c5
  have c6 := fun W => impl_ValidField f hin W
  rw [hf] at c6
  go_wp2_with fail
  refine intro_world (R := fun W => Calls _ _ _ W _) (fun W10 hN => ?_)
  have dW10 : Ext w3 W10 := by rw [hN]; exact (Ext.refl _).alloc _
  have eW10 := hw3.trans dW10
  have Xf : BoxAt W10 w3.heap.size #[.string f.nm, .int .i8 f.kd, .int .i16 f.st, .int .i16 f.sz] 29 := by rw [hN]; exact (BoxAt.new' rfl)
  clear hN
  refine Calls.mono (c1 W10) ?_
  rintro e w11 ⟨rfl, hb11⟩
  have hw11 := eW10.trans hb11
  replace Xf := Xf.ext hb11
  clear hb11 dW10 eW10
  have yf0 : w11.cell? ⟨w3.heap.size, 0, none⟩ = some (.string f.nm) := Xf.cell 0
  have yf1 : w11.cell? ⟨w3.heap.size, 1, none⟩ = some (.int .i8 f.kd) := Xf.cell 1
  have yf2 : w11.cell? ⟨w3.heap.size, 2, none⟩ = some (.int .i16 f.st) := Xf.cell 2
  have yf3 : w11.cell? ⟨w3.heap.size, 3, none⟩ = some (.int .i16 f.sz) := Xf.cell 3
  have lf := Xf.lt
  go_wp2_with fail
  refine intro_world (R := fun W => Calls _ _ _ W _) (fun W11 hN => ?_)
  have dW11 : Ext w11 W11 := by rw [hN]; exact (Ext.refl _)
  have eW11 := hw11.trans dW11
  replace Xf := Xf.ext dW11
  clear hN
  clear yf0 yf1 yf2 yf3 lf
  refine Calls.mono (c2 W11) ?_
  rintro e w12 ⟨rfl, hb12⟩
  have hw12 := eW11.trans hb12
  replace Xf := Xf.ext hb12
  clear hb12 dW11 eW11
  have yf0 : w12.cell? ⟨w3.heap.size, 0, none⟩ = some (.string f.nm) := Xf.cell 0
  have yf1 : w12.cell? ⟨w3.heap.size, 1, none⟩ = some (.int .i8 f.kd) := Xf.cell 1
  have yf2 : w12.cell? ⟨w3.heap.size, 2, none⟩ = some (.int .i16 f.st) := Xf.cell 2
  have yf3 : w12.cell? ⟨w3.heap.size, 3, none⟩ = some (.int .i16 f.sz) := Xf.cell 3
  have lf := Xf.lt
  go_wp2_with fail
  refine intro_world (R := fun W => Calls _ _ _ W _) (fun W12 hN => ?_)
  have dW12 : Ext w12 W12 := by rw [hN]; exact (Ext.refl _).alloc _
  have eW12 := hw12.trans dW12
  replace Xf := Xf.ext dW12
  have Xpart : BoxAt W12 w12.heap.size #[.int .u64 (lo (partF f)), .int .u64 (hi (partF f))] 35 := by rw [hN]; exact (BoxAt.new' rfl)
  clear hN
  clear yf0 yf1 yf2 yf3 lf
  refine Calls.mono (c3 W12) ?_
  rintro e w13 ⟨rfl, hb13⟩
  have hw13 := eW12.trans hb13
  replace Xf := Xf.ext hb13
  replace Xpart := Xpart.ext hb13
  clear hb13 dW12 eW12
  have yf0 : w13.cell? ⟨w3.heap.size, 0, none⟩ = some (.string f.nm) := Xf.cell 0
  have yf1 : w13.cell? ⟨w3.heap.size, 1, none⟩ = some (.int .i8 f.kd) := Xf.cell 1
  have yf2 : w13.cell? ⟨w3.heap.size, 2, none⟩ = some (.int .i16 f.st) := Xf.cell 2
  have yf3 : w13.cell? ⟨w3.heap.size, 3, none⟩ = some (.int .i16 f.sz) := Xf.cell 3
  have lf := Xf.lt
  go_wp2_with fail
  refine intro_world (R := fun W => Calls _ _ _ W _) (fun W13 hN => ?_)
  have dW13 : Ext w13 W13 := by rw [hN]; exact (Ext.refl _)
  have eW13 := hw13.trans dW13
  replace Xf := Xf.ext dW13
  replace Xpart := Xpart.ext dW13
  clear hN
  clear yf0 yf1 yf2 yf3 lf
  refine Calls.mono (c4 W13) ?_
  rintro e w14 ⟨rfl, hb14⟩
  have hw14 := eW13.trans hb14
  replace Xf := Xf.ext hb14
  replace Xpart := Xpart.ext hb14
  clear hb14 dW13 eW13
  have ypart0 : w14.cell? ⟨w12.heap.size, 0, none⟩ = some (.int .u64 (lo (partF f))) := Xpart.cell 0
  have ypart1 : w14.cell? ⟨w12.heap.size, 1, none⟩ = some (.int .u64 (hi (partF f))) := Xpart.cell 1
  have lpart := Xpart.lt
  go_wp2_with fail
  refine intro_world (R := fun W => Calls _ _ _ W _) (fun W14 hN => ?_)
  have dW14 : Ext w14 W14 := by rw [hN]; exact (Ext.refl _)
  have eW14 := hw14.trans dW14
  replace Xf := Xf.ext dW14
  replace Xpart := Xpart.ext dW14
  clear hN
  clear ypart0 ypart1 lpart
  refine Calls.mono (c5 W14) ?_
  rintro e w15 ⟨rfl, hb15⟩
  have hw15 := eW14.trans hb15
  replace Xf := Xf.ext hb15
  replace Xpart := Xpart.ext hb15
  clear hb15 dW14 eW14
  have yf0 : w15.cell? ⟨w3.heap.size, 0, none⟩ = some (.string f.nm) := Xf.cell 0
  have yf1 : w15.cell? ⟨w3.heap.size, 1, none⟩ = some (.int .i8 f.kd) := Xf.cell 1
  have yf2 : w15.cell? ⟨w3.heap.size, 2, none⟩ = some (.int .i16 f.st) := Xf.cell 2
  have yf3 : w15.cell? ⟨w3.heap.size, 3, none⟩ = some (.int .i16 f.sz) := Xf.cell 3
  have lf := Xf.lt
  go_wp2_with fail
  refine intro_world (R := fun W => Calls _ _ _ W _) (fun W15 hN => ?_)
  have dW15 : Ext w15 W15 := by rw [hN]; exact (Ext.refl _)
  have eW15 := hw15.trans dW15
  replace Xf := Xf.ext dW15
  replace Xpart := Xpart.ext dW15
  clear hN
  clear yf0 yf1 yf2 yf3 lf
  refine Calls.mono (c6 W15) ?_
  rintro e w16 ⟨rfl, hb16⟩
  have hw16 := eW15.trans hb16
  replace Xf := Xf.ext hb16
  replace Xpart := Xpart.ext hb16
  clear hb16 dW15 eW15
  clear c1 c2 c3 c4 c5 c6 m0 m1 m2 m3 mb hRx q1
  have j1 : IntKind.i64.wrap (mostF f + 1) = mostF f + 1 := IntWalk.i64_in _ (by omega)
  go_wp2_with fail
  refine intro_world (R := fun W => Calls _ _ _ W _) (fun W16 hN => ?_)
  have dW16 : Ext w16 W16 := by rw [hN]; exact (Ext.refl _)
  have eW16 := hw16.trans dW16
  replace Xf := Xf.ext dW16
  replace Xpart := Xpart.ext dW16
  clear hN
  refine Calls.mono (laws_a2At ds B cap' 1 (mostF f + 1) (by omega) (by omega) W16 (hS.ext eW16)) ?_
  rintro e w17 ⟨v, rfl, v0, v1, hb17⟩
  have hw17 := eW16.trans hb17
  replace Xf := Xf.ext hb17
  replace Xpart := Xpart.ext hb17
  clear hb17 dW16 eW16
  go_wp2_with fail
  refine intro_world (R := fun W => Calls _ _ _ W _) (fun W17 hN => ?_)
  have dW17 : Ext w17 W17 := by rw [hN]; exact (Ext.refl _)
  have eW17 := hw17.trans dW17
  replace Xf := Xf.ext dW17
  replace Xpart := Xpart.ext dW17
  clear hN
  refine Calls.mono (laws_a2At ds B cap' 2 (mostF f + 1) (by omega) (by omega) W17 (hS.ext eW17)) ?_
  rintro e w18 ⟨u, rfl, u0, u1, hb18⟩
  have hw18 := eW17.trans hb18
  replace Xf := Xf.ext hb18
  replace Xpart := Xpart.ext hb18
  clear hb18 dW17 eW17
  replace v1 : v ≤ mostF f := by omega
  replace u1 : u ≤ mostF f := by omega
  have c1 := fun W => impl_EncodeField f hf hin v v0 v1 W
  have c2 := fun W => impl_EncodeField f hf hin u u0 u1 W
  have c3 := fun W => spec_EncodeField f hf hin v v0 v1 W
  have c4 := fun W => impl_IsWithin (codeF f v) (partF f) W
  have hz : mzero (mless (codeF f v) (partF f)) = true := by rw [code_within hL v0 v1]; rfl
  rw [hz] at c4
  have c5 := fun W => impl_IsWithin (codeF f v) (codeF f u) W
  have hne0 : (lo (codeF f v) == 0 && hi (codeF f v) == 0) = false := by rw [lohi_zero]; unfold mzero; exact beq_eq_false_iff_ne.2 (hL.ne v v0 v1)
  have hcd : mzero (mless (codeF f v) (codeF f u)) = true → v ≠ u → ¬ (f.kd = 0 ∨ f.kd = 2) := fun h1 h2 h3 => code_not_within hL h3 v0 v1 u0 u1 h2 (by unfold mzero at h1; simpa using h1)
  have heq : (lo (codeF f v) == lo (codeF f u) && hi (codeF f v) == hi (codeF f u)) = decide (v = u) := by rw [lohi_meq]; unfold meqB; rw [Bool.eq_iff_iff, beq_iff_eq, decide_eq_true_eq]; exact ⟨hL.inj v u v0 v1 u0 u1, fun h => by rw [h]⟩
  have hve : (v == u) = decide (v = u) := by rw [Bool.eq_iff_iff, beq_iff_eq, decide_eq_true_eq]
  have hcm := code_mask hf hL v0 v1
  have c6 := fun (m : Mask) (hm : isMaskB m = true) W => impl_PutField ⟨(⟨#[99, 97, 114, 100]⟩ : ByteArray), m⟩ (show isCardB _ = true by unfold isCardB; rw [hm]; exact Bool.and_true _ ▸ card_name) (show (4 : Nat) ≤ 9223372036854775807 by decide) f hf hin v v0 v1 W
  have p1 := fun (m : Mask) => put_meet hL v0 v1 m
  have p2 := fun (m : Mask) => put_less hL v0 v1 m
  have p3 := fun (m : Mask) (hm : isMaskB m = true) => put_mask hf hL v0 v1 (m := m) hm
  have p4 := fun (m : Mask) (h : mmeet m (partF f) = codeF f v) => value_code hL v0 v1 h
  replace p1 := hd p1
  replace p2 := hd p2
  replace p3 := hd p3
  replace p4 := hd p4
  replace hcd := hd hcd
  replace hL := hd hL
  have yf0 : w18.cell? ⟨w3.heap.size, 0, none⟩ = some (.string f.nm) := Xf.cell 0
  have yf1 : w18.cell? ⟨w3.heap.size, 1, none⟩ = some (.int .i8 f.kd) := Xf.cell 1
  have yf2 : w18.cell? ⟨w3.heap.size, 2, none⟩ = some (.int .i16 f.st) := Xf.cell 2
  have yf3 : w18.cell? ⟨w3.heap.size, 3, none⟩ = some (.int .i16 f.sz) := Xf.cell 3
  have lf := Xf.lt
  go_wp2_with fail
  refine intro_world (R := fun W => Calls _ _ _ W _) (fun W18 hN => ?_)
  have dW18 : Ext w18 W18 := by rw [hN]; exact (Ext.refl _)
  have eW18 := hw18.trans dW18
  replace Xf := Xf.ext dW18
  replace Xpart := Xpart.ext dW18
  clear hN
  clear yf0 yf1 yf2 yf3 lf
  refine Calls.mono (c1 W18) ?_
  rintro e w19 ⟨rfl, hb19⟩
  have hw19 := eW18.trans hb19
  replace Xf := Xf.ext hb19
  replace Xpart := Xpart.ext hb19
  clear hb19 dW18 eW18
  have yf0 : w19.cell? ⟨w3.heap.size, 0, none⟩ = some (.string f.nm) := Xf.cell 0
  have yf1 : w19.cell? ⟨w3.heap.size, 1, none⟩ = some (.int .i8 f.kd) := Xf.cell 1
  have yf2 : w19.cell? ⟨w3.heap.size, 2, none⟩ = some (.int .i16 f.st) := Xf.cell 2
  have yf3 : w19.cell? ⟨w3.heap.size, 3, none⟩ = some (.int .i16 f.sz) := Xf.cell 3
  have lf := Xf.lt
  go_wp2_with fail
  refine intro_world (R := fun W => Calls _ _ _ W _) (fun W19 hN => ?_)
  have dW19 : Ext w19 W19 := by rw [hN]; exact (Ext.refl _).alloc _
  have eW19 := hw19.trans dW19
  replace Xf := Xf.ext dW19
  replace Xpart := Xpart.ext dW19
  have Xa : BoxAt W19 w19.heap.size #[.int .u64 (lo (codeF f v)), .int .u64 (hi (codeF f v))] 35 := by rw [hN]; exact (BoxAt.new' rfl)
  clear hN
  clear yf0 yf1 yf2 yf3 lf
  refine Calls.mono (c2 W19) ?_
  rintro e w20 ⟨rfl, hb20⟩
  have hw20 := eW19.trans hb20
  replace Xf := Xf.ext hb20
  replace Xpart := Xpart.ext hb20
  replace Xa := Xa.ext hb20
  clear hb20 dW19 eW19
  have yf0 : w20.cell? ⟨w3.heap.size, 0, none⟩ = some (.string f.nm) := Xf.cell 0
  have yf1 : w20.cell? ⟨w3.heap.size, 1, none⟩ = some (.int .i8 f.kd) := Xf.cell 1
  have yf2 : w20.cell? ⟨w3.heap.size, 2, none⟩ = some (.int .i16 f.st) := Xf.cell 2
  have yf3 : w20.cell? ⟨w3.heap.size, 3, none⟩ = some (.int .i16 f.sz) := Xf.cell 3
  have lf := Xf.lt
  go_wp2_with fail
  refine intro_world (R := fun W => Calls _ _ _ W _) (fun W20 hN => ?_)
  have dW20 : Ext w20 W20 := by rw [hN]; exact (Ext.refl _).alloc _
  have eW20 := hw20.trans dW20
  replace Xf := Xf.ext dW20
  replace Xpart := Xpart.ext dW20
  replace Xa := Xa.ext dW20
  have Xb : BoxAt W20 w20.heap.size #[.int .u64 (lo (codeF f u)), .int .u64 (hi (codeF f u))] 35 := by rw [hN]; exact (BoxAt.new' rfl)
  clear hN
  clear yf0 yf1 yf2 yf3 lf
  refine Calls.mono (c3 W20) ?_
  rintro e w21 ⟨rfl, hb21⟩
  have hw21 := eW20.trans hb21
  replace Xf := Xf.ext hb21
  replace Xpart := Xpart.ext hb21
  replace Xa := Xa.ext hb21
  replace Xb := Xb.ext hb21
  clear hb21 dW20 eW20
  have e2 := eqA_Mask
  have ya0 : w21.cell? ⟨w19.heap.size, 0, none⟩ = some (.int .u64 (lo (codeF f v))) := Xa.cell 0
  have ya1 : w21.cell? ⟨w19.heap.size, 1, none⟩ = some (.int .u64 (hi (codeF f v))) := Xa.cell 1
  have la := Xa.lt
  have ypart0 : w21.cell? ⟨w12.heap.size, 0, none⟩ = some (.int .u64 (lo (partF f))) := Xpart.cell 0
  have ypart1 : w21.cell? ⟨w12.heap.size, 1, none⟩ = some (.int .u64 (hi (partF f))) := Xpart.cell 1
  have lpart := Xpart.lt
  go_wp2_with fail
  refine intro_world (R := fun W => Calls _ _ _ W _) (fun W21 hN => ?_)
  have dW21 : Ext w21 W21 := by rw [hN]; exact (Ext.refl _).alloc _
  have eW21 := hw21.trans dW21
  replace Xf := Xf.ext dW21
  replace Xpart := Xpart.ext dW21
  replace Xa := Xa.ext dW21
  replace Xb := Xb.ext dW21
  have Xx : BoxAt W21 w21.heap.size #[.int .u64 (lo (codeF f v)), .int .u64 (hi (codeF f v))] 35 := by rw [hN]; exact (BoxAt.new' rfl)
  clear hN
  clear ya0 ya1 la ypart0 ypart1 lpart
  refine Calls.mono (c4 W21) ?_
  rintro e w22 ⟨rfl, hb22⟩
  have hw22 := eW21.trans hb22
  replace Xf := Xf.ext hb22
  replace Xpart := Xpart.ext hb22
  replace Xa := Xa.ext hb22
  replace Xb := Xb.ext hb22
  replace Xx := Xx.ext hb22
  clear hb22 dW21 eW21
  clear c1 c2 c3 c4 hz
  have hwb := hd (fun (h : ¬ v = u) (h3 : f.kd = 0 ∨ f.kd = 2) => (by cases h1 : mzero (mless (codeF f v) (codeF f u)) with | false => rfl | true => exact absurd h3 (hcd.out h1 h) : mzero (mless (codeF f v) (codeF f u)) = false))
  clear hcd
  try dsimp only at c6
  by_cases hvu : v = u
  · rw [decide_eq_true hvu] at heq hve
    have hvn : (v != u) = false := by simp [hvu]
    try clear hwb
    clear hvu
    have ya0 : w22.cell? ⟨w19.heap.size, 0, none⟩ = some (.int .u64 (lo (codeF f v))) := Xa.cell 0
    have ya1 : w22.cell? ⟨w19.heap.size, 1, none⟩ = some (.int .u64 (hi (codeF f v))) := Xa.cell 1
    have la := Xa.lt
    have yb0 : w22.cell? ⟨w20.heap.size, 0, none⟩ = some (.int .u64 (lo (codeF f u))) := Xb.cell 0
    have yb1 : w22.cell? ⟨w20.heap.size, 1, none⟩ = some (.int .u64 (hi (codeF f u))) := Xb.cell 1
    have lb := Xb.lt
    have yx0 : w22.cell? ⟨w21.heap.size, 0, none⟩ = some (.int .u64 (lo (codeF f v))) := Xx.cell 0
    have yx1 : w22.cell? ⟨w21.heap.size, 1, none⟩ = some (.int .u64 (hi (codeF f v))) := Xx.cell 1
    have lx := Xx.lt
    have yf0 : w22.cell? ⟨w3.heap.size, 0, none⟩ = some (.string f.nm) := Xf.cell 0
    have yf1 : w22.cell? ⟨w3.heap.size, 1, none⟩ = some (.int .i8 f.kd) := Xf.cell 1
    have yf2 : w22.cell? ⟨w3.heap.size, 2, none⟩ = some (.int .i16 f.st) := Xf.cell 2
    have yf3 : w22.cell? ⟨w3.heap.size, 3, none⟩ = some (.int .i16 f.sz) := Xf.cell 3
    have lf := Xf.lt
    try clear c5
    go_wp2_with fail
    refine intro_world (R := fun W => Calls _ _ _ W _) (fun W22 hN => ?_)
    have dW22 : Ext w22 W22 := by rw [hN]; exact (Ext.refl _)
    have eW22 := hw22.trans dW22
    replace Xf := Xf.ext dW22
    replace Xpart := Xpart.ext dW22
    replace Xa := Xa.ext dW22
    replace Xb := Xb.ext dW22
    replace Xx := Xx.ext dW22
    clear hN
    clear ya0 ya1 la yb0 yb1 lb yx0 yx1 lx yf0 yf1 yf2 yf3 lf
    refine Calls.mono (spec_A2Mask cs A cap W22 (hR.ext eW22) (by omega)) ?_
    rintro e w23 ⟨cm, rfl, hcmk, hb23⟩
    have hw23 := eW22.trans hb23
    replace Xf := Xf.ext hb23
    replace Xpart := Xpart.ext hb23
    replace Xa := Xa.ext hb23
    replace Xb := Xb.ext hb23
    replace Xx := Xx.ext hb23
    clear hb23 dW22 eW22
    replace c6 := fun W => c6 cm hcmk W
    obtain ⟨dm, hdm⟩ : ∃ dm, putM f v cm = dm := ⟨_, rfl⟩
    have g1 := p1.out cm
    have g2 := p2.out cm
    have g3 := p3.out cm hcmk
    rw [hdm] at c6 g1 g2 g3
    have g4 := p4.out dm g1
    obtain ⟨em, hem⟩ : ∃ em, mless cm (partF f) = em := ⟨_, rfl⟩
    have g5 : isMaskB em = true := by rw [← hem]; exact sm_less hcmk
    have g6 : valueF f em = (0, 6) := valueF_zero (by rw [← hem]; exact less_none cm _)
    have c7 := fun W => impl_DecodeField f hf hin dm g3 W
    rw [g4] at c7
    have hcd2 : isCardB ⟨(⟨#[99, 97, 114, 100]⟩ : ByteArray), dm⟩ = true := by unfold isCardB; rw [g3]; exact Bool.and_true _ ▸ card_name
    have c8 := fun W => impl_ClearField ⟨(⟨#[99, 97, 114, 100]⟩ : ByteArray), dm⟩ hcd2 (show (4 : Nat) ≤ 9223372036854775807 by decide) f hf hin W
    try dsimp only at c8
    rw [g2, hem] at c8
    have c9 := fun W => impl_DecodeField f hf hin em g5 W
    rw [g6] at c9
    have c10 := fun W => impl_EncodeField_far f hf hin (mostF f + 1) (by omega) W
    have c11 := fun W => impl_LessMask dm (partF f) W
    have c12 := fun W => impl_LessMask cm (partF f) W
    rw [g2, hem] at c11
    rw [hem] at c12
    have c13 := fun W => impl_ValidCard ⟨(⟨#[99, 97, 114, 100]⟩ : ByteArray), dm⟩ (show (4 : Nat) ≤ 9223372036854775807 by decide) W
    rw [hcd2] at c13
    clear p1 p2 p3 p4 g1 g2 g3 g4 g5 g6 hdm hem hcd2
    have yf0 : w23.cell? ⟨w3.heap.size, 0, none⟩ = some (.string f.nm) := Xf.cell 0
    have yf1 : w23.cell? ⟨w3.heap.size, 1, none⟩ = some (.int .i8 f.kd) := Xf.cell 1
    have yf2 : w23.cell? ⟨w3.heap.size, 2, none⟩ = some (.int .i16 f.st) := Xf.cell 2
    have yf3 : w23.cell? ⟨w3.heap.size, 3, none⟩ = some (.int .i16 f.sz) := Xf.cell 3
    have lf := Xf.lt
    go_wp2_with fail
    refine intro_world (R := fun W => Calls _ _ _ W _) (fun W23 hN => ?_)
    have dW23 : Ext w23 W23 := by rw [hN]; exact (Ext.refl _).alloc _
    have eW23 := hw23.trans dW23
    replace Xf := Xf.ext dW23
    replace Xpart := Xpart.ext dW23
    replace Xa := Xa.ext dW23
    replace Xb := Xb.ext dW23
    replace Xx := Xx.ext dW23
    have Xc : BoxAt W23 w23.heap.size #[.string (⟨#[99, 97, 114, 100]⟩ : ByteArray), .int .u64 (lo cm), .int .u64 (hi cm)] 44 := by rw [hN]; exact (BoxAt.new' rfl)
    clear hN
    clear yf0 yf1 yf2 yf3 lf
    refine Calls.mono (c6 W23) ?_
    rintro e w24 ⟨rfl, hb24⟩
    have hw24 := eW23.trans hb24
    replace Xf := Xf.ext hb24
    replace Xpart := Xpart.ext hb24
    replace Xa := Xa.ext hb24
    replace Xb := Xb.ext hb24
    replace Xx := Xx.ext hb24
    replace Xc := Xc.ext hb24
    clear hb24 dW23 eW23
    have yf0 : w24.cell? ⟨w3.heap.size, 0, none⟩ = some (.string f.nm) := Xf.cell 0
    have yf1 : w24.cell? ⟨w3.heap.size, 1, none⟩ = some (.int .i8 f.kd) := Xf.cell 1
    have yf2 : w24.cell? ⟨w3.heap.size, 2, none⟩ = some (.int .i16 f.st) := Xf.cell 2
    have yf3 : w24.cell? ⟨w3.heap.size, 3, none⟩ = some (.int .i16 f.sz) := Xf.cell 3
    have lf := Xf.lt
    go_wp2_with fail
    refine intro_world (R := fun W => Calls _ _ _ W _) (fun W24 hN => ?_)
    have dW24 : Ext w24 W24 := by rw [hN]; exact (Ext.refl _).alloc _
    have eW24 := hw24.trans dW24
    replace Xf := Xf.ext dW24
    replace Xpart := Xpart.ext dW24
    replace Xa := Xa.ext dW24
    replace Xb := Xb.ext dW24
    replace Xx := Xx.ext dW24
    replace Xc := Xc.ext dW24
    have Xd : BoxAt W24 w24.heap.size #[.string (⟨#[99, 97, 114, 100]⟩ : ByteArray), .int .u64 (lo dm), .int .u64 (hi dm)] 44 := by rw [hN]; exact (BoxAt.new' rfl)
    clear hN
    clear yf0 yf1 yf2 yf3 lf
    refine Calls.mono (c7 W24) ?_
    rintro e w25 ⟨rfl, hb25⟩
    have hw25 := eW24.trans hb25
    replace Xf := Xf.ext hb25
    replace Xpart := Xpart.ext hb25
    replace Xa := Xa.ext hb25
    replace Xb := Xb.ext hb25
    replace Xx := Xx.ext hb25
    replace Xc := Xc.ext hb25
    replace Xd := Xd.ext hb25
    clear hb25 dW24 eW24
    have yd0 : w25.cell? ⟨w24.heap.size, 0, none⟩ = some (.string (⟨#[99, 97, 114, 100]⟩ : ByteArray)) := Xd.cell 0
    have yd1 : w25.cell? ⟨w24.heap.size, 1, none⟩ = some (.int .u64 (lo dm)) := Xd.cell 1
    have yd2 : w25.cell? ⟨w24.heap.size, 2, none⟩ = some (.int .u64 (hi dm)) := Xd.cell 2
    have ld := Xd.lt
    have yf0 : w25.cell? ⟨w3.heap.size, 0, none⟩ = some (.string f.nm) := Xf.cell 0
    have yf1 : w25.cell? ⟨w3.heap.size, 1, none⟩ = some (.int .i8 f.kd) := Xf.cell 1
    have yf2 : w25.cell? ⟨w3.heap.size, 2, none⟩ = some (.int .i16 f.st) := Xf.cell 2
    have yf3 : w25.cell? ⟨w3.heap.size, 3, none⟩ = some (.int .i16 f.sz) := Xf.cell 3
    have lf := Xf.lt
    go_wp2_with fail
    refine intro_world (R := fun W => Calls _ _ _ W _) (fun W25 hN => ?_)
    have dW25 : Ext w25 W25 := by rw [hN]; exact (Ext.refl _)
    have eW25 := hw25.trans dW25
    replace Xf := Xf.ext dW25
    replace Xpart := Xpart.ext dW25
    replace Xa := Xa.ext dW25
    replace Xb := Xb.ext dW25
    replace Xx := Xx.ext dW25
    replace Xc := Xc.ext dW25
    replace Xd := Xd.ext dW25
    clear hN
    clear yd0 yd1 yd2 ld yf0 yf1 yf2 yf3 lf
    refine Calls.mono (c8 W25) ?_
    rintro e w26 ⟨rfl, hb26⟩
    have hw26 := eW25.trans hb26
    replace Xf := Xf.ext hb26
    replace Xpart := Xpart.ext hb26
    replace Xa := Xa.ext hb26
    replace Xb := Xb.ext hb26
    replace Xx := Xx.ext hb26
    replace Xc := Xc.ext hb26
    replace Xd := Xd.ext hb26
    clear hb26 dW25 eW25
    have yf0 : w26.cell? ⟨w3.heap.size, 0, none⟩ = some (.string f.nm) := Xf.cell 0
    have yf1 : w26.cell? ⟨w3.heap.size, 1, none⟩ = some (.int .i8 f.kd) := Xf.cell 1
    have yf2 : w26.cell? ⟨w3.heap.size, 2, none⟩ = some (.int .i16 f.st) := Xf.cell 2
    have yf3 : w26.cell? ⟨w3.heap.size, 3, none⟩ = some (.int .i16 f.sz) := Xf.cell 3
    have lf := Xf.lt
    go_wp2_with fail
    refine intro_world (R := fun W => Calls _ _ _ W _) (fun W26 hN => ?_)
    have dW26 : Ext w26 W26 := by rw [hN]; exact (Ext.refl _).alloc _
    have eW26 := hw26.trans dW26
    replace Xf := Xf.ext dW26
    replace Xpart := Xpart.ext dW26
    replace Xa := Xa.ext dW26
    replace Xb := Xb.ext dW26
    replace Xx := Xx.ext dW26
    replace Xc := Xc.ext dW26
    replace Xd := Xd.ext dW26
    have Xe : BoxAt W26 w26.heap.size #[.string (⟨#[99, 97, 114, 100]⟩ : ByteArray), .int .u64 (lo em), .int .u64 (hi em)] 44 := by rw [hN]; exact (BoxAt.new' rfl)
    clear hN
    clear yf0 yf1 yf2 yf3 lf
    refine Calls.mono (c9 W26) ?_
    rintro e w27 ⟨rfl, hb27⟩
    have hw27 := eW26.trans hb27
    replace Xf := Xf.ext hb27
    replace Xpart := Xpart.ext hb27
    replace Xa := Xa.ext hb27
    replace Xb := Xb.ext hb27
    replace Xx := Xx.ext hb27
    replace Xc := Xc.ext hb27
    replace Xd := Xd.ext hb27
    replace Xe := Xe.ext hb27
    clear hb27 dW26 eW26
    have yf0 : w27.cell? ⟨w3.heap.size, 0, none⟩ = some (.string f.nm) := Xf.cell 0
    have yf1 : w27.cell? ⟨w3.heap.size, 1, none⟩ = some (.int .i8 f.kd) := Xf.cell 1
    have yf2 : w27.cell? ⟨w3.heap.size, 2, none⟩ = some (.int .i16 f.st) := Xf.cell 2
    have yf3 : w27.cell? ⟨w3.heap.size, 3, none⟩ = some (.int .i16 f.sz) := Xf.cell 3
    have lf := Xf.lt
    go_wp2_with fail
    refine intro_world (R := fun W => Calls _ _ _ W _) (fun W27 hN => ?_)
    have dW27 : Ext w27 W27 := by rw [hN]; exact (Ext.refl _)
    have eW27 := hw27.trans dW27
    replace Xf := Xf.ext dW27
    replace Xpart := Xpart.ext dW27
    replace Xa := Xa.ext dW27
    replace Xb := Xb.ext dW27
    replace Xx := Xx.ext dW27
    replace Xc := Xc.ext dW27
    replace Xd := Xd.ext dW27
    replace Xe := Xe.ext dW27
    clear hN
    clear yf0 yf1 yf2 yf3 lf
    refine Calls.mono (c10 W27) ?_
    rintro e w28 ⟨rfl, hb28⟩
    have hw28 := eW27.trans hb28
    replace Xf := Xf.ext hb28
    replace Xpart := Xpart.ext hb28
    replace Xa := Xa.ext hb28
    replace Xb := Xb.ext hb28
    replace Xx := Xx.ext hb28
    replace Xc := Xc.ext hb28
    replace Xd := Xd.ext hb28
    replace Xe := Xe.ext hb28
    clear hb28 dW27 eW27
    clear c6 c7 c8 c9 c10
    have yc0 : w28.cell? ⟨w23.heap.size, 0, none⟩ = some (.string (⟨#[99, 97, 114, 100]⟩ : ByteArray)) := Xc.cell 0
    have yc1 : w28.cell? ⟨w23.heap.size, 1, none⟩ = some (.int .u64 (lo cm)) := Xc.cell 1
    have yc2 : w28.cell? ⟨w23.heap.size, 2, none⟩ = some (.int .u64 (hi cm)) := Xc.cell 2
    have lc := Xc.lt
    have yd0 : w28.cell? ⟨w24.heap.size, 0, none⟩ = some (.string (⟨#[99, 97, 114, 100]⟩ : ByteArray)) := Xd.cell 0
    have yd1 : w28.cell? ⟨w24.heap.size, 1, none⟩ = some (.int .u64 (lo dm)) := Xd.cell 1
    have yd2 : w28.cell? ⟨w24.heap.size, 2, none⟩ = some (.int .u64 (hi dm)) := Xd.cell 2
    have ld := Xd.lt
    have ye0 : w28.cell? ⟨w26.heap.size, 0, none⟩ = some (.string (⟨#[99, 97, 114, 100]⟩ : ByteArray)) := Xe.cell 0
    have ye1 : w28.cell? ⟨w26.heap.size, 1, none⟩ = some (.int .u64 (lo em)) := Xe.cell 1
    have ye2 : w28.cell? ⟨w26.heap.size, 2, none⟩ = some (.int .u64 (hi em)) := Xe.cell 2
    have le := Xe.lt
    have ypart0 : w28.cell? ⟨w12.heap.size, 0, none⟩ = some (.int .u64 (lo (partF f))) := Xpart.cell 0
    have ypart1 : w28.cell? ⟨w12.heap.size, 1, none⟩ = some (.int .u64 (hi (partF f))) := Xpart.cell 1
    have lpart := Xpart.lt
    have yf0 : w28.cell? ⟨w3.heap.size, 0, none⟩ = some (.string f.nm) := Xf.cell 0
    have yf1 : w28.cell? ⟨w3.heap.size, 1, none⟩ = some (.int .i8 f.kd) := Xf.cell 1
    have yf2 : w28.cell? ⟨w3.heap.size, 2, none⟩ = some (.int .i16 f.st) := Xf.cell 2
    have yf3 : w28.cell? ⟨w3.heap.size, 3, none⟩ = some (.int .i16 f.sz) := Xf.cell 3
    have lf := Xf.lt
    go_wp2
    refine wp_region_ext (by kernel_rfl) (by kernel_rfl) ?_
    repeat (first | go_big_quiet_step ((first | (go_at_call 20; with_reducible exact Calls.ext_of (c11 _)) | (go_at_call 20; with_reducible exact Calls.ext_of (c12 _)) | (go_at_call 21; with_reducible exact Calls.ext_of (c13 _)))) | quiet_step ((first | (go_at_call 20; with_reducible exact Calls.ext_of (c11 _)) | (go_at_call 20; with_reducible exact Calls.ext_of (c12 _)) | (go_at_call 21; with_reducible exact Calls.ext_of (c13 _)))))
    refine wpQuiet_nil ?_
    intro w99 hq99
    have hb99 := ext_of_class hq99
    clear hq99
    obtain ⟨hc99, hf99, hz99⟩ := bcell3 hb99
    try simp at hz99
    go_wp2
    go_ret
    exact ⟨rfl, (hw28.alloc _).trans hb99⟩
  · rw [decide_eq_false hvu] at heq hve
    have hvn : (v != u) = true := by simp [hvu]
    by_cases k0 : f.kd = 0
    · have hwb := hwb.out hvu (.inl k0)
      have e0 : (f.kd == 0) = true := by simp [k0]
      clear k0
      rw [hwb] at c5
      clear hvu
      have ya0 : w22.cell? ⟨w19.heap.size, 0, none⟩ = some (.int .u64 (lo (codeF f v))) := Xa.cell 0
      have ya1 : w22.cell? ⟨w19.heap.size, 1, none⟩ = some (.int .u64 (hi (codeF f v))) := Xa.cell 1
      have la := Xa.lt
      have yb0 : w22.cell? ⟨w20.heap.size, 0, none⟩ = some (.int .u64 (lo (codeF f u))) := Xb.cell 0
      have yb1 : w22.cell? ⟨w20.heap.size, 1, none⟩ = some (.int .u64 (hi (codeF f u))) := Xb.cell 1
      have lb := Xb.lt
      have yx0 : w22.cell? ⟨w21.heap.size, 0, none⟩ = some (.int .u64 (lo (codeF f v))) := Xx.cell 0
      have yx1 : w22.cell? ⟨w21.heap.size, 1, none⟩ = some (.int .u64 (hi (codeF f v))) := Xx.cell 1
      have lx := Xx.lt
      have yf0 : w22.cell? ⟨w3.heap.size, 0, none⟩ = some (.string f.nm) := Xf.cell 0
      have yf1 : w22.cell? ⟨w3.heap.size, 1, none⟩ = some (.int .i8 f.kd) := Xf.cell 1
      have yf2 : w22.cell? ⟨w3.heap.size, 2, none⟩ = some (.int .i16 f.st) := Xf.cell 2
      have yf3 : w22.cell? ⟨w3.heap.size, 3, none⟩ = some (.int .i16 f.sz) := Xf.cell 3
      have lf := Xf.lt
      go_wp2_with fail
      refine intro_world (R := fun W => Calls _ _ _ W _) (fun W22 hN => ?_)
      have dW22 : Ext w22 W22 := by rw [hN]; exact (Ext.refl _)
      have eW22 := hw22.trans dW22
      replace Xf := Xf.ext dW22
      replace Xpart := Xpart.ext dW22
      replace Xa := Xa.ext dW22
      replace Xb := Xb.ext dW22
      replace Xx := Xx.ext dW22
      clear hN
      clear ya0 ya1 la yb0 yb1 lb yx0 yx1 lx yf0 yf1 yf2 yf3 lf
      refine Calls.mono (c5 W22) ?_
      rintro e w23 ⟨rfl, hb23⟩
      have hw23 := eW22.trans hb23
      replace Xf := Xf.ext hb23
      replace Xpart := Xpart.ext hb23
      replace Xa := Xa.ext hb23
      replace Xb := Xb.ext hb23
      replace Xx := Xx.ext hb23
      clear hb23 dW22 eW22
      try clear c5
      go_wp2_with fail
      refine intro_world (R := fun W => Calls _ _ _ W _) (fun W23 hN => ?_)
      have dW23 : Ext w23 W23 := by rw [hN]; exact (Ext.refl _)
      have eW23 := hw23.trans dW23
      replace Xf := Xf.ext dW23
      replace Xpart := Xpart.ext dW23
      replace Xa := Xa.ext dW23
      replace Xb := Xb.ext dW23
      replace Xx := Xx.ext dW23
      clear hN
      refine Calls.mono (spec_A2Mask cs A cap W23 (hR.ext eW23) (by omega)) ?_
      rintro e w24 ⟨cm, rfl, hcmk, hb24⟩
      have hw24 := eW23.trans hb24
      replace Xf := Xf.ext hb24
      replace Xpart := Xpart.ext hb24
      replace Xa := Xa.ext hb24
      replace Xb := Xb.ext hb24
      replace Xx := Xx.ext hb24
      clear hb24 dW23 eW23
      replace c6 := fun W => c6 cm hcmk W
      obtain ⟨dm, hdm⟩ : ∃ dm, putM f v cm = dm := ⟨_, rfl⟩
      have g1 := p1.out cm
      have g2 := p2.out cm
      have g3 := p3.out cm hcmk
      rw [hdm] at c6 g1 g2 g3
      have g4 := p4.out dm g1
      obtain ⟨em, hem⟩ : ∃ em, mless cm (partF f) = em := ⟨_, rfl⟩
      have g5 : isMaskB em = true := by rw [← hem]; exact sm_less hcmk
      have g6 : valueF f em = (0, 6) := valueF_zero (by rw [← hem]; exact less_none cm _)
      have c7 := fun W => impl_DecodeField f hf hin dm g3 W
      rw [g4] at c7
      have hcd2 : isCardB ⟨(⟨#[99, 97, 114, 100]⟩ : ByteArray), dm⟩ = true := by unfold isCardB; rw [g3]; exact Bool.and_true _ ▸ card_name
      have c8 := fun W => impl_ClearField ⟨(⟨#[99, 97, 114, 100]⟩ : ByteArray), dm⟩ hcd2 (show (4 : Nat) ≤ 9223372036854775807 by decide) f hf hin W
      try dsimp only at c8
      rw [g2, hem] at c8
      have c9 := fun W => impl_DecodeField f hf hin em g5 W
      rw [g6] at c9
      have c10 := fun W => impl_EncodeField_far f hf hin (mostF f + 1) (by omega) W
      have c11 := fun W => impl_LessMask dm (partF f) W
      have c12 := fun W => impl_LessMask cm (partF f) W
      rw [g2, hem] at c11
      rw [hem] at c12
      have c13 := fun W => impl_ValidCard ⟨(⟨#[99, 97, 114, 100]⟩ : ByteArray), dm⟩ (show (4 : Nat) ≤ 9223372036854775807 by decide) W
      rw [hcd2] at c13
      clear p1 p2 p3 p4 g1 g2 g3 g4 g5 g6 hdm hem hcd2
      have yf0 : w24.cell? ⟨w3.heap.size, 0, none⟩ = some (.string f.nm) := Xf.cell 0
      have yf1 : w24.cell? ⟨w3.heap.size, 1, none⟩ = some (.int .i8 f.kd) := Xf.cell 1
      have yf2 : w24.cell? ⟨w3.heap.size, 2, none⟩ = some (.int .i16 f.st) := Xf.cell 2
      have yf3 : w24.cell? ⟨w3.heap.size, 3, none⟩ = some (.int .i16 f.sz) := Xf.cell 3
      have lf := Xf.lt
      go_wp2_with fail
      refine intro_world (R := fun W => Calls _ _ _ W _) (fun W24 hN => ?_)
      have dW24 : Ext w24 W24 := by rw [hN]; exact (Ext.refl _).alloc _
      have eW24 := hw24.trans dW24
      replace Xf := Xf.ext dW24
      replace Xpart := Xpart.ext dW24
      replace Xa := Xa.ext dW24
      replace Xb := Xb.ext dW24
      replace Xx := Xx.ext dW24
      have Xc : BoxAt W24 w24.heap.size #[.string (⟨#[99, 97, 114, 100]⟩ : ByteArray), .int .u64 (lo cm), .int .u64 (hi cm)] 44 := by rw [hN]; exact (BoxAt.new' rfl)
      clear hN
      clear yf0 yf1 yf2 yf3 lf
      refine Calls.mono (c6 W24) ?_
      rintro e w25 ⟨rfl, hb25⟩
      have hw25 := eW24.trans hb25
      replace Xf := Xf.ext hb25
      replace Xpart := Xpart.ext hb25
      replace Xa := Xa.ext hb25
      replace Xb := Xb.ext hb25
      replace Xx := Xx.ext hb25
      replace Xc := Xc.ext hb25
      clear hb25 dW24 eW24
      have yf0 : w25.cell? ⟨w3.heap.size, 0, none⟩ = some (.string f.nm) := Xf.cell 0
      have yf1 : w25.cell? ⟨w3.heap.size, 1, none⟩ = some (.int .i8 f.kd) := Xf.cell 1
      have yf2 : w25.cell? ⟨w3.heap.size, 2, none⟩ = some (.int .i16 f.st) := Xf.cell 2
      have yf3 : w25.cell? ⟨w3.heap.size, 3, none⟩ = some (.int .i16 f.sz) := Xf.cell 3
      have lf := Xf.lt
      go_wp2_with fail
      refine intro_world (R := fun W => Calls _ _ _ W _) (fun W25 hN => ?_)
      have dW25 : Ext w25 W25 := by rw [hN]; exact (Ext.refl _).alloc _
      have eW25 := hw25.trans dW25
      replace Xf := Xf.ext dW25
      replace Xpart := Xpart.ext dW25
      replace Xa := Xa.ext dW25
      replace Xb := Xb.ext dW25
      replace Xx := Xx.ext dW25
      replace Xc := Xc.ext dW25
      have Xd : BoxAt W25 w25.heap.size #[.string (⟨#[99, 97, 114, 100]⟩ : ByteArray), .int .u64 (lo dm), .int .u64 (hi dm)] 44 := by rw [hN]; exact (BoxAt.new' rfl)
      clear hN
      clear yf0 yf1 yf2 yf3 lf
      refine Calls.mono (c7 W25) ?_
      rintro e w26 ⟨rfl, hb26⟩
      have hw26 := eW25.trans hb26
      replace Xf := Xf.ext hb26
      replace Xpart := Xpart.ext hb26
      replace Xa := Xa.ext hb26
      replace Xb := Xb.ext hb26
      replace Xx := Xx.ext hb26
      replace Xc := Xc.ext hb26
      replace Xd := Xd.ext hb26
      clear hb26 dW25 eW25
      have yd0 : w26.cell? ⟨w25.heap.size, 0, none⟩ = some (.string (⟨#[99, 97, 114, 100]⟩ : ByteArray)) := Xd.cell 0
      have yd1 : w26.cell? ⟨w25.heap.size, 1, none⟩ = some (.int .u64 (lo dm)) := Xd.cell 1
      have yd2 : w26.cell? ⟨w25.heap.size, 2, none⟩ = some (.int .u64 (hi dm)) := Xd.cell 2
      have ld := Xd.lt
      have yf0 : w26.cell? ⟨w3.heap.size, 0, none⟩ = some (.string f.nm) := Xf.cell 0
      have yf1 : w26.cell? ⟨w3.heap.size, 1, none⟩ = some (.int .i8 f.kd) := Xf.cell 1
      have yf2 : w26.cell? ⟨w3.heap.size, 2, none⟩ = some (.int .i16 f.st) := Xf.cell 2
      have yf3 : w26.cell? ⟨w3.heap.size, 3, none⟩ = some (.int .i16 f.sz) := Xf.cell 3
      have lf := Xf.lt
      go_wp2_with fail
      refine intro_world (R := fun W => Calls _ _ _ W _) (fun W26 hN => ?_)
      have dW26 : Ext w26 W26 := by rw [hN]; exact (Ext.refl _)
      have eW26 := hw26.trans dW26
      replace Xf := Xf.ext dW26
      replace Xpart := Xpart.ext dW26
      replace Xa := Xa.ext dW26
      replace Xb := Xb.ext dW26
      replace Xx := Xx.ext dW26
      replace Xc := Xc.ext dW26
      replace Xd := Xd.ext dW26
      clear hN
      clear yd0 yd1 yd2 ld yf0 yf1 yf2 yf3 lf
      refine Calls.mono (c8 W26) ?_
      rintro e w27 ⟨rfl, hb27⟩
      have hw27 := eW26.trans hb27
      replace Xf := Xf.ext hb27
      replace Xpart := Xpart.ext hb27
      replace Xa := Xa.ext hb27
      replace Xb := Xb.ext hb27
      replace Xx := Xx.ext hb27
      replace Xc := Xc.ext hb27
      replace Xd := Xd.ext hb27
      clear hb27 dW26 eW26
      have yf0 : w27.cell? ⟨w3.heap.size, 0, none⟩ = some (.string f.nm) := Xf.cell 0
      have yf1 : w27.cell? ⟨w3.heap.size, 1, none⟩ = some (.int .i8 f.kd) := Xf.cell 1
      have yf2 : w27.cell? ⟨w3.heap.size, 2, none⟩ = some (.int .i16 f.st) := Xf.cell 2
      have yf3 : w27.cell? ⟨w3.heap.size, 3, none⟩ = some (.int .i16 f.sz) := Xf.cell 3
      have lf := Xf.lt
      go_wp2_with fail
      refine intro_world (R := fun W => Calls _ _ _ W _) (fun W27 hN => ?_)
      have dW27 : Ext w27 W27 := by rw [hN]; exact (Ext.refl _).alloc _
      have eW27 := hw27.trans dW27
      replace Xf := Xf.ext dW27
      replace Xpart := Xpart.ext dW27
      replace Xa := Xa.ext dW27
      replace Xb := Xb.ext dW27
      replace Xx := Xx.ext dW27
      replace Xc := Xc.ext dW27
      replace Xd := Xd.ext dW27
      have Xe : BoxAt W27 w27.heap.size #[.string (⟨#[99, 97, 114, 100]⟩ : ByteArray), .int .u64 (lo em), .int .u64 (hi em)] 44 := by rw [hN]; exact (BoxAt.new' rfl)
      clear hN
      clear yf0 yf1 yf2 yf3 lf
      refine Calls.mono (c9 W27) ?_
      rintro e w28 ⟨rfl, hb28⟩
      have hw28 := eW27.trans hb28
      replace Xf := Xf.ext hb28
      replace Xpart := Xpart.ext hb28
      replace Xa := Xa.ext hb28
      replace Xb := Xb.ext hb28
      replace Xx := Xx.ext hb28
      replace Xc := Xc.ext hb28
      replace Xd := Xd.ext hb28
      replace Xe := Xe.ext hb28
      clear hb28 dW27 eW27
      have yf0 : w28.cell? ⟨w3.heap.size, 0, none⟩ = some (.string f.nm) := Xf.cell 0
      have yf1 : w28.cell? ⟨w3.heap.size, 1, none⟩ = some (.int .i8 f.kd) := Xf.cell 1
      have yf2 : w28.cell? ⟨w3.heap.size, 2, none⟩ = some (.int .i16 f.st) := Xf.cell 2
      have yf3 : w28.cell? ⟨w3.heap.size, 3, none⟩ = some (.int .i16 f.sz) := Xf.cell 3
      have lf := Xf.lt
      go_wp2_with fail
      refine intro_world (R := fun W => Calls _ _ _ W _) (fun W28 hN => ?_)
      have dW28 : Ext w28 W28 := by rw [hN]; exact (Ext.refl _)
      have eW28 := hw28.trans dW28
      replace Xf := Xf.ext dW28
      replace Xpart := Xpart.ext dW28
      replace Xa := Xa.ext dW28
      replace Xb := Xb.ext dW28
      replace Xx := Xx.ext dW28
      replace Xc := Xc.ext dW28
      replace Xd := Xd.ext dW28
      replace Xe := Xe.ext dW28
      clear hN
      clear yf0 yf1 yf2 yf3 lf
      refine Calls.mono (c10 W28) ?_
      rintro e w29 ⟨rfl, hb29⟩
      have hw29 := eW28.trans hb29
      replace Xf := Xf.ext hb29
      replace Xpart := Xpart.ext hb29
      replace Xa := Xa.ext hb29
      replace Xb := Xb.ext hb29
      replace Xx := Xx.ext hb29
      replace Xc := Xc.ext hb29
      replace Xd := Xd.ext hb29
      replace Xe := Xe.ext hb29
      clear hb29 dW28 eW28
      clear c6 c7 c8 c9 c10
      have yc0 : w29.cell? ⟨w24.heap.size, 0, none⟩ = some (.string (⟨#[99, 97, 114, 100]⟩ : ByteArray)) := Xc.cell 0
      have yc1 : w29.cell? ⟨w24.heap.size, 1, none⟩ = some (.int .u64 (lo cm)) := Xc.cell 1
      have yc2 : w29.cell? ⟨w24.heap.size, 2, none⟩ = some (.int .u64 (hi cm)) := Xc.cell 2
      have lc := Xc.lt
      have yd0 : w29.cell? ⟨w25.heap.size, 0, none⟩ = some (.string (⟨#[99, 97, 114, 100]⟩ : ByteArray)) := Xd.cell 0
      have yd1 : w29.cell? ⟨w25.heap.size, 1, none⟩ = some (.int .u64 (lo dm)) := Xd.cell 1
      have yd2 : w29.cell? ⟨w25.heap.size, 2, none⟩ = some (.int .u64 (hi dm)) := Xd.cell 2
      have ld := Xd.lt
      have ye0 : w29.cell? ⟨w27.heap.size, 0, none⟩ = some (.string (⟨#[99, 97, 114, 100]⟩ : ByteArray)) := Xe.cell 0
      have ye1 : w29.cell? ⟨w27.heap.size, 1, none⟩ = some (.int .u64 (lo em)) := Xe.cell 1
      have ye2 : w29.cell? ⟨w27.heap.size, 2, none⟩ = some (.int .u64 (hi em)) := Xe.cell 2
      have le := Xe.lt
      have ypart0 : w29.cell? ⟨w12.heap.size, 0, none⟩ = some (.int .u64 (lo (partF f))) := Xpart.cell 0
      have ypart1 : w29.cell? ⟨w12.heap.size, 1, none⟩ = some (.int .u64 (hi (partF f))) := Xpart.cell 1
      have lpart := Xpart.lt
      have yf0 : w29.cell? ⟨w3.heap.size, 0, none⟩ = some (.string f.nm) := Xf.cell 0
      have yf1 : w29.cell? ⟨w3.heap.size, 1, none⟩ = some (.int .i8 f.kd) := Xf.cell 1
      have yf2 : w29.cell? ⟨w3.heap.size, 2, none⟩ = some (.int .i16 f.st) := Xf.cell 2
      have yf3 : w29.cell? ⟨w3.heap.size, 3, none⟩ = some (.int .i16 f.sz) := Xf.cell 3
      have lf := Xf.lt
      go_wp2
      refine wp_region_ext (by kernel_rfl) (by kernel_rfl) ?_
      repeat (first | go_big_quiet_step ((first | (go_at_call 20; with_reducible exact Calls.ext_of (c11 _)) | (go_at_call 20; with_reducible exact Calls.ext_of (c12 _)) | (go_at_call 21; with_reducible exact Calls.ext_of (c13 _)))) | quiet_step ((first | (go_at_call 20; with_reducible exact Calls.ext_of (c11 _)) | (go_at_call 20; with_reducible exact Calls.ext_of (c12 _)) | (go_at_call 21; with_reducible exact Calls.ext_of (c13 _)))))
      refine wpQuiet_nil ?_
      intro w99 hq99
      have hb99 := ext_of_class hq99
      clear hq99
      obtain ⟨hc99, hf99, hz99⟩ := bcell3 hb99
      try simp at hz99
      go_wp2
      go_ret
      exact ⟨rfl, (hw29.alloc _).trans hb99⟩
    by_cases k2 : f.kd = 2
    · have hwb := hwb.out hvu (.inr k2)
      have e0 : (f.kd == 0) = false := by simp [k2]
      have e1 : (f.kd == 2) = true := by simp [k2]
      clear k0 k2
      rw [hwb] at c5
      clear hvu
      have ya0 : w22.cell? ⟨w19.heap.size, 0, none⟩ = some (.int .u64 (lo (codeF f v))) := Xa.cell 0
      have ya1 : w22.cell? ⟨w19.heap.size, 1, none⟩ = some (.int .u64 (hi (codeF f v))) := Xa.cell 1
      have la := Xa.lt
      have yb0 : w22.cell? ⟨w20.heap.size, 0, none⟩ = some (.int .u64 (lo (codeF f u))) := Xb.cell 0
      have yb1 : w22.cell? ⟨w20.heap.size, 1, none⟩ = some (.int .u64 (hi (codeF f u))) := Xb.cell 1
      have lb := Xb.lt
      have yx0 : w22.cell? ⟨w21.heap.size, 0, none⟩ = some (.int .u64 (lo (codeF f v))) := Xx.cell 0
      have yx1 : w22.cell? ⟨w21.heap.size, 1, none⟩ = some (.int .u64 (hi (codeF f v))) := Xx.cell 1
      have lx := Xx.lt
      have yf0 : w22.cell? ⟨w3.heap.size, 0, none⟩ = some (.string f.nm) := Xf.cell 0
      have yf1 : w22.cell? ⟨w3.heap.size, 1, none⟩ = some (.int .i8 f.kd) := Xf.cell 1
      have yf2 : w22.cell? ⟨w3.heap.size, 2, none⟩ = some (.int .i16 f.st) := Xf.cell 2
      have yf3 : w22.cell? ⟨w3.heap.size, 3, none⟩ = some (.int .i16 f.sz) := Xf.cell 3
      have lf := Xf.lt
      go_wp2_with fail
      refine intro_world (R := fun W => Calls _ _ _ W _) (fun W22 hN => ?_)
      have dW22 : Ext w22 W22 := by rw [hN]; exact (Ext.refl _)
      have eW22 := hw22.trans dW22
      replace Xf := Xf.ext dW22
      replace Xpart := Xpart.ext dW22
      replace Xa := Xa.ext dW22
      replace Xb := Xb.ext dW22
      replace Xx := Xx.ext dW22
      clear hN
      clear ya0 ya1 la yb0 yb1 lb yx0 yx1 lx yf0 yf1 yf2 yf3 lf
      refine Calls.mono (c5 W22) ?_
      rintro e w23 ⟨rfl, hb23⟩
      have hw23 := eW22.trans hb23
      replace Xf := Xf.ext hb23
      replace Xpart := Xpart.ext hb23
      replace Xa := Xa.ext hb23
      replace Xb := Xb.ext hb23
      replace Xx := Xx.ext hb23
      clear hb23 dW22 eW22
      try clear c5
      go_wp2_with fail
      refine intro_world (R := fun W => Calls _ _ _ W _) (fun W23 hN => ?_)
      have dW23 : Ext w23 W23 := by rw [hN]; exact (Ext.refl _)
      have eW23 := hw23.trans dW23
      replace Xf := Xf.ext dW23
      replace Xpart := Xpart.ext dW23
      replace Xa := Xa.ext dW23
      replace Xb := Xb.ext dW23
      replace Xx := Xx.ext dW23
      clear hN
      refine Calls.mono (spec_A2Mask cs A cap W23 (hR.ext eW23) (by omega)) ?_
      rintro e w24 ⟨cm, rfl, hcmk, hb24⟩
      have hw24 := eW23.trans hb24
      replace Xf := Xf.ext hb24
      replace Xpart := Xpart.ext hb24
      replace Xa := Xa.ext hb24
      replace Xb := Xb.ext hb24
      replace Xx := Xx.ext hb24
      clear hb24 dW23 eW23
      replace c6 := fun W => c6 cm hcmk W
      obtain ⟨dm, hdm⟩ : ∃ dm, putM f v cm = dm := ⟨_, rfl⟩
      have g1 := p1.out cm
      have g2 := p2.out cm
      have g3 := p3.out cm hcmk
      rw [hdm] at c6 g1 g2 g3
      have g4 := p4.out dm g1
      obtain ⟨em, hem⟩ : ∃ em, mless cm (partF f) = em := ⟨_, rfl⟩
      have g5 : isMaskB em = true := by rw [← hem]; exact sm_less hcmk
      have g6 : valueF f em = (0, 6) := valueF_zero (by rw [← hem]; exact less_none cm _)
      have c7 := fun W => impl_DecodeField f hf hin dm g3 W
      rw [g4] at c7
      have hcd2 : isCardB ⟨(⟨#[99, 97, 114, 100]⟩ : ByteArray), dm⟩ = true := by unfold isCardB; rw [g3]; exact Bool.and_true _ ▸ card_name
      have c8 := fun W => impl_ClearField ⟨(⟨#[99, 97, 114, 100]⟩ : ByteArray), dm⟩ hcd2 (show (4 : Nat) ≤ 9223372036854775807 by decide) f hf hin W
      try dsimp only at c8
      rw [g2, hem] at c8
      have c9 := fun W => impl_DecodeField f hf hin em g5 W
      rw [g6] at c9
      have c10 := fun W => impl_EncodeField_far f hf hin (mostF f + 1) (by omega) W
      have c11 := fun W => impl_LessMask dm (partF f) W
      have c12 := fun W => impl_LessMask cm (partF f) W
      rw [g2, hem] at c11
      rw [hem] at c12
      have c13 := fun W => impl_ValidCard ⟨(⟨#[99, 97, 114, 100]⟩ : ByteArray), dm⟩ (show (4 : Nat) ≤ 9223372036854775807 by decide) W
      rw [hcd2] at c13
      clear p1 p2 p3 p4 g1 g2 g3 g4 g5 g6 hdm hem hcd2
      have yf0 : w24.cell? ⟨w3.heap.size, 0, none⟩ = some (.string f.nm) := Xf.cell 0
      have yf1 : w24.cell? ⟨w3.heap.size, 1, none⟩ = some (.int .i8 f.kd) := Xf.cell 1
      have yf2 : w24.cell? ⟨w3.heap.size, 2, none⟩ = some (.int .i16 f.st) := Xf.cell 2
      have yf3 : w24.cell? ⟨w3.heap.size, 3, none⟩ = some (.int .i16 f.sz) := Xf.cell 3
      have lf := Xf.lt
      go_wp2_with fail
      refine intro_world (R := fun W => Calls _ _ _ W _) (fun W24 hN => ?_)
      have dW24 : Ext w24 W24 := by rw [hN]; exact (Ext.refl _).alloc _
      have eW24 := hw24.trans dW24
      replace Xf := Xf.ext dW24
      replace Xpart := Xpart.ext dW24
      replace Xa := Xa.ext dW24
      replace Xb := Xb.ext dW24
      replace Xx := Xx.ext dW24
      have Xc : BoxAt W24 w24.heap.size #[.string (⟨#[99, 97, 114, 100]⟩ : ByteArray), .int .u64 (lo cm), .int .u64 (hi cm)] 44 := by rw [hN]; exact (BoxAt.new' rfl)
      clear hN
      clear yf0 yf1 yf2 yf3 lf
      refine Calls.mono (c6 W24) ?_
      rintro e w25 ⟨rfl, hb25⟩
      have hw25 := eW24.trans hb25
      replace Xf := Xf.ext hb25
      replace Xpart := Xpart.ext hb25
      replace Xa := Xa.ext hb25
      replace Xb := Xb.ext hb25
      replace Xx := Xx.ext hb25
      replace Xc := Xc.ext hb25
      clear hb25 dW24 eW24
      have yf0 : w25.cell? ⟨w3.heap.size, 0, none⟩ = some (.string f.nm) := Xf.cell 0
      have yf1 : w25.cell? ⟨w3.heap.size, 1, none⟩ = some (.int .i8 f.kd) := Xf.cell 1
      have yf2 : w25.cell? ⟨w3.heap.size, 2, none⟩ = some (.int .i16 f.st) := Xf.cell 2
      have yf3 : w25.cell? ⟨w3.heap.size, 3, none⟩ = some (.int .i16 f.sz) := Xf.cell 3
      have lf := Xf.lt
      go_wp2_with fail
      refine intro_world (R := fun W => Calls _ _ _ W _) (fun W25 hN => ?_)
      have dW25 : Ext w25 W25 := by rw [hN]; exact (Ext.refl _).alloc _
      have eW25 := hw25.trans dW25
      replace Xf := Xf.ext dW25
      replace Xpart := Xpart.ext dW25
      replace Xa := Xa.ext dW25
      replace Xb := Xb.ext dW25
      replace Xx := Xx.ext dW25
      replace Xc := Xc.ext dW25
      have Xd : BoxAt W25 w25.heap.size #[.string (⟨#[99, 97, 114, 100]⟩ : ByteArray), .int .u64 (lo dm), .int .u64 (hi dm)] 44 := by rw [hN]; exact (BoxAt.new' rfl)
      clear hN
      clear yf0 yf1 yf2 yf3 lf
      refine Calls.mono (c7 W25) ?_
      rintro e w26 ⟨rfl, hb26⟩
      have hw26 := eW25.trans hb26
      replace Xf := Xf.ext hb26
      replace Xpart := Xpart.ext hb26
      replace Xa := Xa.ext hb26
      replace Xb := Xb.ext hb26
      replace Xx := Xx.ext hb26
      replace Xc := Xc.ext hb26
      replace Xd := Xd.ext hb26
      clear hb26 dW25 eW25
      have yd0 : w26.cell? ⟨w25.heap.size, 0, none⟩ = some (.string (⟨#[99, 97, 114, 100]⟩ : ByteArray)) := Xd.cell 0
      have yd1 : w26.cell? ⟨w25.heap.size, 1, none⟩ = some (.int .u64 (lo dm)) := Xd.cell 1
      have yd2 : w26.cell? ⟨w25.heap.size, 2, none⟩ = some (.int .u64 (hi dm)) := Xd.cell 2
      have ld := Xd.lt
      have yf0 : w26.cell? ⟨w3.heap.size, 0, none⟩ = some (.string f.nm) := Xf.cell 0
      have yf1 : w26.cell? ⟨w3.heap.size, 1, none⟩ = some (.int .i8 f.kd) := Xf.cell 1
      have yf2 : w26.cell? ⟨w3.heap.size, 2, none⟩ = some (.int .i16 f.st) := Xf.cell 2
      have yf3 : w26.cell? ⟨w3.heap.size, 3, none⟩ = some (.int .i16 f.sz) := Xf.cell 3
      have lf := Xf.lt
      go_wp2_with fail
      refine intro_world (R := fun W => Calls _ _ _ W _) (fun W26 hN => ?_)
      have dW26 : Ext w26 W26 := by rw [hN]; exact (Ext.refl _)
      have eW26 := hw26.trans dW26
      replace Xf := Xf.ext dW26
      replace Xpart := Xpart.ext dW26
      replace Xa := Xa.ext dW26
      replace Xb := Xb.ext dW26
      replace Xx := Xx.ext dW26
      replace Xc := Xc.ext dW26
      replace Xd := Xd.ext dW26
      clear hN
      clear yd0 yd1 yd2 ld yf0 yf1 yf2 yf3 lf
      refine Calls.mono (c8 W26) ?_
      rintro e w27 ⟨rfl, hb27⟩
      have hw27 := eW26.trans hb27
      replace Xf := Xf.ext hb27
      replace Xpart := Xpart.ext hb27
      replace Xa := Xa.ext hb27
      replace Xb := Xb.ext hb27
      replace Xx := Xx.ext hb27
      replace Xc := Xc.ext hb27
      replace Xd := Xd.ext hb27
      clear hb27 dW26 eW26
      have yf0 : w27.cell? ⟨w3.heap.size, 0, none⟩ = some (.string f.nm) := Xf.cell 0
      have yf1 : w27.cell? ⟨w3.heap.size, 1, none⟩ = some (.int .i8 f.kd) := Xf.cell 1
      have yf2 : w27.cell? ⟨w3.heap.size, 2, none⟩ = some (.int .i16 f.st) := Xf.cell 2
      have yf3 : w27.cell? ⟨w3.heap.size, 3, none⟩ = some (.int .i16 f.sz) := Xf.cell 3
      have lf := Xf.lt
      go_wp2_with fail
      refine intro_world (R := fun W => Calls _ _ _ W _) (fun W27 hN => ?_)
      have dW27 : Ext w27 W27 := by rw [hN]; exact (Ext.refl _).alloc _
      have eW27 := hw27.trans dW27
      replace Xf := Xf.ext dW27
      replace Xpart := Xpart.ext dW27
      replace Xa := Xa.ext dW27
      replace Xb := Xb.ext dW27
      replace Xx := Xx.ext dW27
      replace Xc := Xc.ext dW27
      replace Xd := Xd.ext dW27
      have Xe : BoxAt W27 w27.heap.size #[.string (⟨#[99, 97, 114, 100]⟩ : ByteArray), .int .u64 (lo em), .int .u64 (hi em)] 44 := by rw [hN]; exact (BoxAt.new' rfl)
      clear hN
      clear yf0 yf1 yf2 yf3 lf
      refine Calls.mono (c9 W27) ?_
      rintro e w28 ⟨rfl, hb28⟩
      have hw28 := eW27.trans hb28
      replace Xf := Xf.ext hb28
      replace Xpart := Xpart.ext hb28
      replace Xa := Xa.ext hb28
      replace Xb := Xb.ext hb28
      replace Xx := Xx.ext hb28
      replace Xc := Xc.ext hb28
      replace Xd := Xd.ext hb28
      replace Xe := Xe.ext hb28
      clear hb28 dW27 eW27
      have yf0 : w28.cell? ⟨w3.heap.size, 0, none⟩ = some (.string f.nm) := Xf.cell 0
      have yf1 : w28.cell? ⟨w3.heap.size, 1, none⟩ = some (.int .i8 f.kd) := Xf.cell 1
      have yf2 : w28.cell? ⟨w3.heap.size, 2, none⟩ = some (.int .i16 f.st) := Xf.cell 2
      have yf3 : w28.cell? ⟨w3.heap.size, 3, none⟩ = some (.int .i16 f.sz) := Xf.cell 3
      have lf := Xf.lt
      go_wp2_with fail
      refine intro_world (R := fun W => Calls _ _ _ W _) (fun W28 hN => ?_)
      have dW28 : Ext w28 W28 := by rw [hN]; exact (Ext.refl _)
      have eW28 := hw28.trans dW28
      replace Xf := Xf.ext dW28
      replace Xpart := Xpart.ext dW28
      replace Xa := Xa.ext dW28
      replace Xb := Xb.ext dW28
      replace Xx := Xx.ext dW28
      replace Xc := Xc.ext dW28
      replace Xd := Xd.ext dW28
      replace Xe := Xe.ext dW28
      clear hN
      clear yf0 yf1 yf2 yf3 lf
      refine Calls.mono (c10 W28) ?_
      rintro e w29 ⟨rfl, hb29⟩
      have hw29 := eW28.trans hb29
      replace Xf := Xf.ext hb29
      replace Xpart := Xpart.ext hb29
      replace Xa := Xa.ext hb29
      replace Xb := Xb.ext hb29
      replace Xx := Xx.ext hb29
      replace Xc := Xc.ext hb29
      replace Xd := Xd.ext hb29
      replace Xe := Xe.ext hb29
      clear hb29 dW28 eW28
      clear c6 c7 c8 c9 c10
      have yc0 : w29.cell? ⟨w24.heap.size, 0, none⟩ = some (.string (⟨#[99, 97, 114, 100]⟩ : ByteArray)) := Xc.cell 0
      have yc1 : w29.cell? ⟨w24.heap.size, 1, none⟩ = some (.int .u64 (lo cm)) := Xc.cell 1
      have yc2 : w29.cell? ⟨w24.heap.size, 2, none⟩ = some (.int .u64 (hi cm)) := Xc.cell 2
      have lc := Xc.lt
      have yd0 : w29.cell? ⟨w25.heap.size, 0, none⟩ = some (.string (⟨#[99, 97, 114, 100]⟩ : ByteArray)) := Xd.cell 0
      have yd1 : w29.cell? ⟨w25.heap.size, 1, none⟩ = some (.int .u64 (lo dm)) := Xd.cell 1
      have yd2 : w29.cell? ⟨w25.heap.size, 2, none⟩ = some (.int .u64 (hi dm)) := Xd.cell 2
      have ld := Xd.lt
      have ye0 : w29.cell? ⟨w27.heap.size, 0, none⟩ = some (.string (⟨#[99, 97, 114, 100]⟩ : ByteArray)) := Xe.cell 0
      have ye1 : w29.cell? ⟨w27.heap.size, 1, none⟩ = some (.int .u64 (lo em)) := Xe.cell 1
      have ye2 : w29.cell? ⟨w27.heap.size, 2, none⟩ = some (.int .u64 (hi em)) := Xe.cell 2
      have le := Xe.lt
      have ypart0 : w29.cell? ⟨w12.heap.size, 0, none⟩ = some (.int .u64 (lo (partF f))) := Xpart.cell 0
      have ypart1 : w29.cell? ⟨w12.heap.size, 1, none⟩ = some (.int .u64 (hi (partF f))) := Xpart.cell 1
      have lpart := Xpart.lt
      have yf0 : w29.cell? ⟨w3.heap.size, 0, none⟩ = some (.string f.nm) := Xf.cell 0
      have yf1 : w29.cell? ⟨w3.heap.size, 1, none⟩ = some (.int .i8 f.kd) := Xf.cell 1
      have yf2 : w29.cell? ⟨w3.heap.size, 2, none⟩ = some (.int .i16 f.st) := Xf.cell 2
      have yf3 : w29.cell? ⟨w3.heap.size, 3, none⟩ = some (.int .i16 f.sz) := Xf.cell 3
      have lf := Xf.lt
      go_wp2
      refine wp_region_ext (by kernel_rfl) (by kernel_rfl) ?_
      repeat (first | go_big_quiet_step ((first | (go_at_call 20; with_reducible exact Calls.ext_of (c11 _)) | (go_at_call 20; with_reducible exact Calls.ext_of (c12 _)) | (go_at_call 21; with_reducible exact Calls.ext_of (c13 _)))) | quiet_step ((first | (go_at_call 20; with_reducible exact Calls.ext_of (c11 _)) | (go_at_call 20; with_reducible exact Calls.ext_of (c12 _)) | (go_at_call 21; with_reducible exact Calls.ext_of (c13 _)))))
      refine wpQuiet_nil ?_
      intro w99 hq99
      have hb99 := ext_of_class hq99
      clear hq99
      obtain ⟨hc99, hf99, hz99⟩ := bcell3 hb99
      try simp at hz99
      go_wp2
      go_ret
      exact ⟨rfl, (hw29.alloc _).trans hb99⟩
    · have e0 : (f.kd == 0) = false := by simp [k0]
      have e1 : (f.kd == 2) = false := by simp [k2]
      clear k0 k2
      try clear hwb
      clear hvu
      have ya0 : w22.cell? ⟨w19.heap.size, 0, none⟩ = some (.int .u64 (lo (codeF f v))) := Xa.cell 0
      have ya1 : w22.cell? ⟨w19.heap.size, 1, none⟩ = some (.int .u64 (hi (codeF f v))) := Xa.cell 1
      have la := Xa.lt
      have yb0 : w22.cell? ⟨w20.heap.size, 0, none⟩ = some (.int .u64 (lo (codeF f u))) := Xb.cell 0
      have yb1 : w22.cell? ⟨w20.heap.size, 1, none⟩ = some (.int .u64 (hi (codeF f u))) := Xb.cell 1
      have lb := Xb.lt
      have yx0 : w22.cell? ⟨w21.heap.size, 0, none⟩ = some (.int .u64 (lo (codeF f v))) := Xx.cell 0
      have yx1 : w22.cell? ⟨w21.heap.size, 1, none⟩ = some (.int .u64 (hi (codeF f v))) := Xx.cell 1
      have lx := Xx.lt
      have yf0 : w22.cell? ⟨w3.heap.size, 0, none⟩ = some (.string f.nm) := Xf.cell 0
      have yf1 : w22.cell? ⟨w3.heap.size, 1, none⟩ = some (.int .i8 f.kd) := Xf.cell 1
      have yf2 : w22.cell? ⟨w3.heap.size, 2, none⟩ = some (.int .i16 f.st) := Xf.cell 2
      have yf3 : w22.cell? ⟨w3.heap.size, 3, none⟩ = some (.int .i16 f.sz) := Xf.cell 3
      have lf := Xf.lt
      try clear c5
      go_wp2_with fail
      refine intro_world (R := fun W => Calls _ _ _ W _) (fun W22 hN => ?_)
      have dW22 : Ext w22 W22 := by rw [hN]; exact (Ext.refl _)
      have eW22 := hw22.trans dW22
      replace Xf := Xf.ext dW22
      replace Xpart := Xpart.ext dW22
      replace Xa := Xa.ext dW22
      replace Xb := Xb.ext dW22
      replace Xx := Xx.ext dW22
      clear hN
      clear ya0 ya1 la yb0 yb1 lb yx0 yx1 lx yf0 yf1 yf2 yf3 lf
      refine Calls.mono (spec_A2Mask cs A cap W22 (hR.ext eW22) (by omega)) ?_
      rintro e w23 ⟨cm, rfl, hcmk, hb23⟩
      have hw23 := eW22.trans hb23
      replace Xf := Xf.ext hb23
      replace Xpart := Xpart.ext hb23
      replace Xa := Xa.ext hb23
      replace Xb := Xb.ext hb23
      replace Xx := Xx.ext hb23
      clear hb23 dW22 eW22
      replace c6 := fun W => c6 cm hcmk W
      obtain ⟨dm, hdm⟩ : ∃ dm, putM f v cm = dm := ⟨_, rfl⟩
      have g1 := p1.out cm
      have g2 := p2.out cm
      have g3 := p3.out cm hcmk
      rw [hdm] at c6 g1 g2 g3
      have g4 := p4.out dm g1
      obtain ⟨em, hem⟩ : ∃ em, mless cm (partF f) = em := ⟨_, rfl⟩
      have g5 : isMaskB em = true := by rw [← hem]; exact sm_less hcmk
      have g6 : valueF f em = (0, 6) := valueF_zero (by rw [← hem]; exact less_none cm _)
      have c7 := fun W => impl_DecodeField f hf hin dm g3 W
      rw [g4] at c7
      have hcd2 : isCardB ⟨(⟨#[99, 97, 114, 100]⟩ : ByteArray), dm⟩ = true := by unfold isCardB; rw [g3]; exact Bool.and_true _ ▸ card_name
      have c8 := fun W => impl_ClearField ⟨(⟨#[99, 97, 114, 100]⟩ : ByteArray), dm⟩ hcd2 (show (4 : Nat) ≤ 9223372036854775807 by decide) f hf hin W
      try dsimp only at c8
      rw [g2, hem] at c8
      have c9 := fun W => impl_DecodeField f hf hin em g5 W
      rw [g6] at c9
      have c10 := fun W => impl_EncodeField_far f hf hin (mostF f + 1) (by omega) W
      have c11 := fun W => impl_LessMask dm (partF f) W
      have c12 := fun W => impl_LessMask cm (partF f) W
      rw [g2, hem] at c11
      rw [hem] at c12
      have c13 := fun W => impl_ValidCard ⟨(⟨#[99, 97, 114, 100]⟩ : ByteArray), dm⟩ (show (4 : Nat) ≤ 9223372036854775807 by decide) W
      rw [hcd2] at c13
      clear p1 p2 p3 p4 g1 g2 g3 g4 g5 g6 hdm hem hcd2
      have yf0 : w23.cell? ⟨w3.heap.size, 0, none⟩ = some (.string f.nm) := Xf.cell 0
      have yf1 : w23.cell? ⟨w3.heap.size, 1, none⟩ = some (.int .i8 f.kd) := Xf.cell 1
      have yf2 : w23.cell? ⟨w3.heap.size, 2, none⟩ = some (.int .i16 f.st) := Xf.cell 2
      have yf3 : w23.cell? ⟨w3.heap.size, 3, none⟩ = some (.int .i16 f.sz) := Xf.cell 3
      have lf := Xf.lt
      go_wp2_with fail
      refine intro_world (R := fun W => Calls _ _ _ W _) (fun W23 hN => ?_)
      have dW23 : Ext w23 W23 := by rw [hN]; exact (Ext.refl _).alloc _
      have eW23 := hw23.trans dW23
      replace Xf := Xf.ext dW23
      replace Xpart := Xpart.ext dW23
      replace Xa := Xa.ext dW23
      replace Xb := Xb.ext dW23
      replace Xx := Xx.ext dW23
      have Xc : BoxAt W23 w23.heap.size #[.string (⟨#[99, 97, 114, 100]⟩ : ByteArray), .int .u64 (lo cm), .int .u64 (hi cm)] 44 := by rw [hN]; exact (BoxAt.new' rfl)
      clear hN
      clear yf0 yf1 yf2 yf3 lf
      refine Calls.mono (c6 W23) ?_
      rintro e w24 ⟨rfl, hb24⟩
      have hw24 := eW23.trans hb24
      replace Xf := Xf.ext hb24
      replace Xpart := Xpart.ext hb24
      replace Xa := Xa.ext hb24
      replace Xb := Xb.ext hb24
      replace Xx := Xx.ext hb24
      replace Xc := Xc.ext hb24
      clear hb24 dW23 eW23
      have yf0 : w24.cell? ⟨w3.heap.size, 0, none⟩ = some (.string f.nm) := Xf.cell 0
      have yf1 : w24.cell? ⟨w3.heap.size, 1, none⟩ = some (.int .i8 f.kd) := Xf.cell 1
      have yf2 : w24.cell? ⟨w3.heap.size, 2, none⟩ = some (.int .i16 f.st) := Xf.cell 2
      have yf3 : w24.cell? ⟨w3.heap.size, 3, none⟩ = some (.int .i16 f.sz) := Xf.cell 3
      have lf := Xf.lt
      go_wp2_with fail
      refine intro_world (R := fun W => Calls _ _ _ W _) (fun W24 hN => ?_)
      have dW24 : Ext w24 W24 := by rw [hN]; exact (Ext.refl _).alloc _
      have eW24 := hw24.trans dW24
      replace Xf := Xf.ext dW24
      replace Xpart := Xpart.ext dW24
      replace Xa := Xa.ext dW24
      replace Xb := Xb.ext dW24
      replace Xx := Xx.ext dW24
      replace Xc := Xc.ext dW24
      have Xd : BoxAt W24 w24.heap.size #[.string (⟨#[99, 97, 114, 100]⟩ : ByteArray), .int .u64 (lo dm), .int .u64 (hi dm)] 44 := by rw [hN]; exact (BoxAt.new' rfl)
      clear hN
      clear yf0 yf1 yf2 yf3 lf
      refine Calls.mono (c7 W24) ?_
      rintro e w25 ⟨rfl, hb25⟩
      have hw25 := eW24.trans hb25
      replace Xf := Xf.ext hb25
      replace Xpart := Xpart.ext hb25
      replace Xa := Xa.ext hb25
      replace Xb := Xb.ext hb25
      replace Xx := Xx.ext hb25
      replace Xc := Xc.ext hb25
      replace Xd := Xd.ext hb25
      clear hb25 dW24 eW24
      have yd0 : w25.cell? ⟨w24.heap.size, 0, none⟩ = some (.string (⟨#[99, 97, 114, 100]⟩ : ByteArray)) := Xd.cell 0
      have yd1 : w25.cell? ⟨w24.heap.size, 1, none⟩ = some (.int .u64 (lo dm)) := Xd.cell 1
      have yd2 : w25.cell? ⟨w24.heap.size, 2, none⟩ = some (.int .u64 (hi dm)) := Xd.cell 2
      have ld := Xd.lt
      have yf0 : w25.cell? ⟨w3.heap.size, 0, none⟩ = some (.string f.nm) := Xf.cell 0
      have yf1 : w25.cell? ⟨w3.heap.size, 1, none⟩ = some (.int .i8 f.kd) := Xf.cell 1
      have yf2 : w25.cell? ⟨w3.heap.size, 2, none⟩ = some (.int .i16 f.st) := Xf.cell 2
      have yf3 : w25.cell? ⟨w3.heap.size, 3, none⟩ = some (.int .i16 f.sz) := Xf.cell 3
      have lf := Xf.lt
      go_wp2_with fail
      refine intro_world (R := fun W => Calls _ _ _ W _) (fun W25 hN => ?_)
      have dW25 : Ext w25 W25 := by rw [hN]; exact (Ext.refl _)
      have eW25 := hw25.trans dW25
      replace Xf := Xf.ext dW25
      replace Xpart := Xpart.ext dW25
      replace Xa := Xa.ext dW25
      replace Xb := Xb.ext dW25
      replace Xx := Xx.ext dW25
      replace Xc := Xc.ext dW25
      replace Xd := Xd.ext dW25
      clear hN
      clear yd0 yd1 yd2 ld yf0 yf1 yf2 yf3 lf
      refine Calls.mono (c8 W25) ?_
      rintro e w26 ⟨rfl, hb26⟩
      have hw26 := eW25.trans hb26
      replace Xf := Xf.ext hb26
      replace Xpart := Xpart.ext hb26
      replace Xa := Xa.ext hb26
      replace Xb := Xb.ext hb26
      replace Xx := Xx.ext hb26
      replace Xc := Xc.ext hb26
      replace Xd := Xd.ext hb26
      clear hb26 dW25 eW25
      have yf0 : w26.cell? ⟨w3.heap.size, 0, none⟩ = some (.string f.nm) := Xf.cell 0
      have yf1 : w26.cell? ⟨w3.heap.size, 1, none⟩ = some (.int .i8 f.kd) := Xf.cell 1
      have yf2 : w26.cell? ⟨w3.heap.size, 2, none⟩ = some (.int .i16 f.st) := Xf.cell 2
      have yf3 : w26.cell? ⟨w3.heap.size, 3, none⟩ = some (.int .i16 f.sz) := Xf.cell 3
      have lf := Xf.lt
      go_wp2_with fail
      refine intro_world (R := fun W => Calls _ _ _ W _) (fun W26 hN => ?_)
      have dW26 : Ext w26 W26 := by rw [hN]; exact (Ext.refl _).alloc _
      have eW26 := hw26.trans dW26
      replace Xf := Xf.ext dW26
      replace Xpart := Xpart.ext dW26
      replace Xa := Xa.ext dW26
      replace Xb := Xb.ext dW26
      replace Xx := Xx.ext dW26
      replace Xc := Xc.ext dW26
      replace Xd := Xd.ext dW26
      have Xe : BoxAt W26 w26.heap.size #[.string (⟨#[99, 97, 114, 100]⟩ : ByteArray), .int .u64 (lo em), .int .u64 (hi em)] 44 := by rw [hN]; exact (BoxAt.new' rfl)
      clear hN
      clear yf0 yf1 yf2 yf3 lf
      refine Calls.mono (c9 W26) ?_
      rintro e w27 ⟨rfl, hb27⟩
      have hw27 := eW26.trans hb27
      replace Xf := Xf.ext hb27
      replace Xpart := Xpart.ext hb27
      replace Xa := Xa.ext hb27
      replace Xb := Xb.ext hb27
      replace Xx := Xx.ext hb27
      replace Xc := Xc.ext hb27
      replace Xd := Xd.ext hb27
      replace Xe := Xe.ext hb27
      clear hb27 dW26 eW26
      have yf0 : w27.cell? ⟨w3.heap.size, 0, none⟩ = some (.string f.nm) := Xf.cell 0
      have yf1 : w27.cell? ⟨w3.heap.size, 1, none⟩ = some (.int .i8 f.kd) := Xf.cell 1
      have yf2 : w27.cell? ⟨w3.heap.size, 2, none⟩ = some (.int .i16 f.st) := Xf.cell 2
      have yf3 : w27.cell? ⟨w3.heap.size, 3, none⟩ = some (.int .i16 f.sz) := Xf.cell 3
      have lf := Xf.lt
      go_wp2_with fail
      refine intro_world (R := fun W => Calls _ _ _ W _) (fun W27 hN => ?_)
      have dW27 : Ext w27 W27 := by rw [hN]; exact (Ext.refl _)
      have eW27 := hw27.trans dW27
      replace Xf := Xf.ext dW27
      replace Xpart := Xpart.ext dW27
      replace Xa := Xa.ext dW27
      replace Xb := Xb.ext dW27
      replace Xx := Xx.ext dW27
      replace Xc := Xc.ext dW27
      replace Xd := Xd.ext dW27
      replace Xe := Xe.ext dW27
      clear hN
      clear yf0 yf1 yf2 yf3 lf
      refine Calls.mono (c10 W27) ?_
      rintro e w28 ⟨rfl, hb28⟩
      have hw28 := eW27.trans hb28
      replace Xf := Xf.ext hb28
      replace Xpart := Xpart.ext hb28
      replace Xa := Xa.ext hb28
      replace Xb := Xb.ext hb28
      replace Xx := Xx.ext hb28
      replace Xc := Xc.ext hb28
      replace Xd := Xd.ext hb28
      replace Xe := Xe.ext hb28
      clear hb28 dW27 eW27
      clear c6 c7 c8 c9 c10
      have yc0 : w28.cell? ⟨w23.heap.size, 0, none⟩ = some (.string (⟨#[99, 97, 114, 100]⟩ : ByteArray)) := Xc.cell 0
      have yc1 : w28.cell? ⟨w23.heap.size, 1, none⟩ = some (.int .u64 (lo cm)) := Xc.cell 1
      have yc2 : w28.cell? ⟨w23.heap.size, 2, none⟩ = some (.int .u64 (hi cm)) := Xc.cell 2
      have lc := Xc.lt
      have yd0 : w28.cell? ⟨w24.heap.size, 0, none⟩ = some (.string (⟨#[99, 97, 114, 100]⟩ : ByteArray)) := Xd.cell 0
      have yd1 : w28.cell? ⟨w24.heap.size, 1, none⟩ = some (.int .u64 (lo dm)) := Xd.cell 1
      have yd2 : w28.cell? ⟨w24.heap.size, 2, none⟩ = some (.int .u64 (hi dm)) := Xd.cell 2
      have ld := Xd.lt
      have ye0 : w28.cell? ⟨w26.heap.size, 0, none⟩ = some (.string (⟨#[99, 97, 114, 100]⟩ : ByteArray)) := Xe.cell 0
      have ye1 : w28.cell? ⟨w26.heap.size, 1, none⟩ = some (.int .u64 (lo em)) := Xe.cell 1
      have ye2 : w28.cell? ⟨w26.heap.size, 2, none⟩ = some (.int .u64 (hi em)) := Xe.cell 2
      have le := Xe.lt
      have ypart0 : w28.cell? ⟨w12.heap.size, 0, none⟩ = some (.int .u64 (lo (partF f))) := Xpart.cell 0
      have ypart1 : w28.cell? ⟨w12.heap.size, 1, none⟩ = some (.int .u64 (hi (partF f))) := Xpart.cell 1
      have lpart := Xpart.lt
      have yf0 : w28.cell? ⟨w3.heap.size, 0, none⟩ = some (.string f.nm) := Xf.cell 0
      have yf1 : w28.cell? ⟨w3.heap.size, 1, none⟩ = some (.int .i8 f.kd) := Xf.cell 1
      have yf2 : w28.cell? ⟨w3.heap.size, 2, none⟩ = some (.int .i16 f.st) := Xf.cell 2
      have yf3 : w28.cell? ⟨w3.heap.size, 3, none⟩ = some (.int .i16 f.sz) := Xf.cell 3
      have lf := Xf.lt
      go_wp2
      refine wp_region_ext (by kernel_rfl) (by kernel_rfl) ?_
      repeat (first | go_big_quiet_step ((first | (go_at_call 20; with_reducible exact Calls.ext_of (c11 _)) | (go_at_call 20; with_reducible exact Calls.ext_of (c12 _)) | (go_at_call 21; with_reducible exact Calls.ext_of (c13 _)))) | quiet_step ((first | (go_at_call 20; with_reducible exact Calls.ext_of (c11 _)) | (go_at_call 20; with_reducible exact Calls.ext_of (c12 _)) | (go_at_call 21; with_reducible exact Calls.ext_of (c13 _)))))
      refine wpQuiet_nil ?_
      intro w99 hq99
      have hb99 := ext_of_class hq99
      clear hq99
      obtain ⟨hc99, hf99, hz99⟩ := bcell3 hb99
      try simp at hz99
      go_wp2
      go_ret
      exact ⟨rfl, (hw28.alloc _).trans hb99⟩
end Go.Proofs.YtciepjdacmjhlaaDoor
