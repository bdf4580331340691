/-
  The walk of the law FnTold.
-/
import Derived.Test.YtegopgpnjgikeaaDoorTDX
set_option linter.unusedVariables false
set_option linter.unusedSimpArgs false
set_option maxRecDepth 100000
namespace Go.Proofs.YtegopgpnjgikeaaDoor
open Go.RowKit
theorem least_ok {f : Fld} (hf : fldB f = true) : ∃ far : Int, leastF f = (far, 0) := by
  refine ⟨(leastF f).1, ?_⟩
  unfold leastF
  rw [if_pos hf]
  split
  · rfl
  · split <;> rfl
theorem rd_one {W : World} {b : Nat} {a : Int} {t : TypeId} (h : BoxAt W b #[.int .i64 a] t) : Rd encI64 W (some ⟨b, 0, none⟩) [a] := fun k hk => by
  have h0 : k = 0 := by simpa using hk
  subst h0
  refine ⟨b, 0, rfl, h.lt, fun j u hu => ?_⟩
  match j, hu with
  | 0, hu => cases hu; exact h.cell 0
  | n + 1, hu => cases hu
theorem laws_f6big (cs : List UInt8) (A : Option Addr) (cap : Nat) (w : World) :
    Calls Tryd.prog 5 #[.slice A cs.length cap] w fun e w' => e = .returned (.bool (decide (4096 < cs.length))) ∧ Ext w w' := by
  have e : decide ((4096 : Int) < (cs.length : Int)) = decide (4096 < cs.length) := by rw [decide_eq_decide]; omega
  by_cases h : 4096 < cs.length
  · have h' : (4096 : Int) < (cs.length : Int) := by omega
    rw [decide_eq_true h]
    go_enter Tryd.func5, Tryd.ntmps5
    go_wp2
    go_ret
    exact ⟨by simp [h'], Ext.refl _⟩
  · have h' : ((4096 : Int) < (cs.length : Int)) = False := eq_false (by omega)
    rw [decide_eq_false h]
    go_enter Tryd.func5, Tryd.ntmps5
    go_wp2
    go_ret
    exact ⟨by simp [h'], Ext.refl _⟩
set_option maxHeartbeats 40000000 in
theorem laws_FnTold (cs ds : List UInt8) (A B : Option Addr) (cap cap' : Nat) (w : World) (hn : cs.length ≤ 9223372036854775807) (hR : Rd encU8 w A cs) (hm : ds.length ≤ 9223372036854775807) (hS : Rd encU8 w B ds) :
    Calls Tryd.prog 4 #[.slice A cs.length cap, .slice B ds.length cap'] w fun e w' => e = .returned (.bool true) ∧ Ext w w' := by
  have hx := @ExtOf.cell
  have b1 := fun W => laws_f6big cs A cap W
  have b2 := fun W => laws_f6big ds B cap' W
  by_cases h1 : 4096 < cs.length
  · rw [decide_eq_true h1] at b1
    go_enter Tryd.func4, Tryd.ntmps4
    go_wp2_with fail
    refine Calls.mono (b1 _) ?_
    rintro e w1 ⟨rfl, hb1⟩
    go_wp2
    go_ret
    exact ⟨rfl, hb1⟩
  rw [decide_eq_false h1] at b1
  by_cases h2 : 4096 < ds.length
  · rw [decide_eq_true h2] at b2
    go_enter Tryd.func4, Tryd.ntmps4
    go_wp2_with fail
    refine Calls.mono (b1 _) ?_
    rintro e w1 ⟨rfl, hb1⟩
    go_wp2_with fail
    refine Calls.mono (b2 _) ?_
    rintro e w2 ⟨rfl, hb2⟩
    go_wp2
    go_ret
    exact ⟨rfl, hb1.trans hb2⟩
  rw [decide_eq_false h2] at b2
  go_enter Tryd.func4, Tryd.ntmps4
  go_wp2_with fail
  refine Calls.mono (b1 _) ?_
  rintro e w1 ⟨rfl, hb1⟩
  go_wp2_with fail
  refine Calls.mono (b2 _) ?_
  rintro e w2 ⟨rfl, hb2⟩
  have hw2 := hb1.trans hb2
  clear hb1 hb2 b1 b2
  go_wp2_with fail
  refine intro_world (R := fun W => Calls _ _ _ W _) (fun W10 hN => ?_)
  have dW10 : Ext w2 W10 := by rw [hN]; exact (Ext.refl _)
  have eW10 := hw2.trans dW10
  clear hN
  refine Calls.mono (spec_P6Field cs A cap W10 (hR.ext eW10) (by omega)) ?_
  rintro e w11 ⟨f, rfl, hfd, hb11⟩
  have hw11 := eW10.trans hb11
  clear hb11 dW10 eW10
  have hin := drawn_in hfd
  have hf := hfd.1
  have hL := code_law hf hfd.2
  have hmo := mostF_le f hf
  obtain ⟨far, hfar⟩ := least_ok hf
  have c1 := fun W => impl_MostOf f hf hin W
  have c2 := fun W => impl_LeastDistanceT f hin W
  have c3 := fun W => spec_LeastDistanceT f hin W
  rw [hfar] at c2 c3
  try dsimp only at c2 c3
  replace hL := hd hL
  replace hfar := hd hfar
  go_wp2_with fail
  refine intro_world (R := fun W => Calls _ _ _ W _) (fun W11 hN => ?_)
  have dW11 : Ext w11 W11 := by rw [hN]; exact (Ext.refl _).alloc _
  have eW11 := hw11.trans dW11
  have Xf : BoxAt W11 w11.heap.size #[.string f.nm, .int .i8 f.kd, .int .i16 f.st, .int .i16 f.sz] 48 := by rw [hN]; exact (BoxAt.new' rfl)
  clear hN
  refine Calls.mono (c1 W11) ?_
  rintro e w12 ⟨rfl, hb12⟩
  have hw12 := eW11.trans hb12
  replace Xf := Xf.ext hb12
  clear hb12 dW11 eW11
  have yf0 : w12.cell? ⟨w11.heap.size, 0, none⟩ = some (.string f.nm) := Xf.cell 0
  have yf1 : w12.cell? ⟨w11.heap.size, 1, none⟩ = some (.int .i8 f.kd) := Xf.cell 1
  have yf2 : w12.cell? ⟨w11.heap.size, 2, none⟩ = some (.int .i16 f.st) := Xf.cell 2
  have yf3 : w12.cell? ⟨w11.heap.size, 3, none⟩ = some (.int .i16 f.sz) := Xf.cell 3
  have lf := Xf.lt
  go_wp2_with fail
  refine intro_world (R := fun W => Calls _ _ _ W _) (fun W12 hN => ?_)
  have dW12 : Ext w12 W12 := by rw [hN]; exact (Ext.refl _)
  have eW12 := hw12.trans dW12
  replace Xf := Xf.ext dW12
  clear hN
  clear yf0 yf1 yf2 yf3 lf
  refine Calls.mono (c2 W12) ?_
  rintro e w13 ⟨rfl, hb13⟩
  have hw13 := eW12.trans hb13
  replace Xf := Xf.ext hb13
  clear hb13 dW12 eW12
  have yf0 : w13.cell? ⟨w11.heap.size, 0, none⟩ = some (.string f.nm) := Xf.cell 0
  have yf1 : w13.cell? ⟨w11.heap.size, 1, none⟩ = some (.int .i8 f.kd) := Xf.cell 1
  have yf2 : w13.cell? ⟨w11.heap.size, 2, none⟩ = some (.int .i16 f.st) := Xf.cell 2
  have yf3 : w13.cell? ⟨w11.heap.size, 3, none⟩ = some (.int .i16 f.sz) := Xf.cell 3
  have lf := Xf.lt
  go_wp2_with fail
  refine intro_world (R := fun W => Calls _ _ _ W _) (fun W13 hN => ?_)
  have dW13 : Ext w13 W13 := by rw [hN]; exact (Ext.refl _)
  have eW13 := hw13.trans dW13
  replace Xf := Xf.ext dW13
  clear hN
  clear yf0 yf1 yf2 yf3 lf
  refine Calls.mono (c3 W13) ?_
  rintro e w14 ⟨rfl, hb14⟩
  have hw14 := eW13.trans hb14
  replace Xf := Xf.ext hb14
  clear hb14 dW13 eW13
  clear c1 c2 c3
  have j1 : IntKind.i64.wrap (mostF f + 1) = mostF f + 1 := IntWalk.i64_in _ (by omega)
  go_wp2_with fail
  refine intro_world (R := fun W => Calls _ _ _ W _) (fun W14 hN => ?_)
  have dW14 : Ext w14 W14 := by rw [hN]; exact (Ext.refl _)
  have eW14 := hw14.trans dW14
  replace Xf := Xf.ext dW14
  clear hN
  refine Calls.mono (spec_P6Pick ds B cap' (mostF f + 1) (by omega) W14 (hS.ext eW14) (by omega)) ?_
  rintro e w15 ⟨a, rfl, a0, a1, hb15⟩
  have hw15 := eW14.trans hb15
  replace Xf := Xf.ext hb15
  clear hb15 dW14 eW14
  go_wp2_with fail
  refine intro_world (R := fun W => Calls _ _ _ W _) (fun W15 hN => ?_)
  have dW15 : Ext w15 W15 := by rw [hN]; exact (Ext.refl _)
  have eW15 := hw15.trans dW15
  replace Xf := Xf.ext dW15
  clear hN
  refine Calls.mono (spec_P6Wear ds B cap' W15 (hS.ext eW15) (by omega)) ?_
  rintro e w16 ⟨t, u, rfl, hv, hb16⟩
  have hw16 := eW15.trans hb16
  replace Xf := Xf.ext hb16
  clear hb16 dW15 eW15
  replace a1 : a ≤ mostF f := by omega
  obtain ⟨a, rfl⟩ := Int.eq_ofNat_of_zero_le a0
  obtain ⟨m, c, told, far', ch, vs, best, away, code, k1, k2, k3, k4, k5, k6, k7, k8, k9, k10, k11, k12, k13, k14, k15, k16, k17, k18⟩ := told_law hf hL.out a a1 hv
  obtain rfl : far' = far := congrArg Prod.fst (k6.symm.trans hfar.out)
  have c4 := fun W => impl_IsToldT f hin a t u W
  have c5 := fun W => spec_IsToldT f hin a t u W
  rw [k5] at c4 c5
  try dsimp only at c4 c5
  have c6 := fun W => spec_EncodeField f hf hin a (by omega) a1 W
  rw [k1] at c6
  have c7 := fun W => spec_WearA m t u k3 hv W
  rw [k2] at c7
  have c8 := fun W => spec_PartOf f hf hin W
  obtain ⟨p, hp⟩ : ∃ p, partF f = p := ⟨_, rfl⟩
  rw [hp] at c8 k7
  have g1 := fun W => spec_MeetMasks c p W
  have g2 := fun W => spec_LessMask (mmeet c p) m W
  have g3 := fun W => spec_LessMask m c W
  have g4 := fun W => spec_CountHoles (mless (mmeet c p) m) W
  have g5 := fun W => spec_CountHoles (mless m c) W
  generalize mcount (mless (mmeet c p) m) = n1 at k7 g4
  generalize mcount (mless m c) = n2 at k7 g5
  have j2 : IntKind.i64.wrap (n1 + n2) = ch := (IntWalk.i64_in _ (by omega)).trans k7
  have c9 := fun W => impl_ValuesNearT f hin m 0 W
  rw [k9] at c9
  have c10 := fun W => impl_ValuesNearT f hin c 2 W
  have c11 := fun W => spec_ValuesNearT f hin c 2 W
  rw [k10] at c10 c11
  have c12 := fun W => impl_ValuesNearT f hin m 1 W
  replace k13 := hd k13
  have c13 := fun W => impl_NearestValueT f hin m W
  rw [k14] at c13
  have c14 := fun W => impl_NearestValueT f hin c W
  have c15 := fun W => spec_NearestValueT f hin c W
  rw [k15] at c14 c15
  try dsimp only at c9 c10 c11 c13 c14 c15
  clear k1 k2 k5 k6 k7 k9 k10 k14 k15 hp hL hfar
  replace k8 := hd k8
  replace k11 := hd k11
  replace k16 := hd k16
  have e2 := eqA_Mask
  have yf0 : w16.cell? ⟨w11.heap.size, 0, none⟩ = some (.string f.nm) := Xf.cell 0
  have yf1 : w16.cell? ⟨w11.heap.size, 1, none⟩ = some (.int .i8 f.kd) := Xf.cell 1
  have yf2 : w16.cell? ⟨w11.heap.size, 2, none⟩ = some (.int .i16 f.st) := Xf.cell 2
  have yf3 : w16.cell? ⟨w11.heap.size, 3, none⟩ = some (.int .i16 f.sz) := Xf.cell 3
  have lf := Xf.lt
  go_wp2_with fail
  refine intro_world (R := fun W => Calls _ _ _ W _) (fun W16 hN => ?_)
  have dW16 : Ext w16 W16 := by rw [hN]; exact (Ext.refl _).alloc _
  have eW16 := hw16.trans dW16
  replace Xf := Xf.ext dW16
  have Xw : BoxAt W16 w16.heap.size #[.int .u64 (lo t), .int .u64 (hi t), .int .u64 (lo u), .int .u64 (hi u)] 54 := by rw [hN]; exact (BoxAt.new' rfl)
  clear hN
  clear yf0 yf1 yf2 yf3 lf
  refine Calls.mono (c4 W16) ?_
  rintro e w17 ⟨rfl, hb17⟩
  have hw17 := eW16.trans hb17
  replace Xf := Xf.ext hb17
  replace Xw := Xw.ext hb17
  clear hb17 dW16 eW16
  have yf0 : w17.cell? ⟨w11.heap.size, 0, none⟩ = some (.string f.nm) := Xf.cell 0
  have yf1 : w17.cell? ⟨w11.heap.size, 1, none⟩ = some (.int .i8 f.kd) := Xf.cell 1
  have yf2 : w17.cell? ⟨w11.heap.size, 2, none⟩ = some (.int .i16 f.st) := Xf.cell 2
  have yf3 : w17.cell? ⟨w11.heap.size, 3, none⟩ = some (.int .i16 f.sz) := Xf.cell 3
  have lf := Xf.lt
  have yw0 : w17.cell? ⟨w16.heap.size, 0, none⟩ = some (.int .u64 (lo t)) := Xw.cell 0
  have yw1 : w17.cell? ⟨w16.heap.size, 1, none⟩ = some (.int .u64 (hi t)) := Xw.cell 1
  have yw2 : w17.cell? ⟨w16.heap.size, 2, none⟩ = some (.int .u64 (lo u)) := Xw.cell 2
  have yw3 : w17.cell? ⟨w16.heap.size, 3, none⟩ = some (.int .u64 (hi u)) := Xw.cell 3
  have lw := Xw.lt
  go_wp2_with fail
  refine intro_world (R := fun W => Calls _ _ _ W _) (fun W17 hN => ?_)
  have dW17 : Ext w17 W17 := by rw [hN]; exact (Ext.refl _)
  have eW17 := hw17.trans dW17
  replace Xf := Xf.ext dW17
  replace Xw := Xw.ext dW17
  clear hN
  clear yf0 yf1 yf2 yf3 lf yw0 yw1 yw2 yw3 lw
  refine Calls.mono (c5 W17) ?_
  rintro e w18 ⟨rfl, hb18⟩
  have hw18 := eW17.trans hb18
  replace Xf := Xf.ext hb18
  replace Xw := Xw.ext hb18
  clear hb18 dW17 eW17
  have yf0 : w18.cell? ⟨w11.heap.size, 0, none⟩ = some (.string f.nm) := Xf.cell 0
  have yf1 : w18.cell? ⟨w11.heap.size, 1, none⟩ = some (.int .i8 f.kd) := Xf.cell 1
  have yf2 : w18.cell? ⟨w11.heap.size, 2, none⟩ = some (.int .i16 f.st) := Xf.cell 2
  have yf3 : w18.cell? ⟨w11.heap.size, 3, none⟩ = some (.int .i16 f.sz) := Xf.cell 3
  have lf := Xf.lt
  go_wp2_with fail
  refine intro_world (R := fun W => Calls _ _ _ W _) (fun W18 hN => ?_)
  have dW18 : Ext w18 W18 := by rw [hN]; exact (Ext.refl _)
  have eW18 := hw18.trans dW18
  replace Xf := Xf.ext dW18
  replace Xw := Xw.ext dW18
  clear hN
  clear yf0 yf1 yf2 yf3 lf
  refine Calls.mono (c6 W18) ?_
  rintro e w19 ⟨rfl, hb19⟩
  have hw19 := eW18.trans hb19
  replace Xf := Xf.ext hb19
  replace Xw := Xw.ext hb19
  clear hb19 dW18 eW18
  have yw0 : w19.cell? ⟨w16.heap.size, 0, none⟩ = some (.int .u64 (lo t)) := Xw.cell 0
  have yw1 : w19.cell? ⟨w16.heap.size, 1, none⟩ = some (.int .u64 (hi t)) := Xw.cell 1
  have yw2 : w19.cell? ⟨w16.heap.size, 2, none⟩ = some (.int .u64 (lo u)) := Xw.cell 2
  have yw3 : w19.cell? ⟨w16.heap.size, 3, none⟩ = some (.int .u64 (hi u)) := Xw.cell 3
  have lw := Xw.lt
  go_wp2_with fail
  refine intro_world (R := fun W => Calls _ _ _ W _) (fun W19 hN => ?_)
  have dW19 : Ext w19 W19 := by rw [hN]; exact (Ext.refl _).alloc _
  have eW19 := hw19.trans dW19
  replace Xf := Xf.ext dW19
  replace Xw := Xw.ext dW19
  have Xm : BoxAt W19 w19.heap.size #[.int .u64 (lo m), .int .u64 (hi m)] 33 := by rw [hN]; exact (BoxAt.new' rfl)
  clear hN
  clear yw0 yw1 yw2 yw3 lw
  refine Calls.mono (c7 W19) ?_
  rintro e w20 ⟨rfl, hb20⟩
  have hw20 := eW19.trans hb20
  replace Xf := Xf.ext hb20
  replace Xw := Xw.ext hb20
  replace Xm := Xm.ext hb20
  clear hb20 dW19 eW19
  have yf0 : w20.cell? ⟨w11.heap.size, 0, none⟩ = some (.string f.nm) := Xf.cell 0
  have yf1 : w20.cell? ⟨w11.heap.size, 1, none⟩ = some (.int .i8 f.kd) := Xf.cell 1
  have yf2 : w20.cell? ⟨w11.heap.size, 2, none⟩ = some (.int .i16 f.st) := Xf.cell 2
  have yf3 : w20.cell? ⟨w11.heap.size, 3, none⟩ = some (.int .i16 f.sz) := Xf.cell 3
  have lf := Xf.lt
  go_wp2_with fail
  refine intro_world (R := fun W => Calls _ _ _ W _) (fun W20 hN => ?_)
  have dW20 : Ext w20 W20 := by rw [hN]; exact (Ext.refl _).alloc _
  have eW20 := hw20.trans dW20
  replace Xf := Xf.ext dW20
  replace Xw := Xw.ext dW20
  replace Xm := Xm.ext dW20
  have Xc : BoxAt W20 w20.heap.size #[.string (⟨#[97]⟩ : ByteArray), .int .u64 (lo c), .int .u64 (hi c)] 60 := by rw [hN]; exact (BoxAt.new' rfl)
  clear hN
  clear yf0 yf1 yf2 yf3 lf
  refine Calls.mono (c8 W20) ?_
  rintro e w21 ⟨rfl, hb21⟩
  have hw21 := eW20.trans hb21
  replace Xf := Xf.ext hb21
  replace Xw := Xw.ext hb21
  replace Xm := Xm.ext hb21
  replace Xc := Xc.ext hb21
  clear hb21 dW20 eW20
  clear c4 c5 c6 c7 c8
  go_wp2
  refine intro_world (R := fun W => Code.wp _ _ _ _ W) (fun W21 hN => ?_)
  have dW21 : Ext w21 W21 := by rw [hN]; exact (Ext.refl _).alloc _
  have eW21 := hw21.trans dW21
  replace Xf := Xf.ext dW21
  replace Xw := Xw.ext dW21
  replace Xm := Xm.ext dW21
  replace Xc := Xc.ext dW21
  have Xp : BoxAt W21 w21.heap.size #[.int .u64 (lo p), .int .u64 (hi p)] 33 := by rw [hN]; exact (BoxAt.new' rfl)
  clear hN
  have yc0 : W21.cell? ⟨w20.heap.size, 0, none⟩ = some (.string (⟨#[97]⟩ : ByteArray)) := Xc.cell 0
  have yc1 : W21.cell? ⟨w20.heap.size, 1, none⟩ = some (.int .u64 (lo c)) := Xc.cell 1
  have yc2 : W21.cell? ⟨w20.heap.size, 2, none⟩ = some (.int .u64 (hi c)) := Xc.cell 2
  have lc := Xc.lt
  have ym0 : W21.cell? ⟨w19.heap.size, 0, none⟩ = some (.int .u64 (lo m)) := Xm.cell 0
  have ym1 : W21.cell? ⟨w19.heap.size, 1, none⟩ = some (.int .u64 (hi m)) := Xm.cell 1
  have lm := Xm.lt
  have yp0 : W21.cell? ⟨w21.heap.size, 0, none⟩ = some (.int .u64 (lo p)) := Xp.cell 0
  have yp1 : W21.cell? ⟨w21.heap.size, 1, none⟩ = some (.int .u64 (hi p)) := Xp.cell 1
  have lp := Xp.lt
  refine wp_region_ext (by kernel_rfl) (by kernel_rfl) ?_
  repeat (first | go_big_quiet_step ((first | (go_at_call 34; with_reducible exact Calls.ext_of (g1 _)) | (go_at_call 33; with_reducible exact Calls.ext_of (g2 _)) | (go_at_call 33; with_reducible exact Calls.ext_of (g3 _)) | (go_at_call 32; with_reducible exact Calls.ext_of (g4 _)) | (go_at_call 32; with_reducible exact Calls.ext_of (g5 _)))) | quiet_step ((first | (go_at_call 34; with_reducible exact Calls.ext_of (g1 _)) | (go_at_call 33; with_reducible exact Calls.ext_of (g2 _)) | (go_at_call 33; with_reducible exact Calls.ext_of (g3 _)) | (go_at_call 32; with_reducible exact Calls.ext_of (g4 _)) | (go_at_call 32; with_reducible exact Calls.ext_of (g5 _)))))
  refine wpQuiet_nil ?_
  intro w91 hq91
  have hb91 := ext_of_class hq91
  clear hq91
  obtain ⟨hc91, hf91, hz91⟩ := bcell3 hb91
  try simp at hz91
  clear hc91 hf91 g1 g2 g3 g4 g5 yc0 yc1 yc2 lc ym0 ym1 lm yp0 yp1 lp
  replace Xf := Xf.ext hb91
  replace Xw := Xw.ext hb91
  replace Xm := Xm.ext hb91
  replace Xc := Xc.ext hb91
  replace Xp := Xp.ext hb91
  have hw91 := eW21.trans hb91
  clear hb91
  clear Xw
  clear Xp
  by_cases hcd : ch < far'
  · have htt := k8.out hcd
    subst htt
    have yf0 : w91.cell? ⟨w11.heap.size, 0, none⟩ = some (.string f.nm) := Xf.cell 0
    have yf1 : w91.cell? ⟨w11.heap.size, 1, none⟩ = some (.int .i8 f.kd) := Xf.cell 1
    have yf2 : w91.cell? ⟨w11.heap.size, 2, none⟩ = some (.int .i16 f.st) := Xf.cell 2
    have yf3 : w91.cell? ⟨w11.heap.size, 3, none⟩ = some (.int .i16 f.sz) := Xf.cell 3
    have lf := Xf.lt
    have ym0 : w91.cell? ⟨w19.heap.size, 0, none⟩ = some (.int .u64 (lo m)) := Xm.cell 0
    have ym1 : w91.cell? ⟨w19.heap.size, 1, none⟩ = some (.int .u64 (hi m)) := Xm.cell 1
    have lm := Xm.lt
    go_wp2_with fail
    refine intro_world (R := fun W => Calls _ _ _ W _) (fun W91 hN => ?_)
    have dW91 : Ext w91 W91 := by rw [hN]; exact (Ext.refl _)
    have eW91 := hw91.trans dW91
    replace Xf := Xf.ext dW91
    replace Xm := Xm.ext dW91
    replace Xc := Xc.ext dW91
    clear hN
    clear yf0 yf1 yf2 yf3 lf ym0 ym1 lm
    refine Calls.mono (c9 W91) ?_
    rintro e w92 ⟨v92, rfl, hO92, hb92⟩
    obtain ⟨A92, cap92, rfl, hle92, hR1⟩ := hO92.slice
    have hw92 := eW91.trans hb92
    replace Xf := Xf.ext hb92
    replace Xm := Xm.ext hb92
    replace Xc := Xc.ext hb92
    clear hb92 dW91 eW91 hO92
    go_wp2_with fail
    refine intro_world (R := fun W => Calls _ _ _ W _) (fun W92 hN => ?_)
    have dW92 : Ext w92 W92 := by rw [hN]; exact (Ext.refl _).alloc _
    have eW92 := hw92.trans dW92
    replace Xf := Xf.ext dW92
    replace Xm := Xm.ext dW92
    replace Xc := Xc.ext dW92
    replace hR1 := hR1.ext dW92
    have Xl1 : BoxAt W92 w92.heap.size #[.int .i64 a] 2 := by rw [hN]; exact (BoxAt.new' rfl)
    clear hN
    refine Calls.mono (spec_SameIndices [(a : Int)] A92 (some ⟨w92.heap.size, 0, none⟩) cap92 1 W92 hR1 (rd_one Xl1) (by simp)) ?_
    rintro e w93 ⟨rfl, hb93⟩
    have hw93 := eW92.trans hb93
    replace Xf := Xf.ext hb93
    replace Xm := Xm.ext hb93
    replace Xc := Xc.ext hb93
    replace Xl1 := Xl1.ext hb93
    replace hR1 := hR1.ext hb93
    clear hb93 dW92 eW92
    clear Xl1
    clear hR1
    have yf0 : w93.cell? ⟨w11.heap.size, 0, none⟩ = some (.string f.nm) := Xf.cell 0
    have yf1 : w93.cell? ⟨w11.heap.size, 1, none⟩ = some (.int .i8 f.kd) := Xf.cell 1
    have yf2 : w93.cell? ⟨w11.heap.size, 2, none⟩ = some (.int .i16 f.st) := Xf.cell 2
    have yf3 : w93.cell? ⟨w11.heap.size, 3, none⟩ = some (.int .i16 f.sz) := Xf.cell 3
    have lf := Xf.lt
    have yc0 : w93.cell? ⟨w20.heap.size, 0, none⟩ = some (.string (⟨#[97]⟩ : ByteArray)) := Xc.cell 0
    have yc1 : w93.cell? ⟨w20.heap.size, 1, none⟩ = some (.int .u64 (lo c)) := Xc.cell 1
    have yc2 : w93.cell? ⟨w20.heap.size, 2, none⟩ = some (.int .u64 (hi c)) := Xc.cell 2
    have lc := Xc.lt
    go_wp2_with fail
    refine intro_world (R := fun W => Calls _ _ _ W _) (fun W93 hN => ?_)
    have dW93 : Ext w93 W93 := by rw [hN]; exact (Ext.refl _)
    have eW93 := hw93.trans dW93
    replace Xf := Xf.ext dW93
    replace Xm := Xm.ext dW93
    replace Xc := Xc.ext dW93
    clear hN
    clear yf0 yf1 yf2 yf3 lf yc0 yc1 yc2 lc
    refine Calls.mono (c10 W93) ?_
    rintro e w94 ⟨v94, rfl, hO94, hb94⟩
    obtain ⟨A94, cap94, rfl, hle94, hR2⟩ := hO94.slice
    have hw94 := eW93.trans hb94
    replace Xf := Xf.ext hb94
    replace Xm := Xm.ext hb94
    replace Xc := Xc.ext hb94
    clear hb94 dW93 eW93 hO94
    have yf0 : w94.cell? ⟨w11.heap.size, 0, none⟩ = some (.string f.nm) := Xf.cell 0
    have yf1 : w94.cell? ⟨w11.heap.size, 1, none⟩ = some (.int .i8 f.kd) := Xf.cell 1
    have yf2 : w94.cell? ⟨w11.heap.size, 2, none⟩ = some (.int .i16 f.st) := Xf.cell 2
    have yf3 : w94.cell? ⟨w11.heap.size, 3, none⟩ = some (.int .i16 f.sz) := Xf.cell 3
    have lf := Xf.lt
    have yc0 : w94.cell? ⟨w20.heap.size, 0, none⟩ = some (.string (⟨#[97]⟩ : ByteArray)) := Xc.cell 0
    have yc1 : w94.cell? ⟨w20.heap.size, 1, none⟩ = some (.int .u64 (lo c)) := Xc.cell 1
    have yc2 : w94.cell? ⟨w20.heap.size, 2, none⟩ = some (.int .u64 (hi c)) := Xc.cell 2
    have lc := Xc.lt
    go_wp2_with fail
    refine intro_world (R := fun W => Calls _ _ _ W _) (fun W94 hN => ?_)
    have dW94 : Ext w94 W94 := by rw [hN]; exact (Ext.refl _)
    have eW94 := hw94.trans dW94
    replace Xf := Xf.ext dW94
    replace Xm := Xm.ext dW94
    replace Xc := Xc.ext dW94
    replace hR2 := hR2.ext dW94
    clear hN
    clear yf0 yf1 yf2 yf3 lf yc0 yc1 yc2 lc
    refine Calls.mono (c11 W94) ?_
    rintro e w95 ⟨v95, rfl, hO95, hb95⟩
    obtain ⟨A95, cap95, rfl, hle95, hR3⟩ := hO95.slice
    have hw95 := eW94.trans hb95
    replace Xf := Xf.ext hb95
    replace Xm := Xm.ext hb95
    replace Xc := Xc.ext hb95
    replace hR2 := hR2.ext hb95
    clear hb95 dW94 eW94 hO95
    go_wp2_with fail
    refine intro_world (R := fun W => Calls _ _ _ W _) (fun W95 hN => ?_)
    have dW95 : Ext w95 W95 := by rw [hN]; exact (Ext.refl _)
    have eW95 := hw95.trans dW95
    replace Xf := Xf.ext dW95
    replace Xm := Xm.ext dW95
    replace Xc := Xc.ext dW95
    replace hR2 := hR2.ext dW95
    replace hR3 := hR3.ext dW95
    clear hN
    refine Calls.mono (spec_SameIndices vs A94 A95 cap94 cap95 W95 hR2 hR3 (by omega)) ?_
    rintro e w96 ⟨rfl, hb96⟩
    have hw96 := eW95.trans hb96
    replace Xf := Xf.ext hb96
    replace Xm := Xm.ext hb96
    replace Xc := Xc.ext hb96
    replace hR2 := hR2.ext hb96
    replace hR3 := hR3.ext hb96
    clear hb96 dW95 eW95
    clear hR2
    have c16 := fun W h => spec_HasIndex vs A95 cap95 a W h (by omega)
    rw [show decide ((a : Int) ∈ vs) = decide (ch ≤ 2) by rw [decide_eq_decide]; exact k11.out] at c16
    go_wp2_with fail
    refine intro_world (R := fun W => Calls _ _ _ W _) (fun W96 hN => ?_)
    have dW96 : Ext w96 W96 := by rw [hN]; exact (Ext.refl _)
    have eW96 := hw96.trans dW96
    replace Xf := Xf.ext dW96
    replace Xm := Xm.ext dW96
    replace Xc := Xc.ext dW96
    replace hR3 := hR3.ext dW96
    clear hN
    refine Calls.mono (c16 W96 hR3) ?_
    rintro e w97 ⟨rfl, hb97⟩
    have hw97 := eW96.trans hb97
    replace Xf := Xf.ext hb97
    replace Xm := Xm.ext hb97
    replace Xc := Xc.ext hb97
    replace hR3 := hR3.ext hb97
    clear hb97 dW96 eW96
    clear hR3
    clear c9 c10 c11 c16
    by_cases hfar : 1 < far'
    · have hn1 := k13.out hfar
      rw [hn1] at c12
      try dsimp only at c12
      have yf0 : w97.cell? ⟨w11.heap.size, 0, none⟩ = some (.string f.nm) := Xf.cell 0
      have yf1 : w97.cell? ⟨w11.heap.size, 1, none⟩ = some (.int .i8 f.kd) := Xf.cell 1
      have yf2 : w97.cell? ⟨w11.heap.size, 2, none⟩ = some (.int .i16 f.st) := Xf.cell 2
      have yf3 : w97.cell? ⟨w11.heap.size, 3, none⟩ = some (.int .i16 f.sz) := Xf.cell 3
      have lf := Xf.lt
      have ym0 : w97.cell? ⟨w19.heap.size, 0, none⟩ = some (.int .u64 (lo m)) := Xm.cell 0
      have ym1 : w97.cell? ⟨w19.heap.size, 1, none⟩ = some (.int .u64 (hi m)) := Xm.cell 1
      have lm := Xm.lt
      go_wp2_with fail
      refine intro_world (R := fun W => Calls _ _ _ W _) (fun W97 hN => ?_)
      have dW97 : Ext w97 W97 := by rw [hN]; exact (Ext.refl _)
      have eW97 := hw97.trans dW97
      replace Xf := Xf.ext dW97
      replace Xm := Xm.ext dW97
      replace Xc := Xc.ext dW97
      clear hN
      clear yf0 yf1 yf2 yf3 lf ym0 ym1 lm
      refine Calls.mono (c12 W97) ?_
      rintro e w98 ⟨v98, rfl, hO98, hb98⟩
      obtain ⟨A98, cap98, rfl, hle98, hR4⟩ := hO98.slice
      have hw98 := eW97.trans hb98
      replace Xf := Xf.ext hb98
      replace Xm := Xm.ext hb98
      replace Xc := Xc.ext hb98
      clear hb98 dW97 eW97 hO98
      go_wp2_with fail
      refine intro_world (R := fun W => Calls _ _ _ W _) (fun W98 hN => ?_)
      have dW98 : Ext w98 W98 := by rw [hN]; exact (Ext.refl _).alloc _
      have eW98 := hw98.trans dW98
      replace Xf := Xf.ext dW98
      replace Xm := Xm.ext dW98
      replace Xc := Xc.ext dW98
      replace hR4 := hR4.ext dW98
      have Xl2 : BoxAt W98 w98.heap.size #[.int .i64 a] 2 := by rw [hN]; exact (BoxAt.new' rfl)
      clear hN
      refine Calls.mono (spec_SameIndices [(a : Int)] A98 (some ⟨w98.heap.size, 0, none⟩) cap98 1 W98 hR4 (rd_one Xl2) (by simp)) ?_
      rintro e w99 ⟨rfl, hb99⟩
      have hw99 := eW98.trans hb99
      replace Xf := Xf.ext hb99
      replace Xm := Xm.ext hb99
      replace Xc := Xc.ext hb99
      replace Xl2 := Xl2.ext hb99
      replace hR4 := hR4.ext hb99
      clear hb99 dW98 eW98
      clear Xl2
      clear hR4
      clear c12
      have yf0 : w99.cell? ⟨w11.heap.size, 0, none⟩ = some (.string f.nm) := Xf.cell 0
      have yf1 : w99.cell? ⟨w11.heap.size, 1, none⟩ = some (.int .i8 f.kd) := Xf.cell 1
      have yf2 : w99.cell? ⟨w11.heap.size, 2, none⟩ = some (.int .i16 f.st) := Xf.cell 2
      have yf3 : w99.cell? ⟨w11.heap.size, 3, none⟩ = some (.int .i16 f.sz) := Xf.cell 3
      have lf := Xf.lt
      have ym0 : w99.cell? ⟨w19.heap.size, 0, none⟩ = some (.int .u64 (lo m)) := Xm.cell 0
      have ym1 : w99.cell? ⟨w19.heap.size, 1, none⟩ = some (.int .u64 (hi m)) := Xm.cell 1
      have lm := Xm.lt
      go_wp2_with fail
      refine intro_world (R := fun W => Calls _ _ _ W _) (fun W99 hN => ?_)
      have dW99 : Ext w99 W99 := by rw [hN]; exact (Ext.refl _)
      have eW99 := hw99.trans dW99
      replace Xf := Xf.ext dW99
      replace Xm := Xm.ext dW99
      replace Xc := Xc.ext dW99
      clear hN
      clear yf0 yf1 yf2 yf3 lf ym0 ym1 lm
      refine Calls.mono (c13 W99) ?_
      rintro e w100 ⟨rfl, hb100⟩
      have hw100 := eW99.trans hb100
      replace Xf := Xf.ext hb100
      replace Xm := Xm.ext hb100
      replace Xc := Xc.ext hb100
      clear hb100 dW99 eW99
      have yf0 : w100.cell? ⟨w11.heap.size, 0, none⟩ = some (.string f.nm) := Xf.cell 0
      have yf1 : w100.cell? ⟨w11.heap.size, 1, none⟩ = some (.int .i8 f.kd) := Xf.cell 1
      have yf2 : w100.cell? ⟨w11.heap.size, 2, none⟩ = some (.int .i16 f.st) := Xf.cell 2
      have yf3 : w100.cell? ⟨w11.heap.size, 3, none⟩ = some (.int .i16 f.sz) := Xf.cell 3
      have lf := Xf.lt
      have yc0 : w100.cell? ⟨w20.heap.size, 0, none⟩ = some (.string (⟨#[97]⟩ : ByteArray)) := Xc.cell 0
      have yc1 : w100.cell? ⟨w20.heap.size, 1, none⟩ = some (.int .u64 (lo c)) := Xc.cell 1
      have yc2 : w100.cell? ⟨w20.heap.size, 2, none⟩ = some (.int .u64 (hi c)) := Xc.cell 2
      have lc := Xc.lt
      go_wp2_with fail
      refine intro_world (R := fun W => Calls _ _ _ W _) (fun W100 hN => ?_)
      have dW100 : Ext w100 W100 := by rw [hN]; exact (Ext.refl _)
      have eW100 := hw100.trans dW100
      replace Xf := Xf.ext dW100
      replace Xm := Xm.ext dW100
      replace Xc := Xc.ext dW100
      clear hN
      clear yf0 yf1 yf2 yf3 lf yc0 yc1 yc2 lc
      refine Calls.mono (c14 W100) ?_
      rintro e w101 ⟨rfl, hb101⟩
      have hw101 := eW100.trans hb101
      replace Xf := Xf.ext hb101
      replace Xm := Xm.ext hb101
      replace Xc := Xc.ext hb101
      clear hb101 dW100 eW100
      have yf0 : w101.cell? ⟨w11.heap.size, 0, none⟩ = some (.string f.nm) := Xf.cell 0
      have yf1 : w101.cell? ⟨w11.heap.size, 1, none⟩ = some (.int .i8 f.kd) := Xf.cell 1
      have yf2 : w101.cell? ⟨w11.heap.size, 2, none⟩ = some (.int .i16 f.st) := Xf.cell 2
      have yf3 : w101.cell? ⟨w11.heap.size, 3, none⟩ = some (.int .i16 f.sz) := Xf.cell 3
      have lf := Xf.lt
      have yc0 : w101.cell? ⟨w20.heap.size, 0, none⟩ = some (.string (⟨#[97]⟩ : ByteArray)) := Xc.cell 0
      have yc1 : w101.cell? ⟨w20.heap.size, 1, none⟩ = some (.int .u64 (lo c)) := Xc.cell 1
      have yc2 : w101.cell? ⟨w20.heap.size, 2, none⟩ = some (.int .u64 (hi c)) := Xc.cell 2
      have lc := Xc.lt
      go_wp2_with fail
      refine intro_world (R := fun W => Calls _ _ _ W _) (fun W101 hN => ?_)
      have dW101 : Ext w101 W101 := by rw [hN]; exact (Ext.refl _)
      have eW101 := hw101.trans dW101
      replace Xf := Xf.ext dW101
      replace Xm := Xm.ext dW101
      replace Xc := Xc.ext dW101
      clear hN
      clear yf0 yf1 yf2 yf3 lf yc0 yc1 yc2 lc
      refine Calls.mono (c15 W101) ?_
      rintro e w102 ⟨rfl, hb102⟩
      have hw102 := eW101.trans hb102
      replace Xf := Xf.ext hb102
      replace Xm := Xm.ext hb102
      replace Xc := Xc.ext hb102
      clear hb102 dW101 eW101
      clear c13 c14 c15
      by_cases h0 : code = 0
      · subst h0
        have h1 := k16.out rfl
        go_wp2
        go_ret
        exact ⟨by simp [h1], hw102⟩
      · go_wp2
        go_ret
        exact ⟨by simp [h0], hw102⟩
    · have hfar2 : far' ≤ 1 := by omega
      clear c12
      have yf0 : w97.cell? ⟨w11.heap.size, 0, none⟩ = some (.string f.nm) := Xf.cell 0
      have yf1 : w97.cell? ⟨w11.heap.size, 1, none⟩ = some (.int .i8 f.kd) := Xf.cell 1
      have yf2 : w97.cell? ⟨w11.heap.size, 2, none⟩ = some (.int .i16 f.st) := Xf.cell 2
      have yf3 : w97.cell? ⟨w11.heap.size, 3, none⟩ = some (.int .i16 f.sz) := Xf.cell 3
      have lf := Xf.lt
      have ym0 : w97.cell? ⟨w19.heap.size, 0, none⟩ = some (.int .u64 (lo m)) := Xm.cell 0
      have ym1 : w97.cell? ⟨w19.heap.size, 1, none⟩ = some (.int .u64 (hi m)) := Xm.cell 1
      have lm := Xm.lt
      go_wp2_with fail
      refine intro_world (R := fun W => Calls _ _ _ W _) (fun W97 hN => ?_)
      have dW97 : Ext w97 W97 := by rw [hN]; exact (Ext.refl _)
      have eW97 := hw97.trans dW97
      replace Xf := Xf.ext dW97
      replace Xm := Xm.ext dW97
      replace Xc := Xc.ext dW97
      clear hN
      clear yf0 yf1 yf2 yf3 lf ym0 ym1 lm
      refine Calls.mono (c13 W97) ?_
      rintro e w98 ⟨rfl, hb98⟩
      have hw98 := eW97.trans hb98
      replace Xf := Xf.ext hb98
      replace Xm := Xm.ext hb98
      replace Xc := Xc.ext hb98
      clear hb98 dW97 eW97
      have yf0 : w98.cell? ⟨w11.heap.size, 0, none⟩ = some (.string f.nm) := Xf.cell 0
      have yf1 : w98.cell? ⟨w11.heap.size, 1, none⟩ = some (.int .i8 f.kd) := Xf.cell 1
      have yf2 : w98.cell? ⟨w11.heap.size, 2, none⟩ = some (.int .i16 f.st) := Xf.cell 2
      have yf3 : w98.cell? ⟨w11.heap.size, 3, none⟩ = some (.int .i16 f.sz) := Xf.cell 3
      have lf := Xf.lt
      have yc0 : w98.cell? ⟨w20.heap.size, 0, none⟩ = some (.string (⟨#[97]⟩ : ByteArray)) := Xc.cell 0
      have yc1 : w98.cell? ⟨w20.heap.size, 1, none⟩ = some (.int .u64 (lo c)) := Xc.cell 1
      have yc2 : w98.cell? ⟨w20.heap.size, 2, none⟩ = some (.int .u64 (hi c)) := Xc.cell 2
      have lc := Xc.lt
      go_wp2_with fail
      refine intro_world (R := fun W => Calls _ _ _ W _) (fun W98 hN => ?_)
      have dW98 : Ext w98 W98 := by rw [hN]; exact (Ext.refl _)
      have eW98 := hw98.trans dW98
      replace Xf := Xf.ext dW98
      replace Xm := Xm.ext dW98
      replace Xc := Xc.ext dW98
      clear hN
      clear yf0 yf1 yf2 yf3 lf yc0 yc1 yc2 lc
      refine Calls.mono (c14 W98) ?_
      rintro e w99 ⟨rfl, hb99⟩
      have hw99 := eW98.trans hb99
      replace Xf := Xf.ext hb99
      replace Xm := Xm.ext hb99
      replace Xc := Xc.ext hb99
      clear hb99 dW98 eW98
      have yf0 : w99.cell? ⟨w11.heap.size, 0, none⟩ = some (.string f.nm) := Xf.cell 0
      have yf1 : w99.cell? ⟨w11.heap.size, 1, none⟩ = some (.int .i8 f.kd) := Xf.cell 1
      have yf2 : w99.cell? ⟨w11.heap.size, 2, none⟩ = some (.int .i16 f.st) := Xf.cell 2
      have yf3 : w99.cell? ⟨w11.heap.size, 3, none⟩ = some (.int .i16 f.sz) := Xf.cell 3
      have lf := Xf.lt
      have yc0 : w99.cell? ⟨w20.heap.size, 0, none⟩ = some (.string (⟨#[97]⟩ : ByteArray)) := Xc.cell 0
      have yc1 : w99.cell? ⟨w20.heap.size, 1, none⟩ = some (.int .u64 (lo c)) := Xc.cell 1
      have yc2 : w99.cell? ⟨w20.heap.size, 2, none⟩ = some (.int .u64 (hi c)) := Xc.cell 2
      have lc := Xc.lt
      go_wp2_with fail
      refine intro_world (R := fun W => Calls _ _ _ W _) (fun W99 hN => ?_)
      have dW99 : Ext w99 W99 := by rw [hN]; exact (Ext.refl _)
      have eW99 := hw99.trans dW99
      replace Xf := Xf.ext dW99
      replace Xm := Xm.ext dW99
      replace Xc := Xc.ext dW99
      clear hN
      clear yf0 yf1 yf2 yf3 lf yc0 yc1 yc2 lc
      refine Calls.mono (c15 W99) ?_
      rintro e w100 ⟨rfl, hb100⟩
      have hw100 := eW99.trans hb100
      replace Xf := Xf.ext hb100
      replace Xm := Xm.ext hb100
      replace Xc := Xc.ext hb100
      clear hb100 dW99 eW99
      clear c13 c14 c15
      by_cases h0 : code = 0
      · subst h0
        have h1 := k16.out rfl
        go_wp2
        go_ret
        exact ⟨by simp [h1], hw100⟩
      · go_wp2
        go_ret
        exact ⟨by simp [h0], hw100⟩
  · have hcd2 : far' ≤ ch := by omega
    have yf0 : w91.cell? ⟨w11.heap.size, 0, none⟩ = some (.string f.nm) := Xf.cell 0
    have yf1 : w91.cell? ⟨w11.heap.size, 1, none⟩ = some (.int .i8 f.kd) := Xf.cell 1
    have yf2 : w91.cell? ⟨w11.heap.size, 2, none⟩ = some (.int .i16 f.st) := Xf.cell 2
    have yf3 : w91.cell? ⟨w11.heap.size, 3, none⟩ = some (.int .i16 f.sz) := Xf.cell 3
    have lf := Xf.lt
    have ym0 : w91.cell? ⟨w19.heap.size, 0, none⟩ = some (.int .u64 (lo m)) := Xm.cell 0
    have ym1 : w91.cell? ⟨w19.heap.size, 1, none⟩ = some (.int .u64 (hi m)) := Xm.cell 1
    have lm := Xm.lt
    go_wp2_with fail
    refine intro_world (R := fun W => Calls _ _ _ W _) (fun W91 hN => ?_)
    have dW91 : Ext w91 W91 := by rw [hN]; exact (Ext.refl _)
    have eW91 := hw91.trans dW91
    replace Xf := Xf.ext dW91
    replace Xm := Xm.ext dW91
    replace Xc := Xc.ext dW91
    clear hN
    clear yf0 yf1 yf2 yf3 lf ym0 ym1 lm
    refine Calls.mono (c9 W91) ?_
    rintro e w92 ⟨v92, rfl, hO92, hb92⟩
    obtain ⟨A92, cap92, rfl, hle92, hR1⟩ := hO92.slice
    have hw92 := eW91.trans hb92
    replace Xf := Xf.ext hb92
    replace Xm := Xm.ext hb92
    replace Xc := Xc.ext hb92
    clear hb92 dW91 eW91 hO92
    go_wp2_with fail
    refine intro_world (R := fun W => Calls _ _ _ W _) (fun W92 hN => ?_)
    have dW92 : Ext w92 W92 := by rw [hN]; exact (Ext.refl _).alloc _
    have eW92 := hw92.trans dW92
    replace Xf := Xf.ext dW92
    replace Xm := Xm.ext dW92
    replace Xc := Xc.ext dW92
    replace hR1 := hR1.ext dW92
    have Xl1 : BoxAt W92 w92.heap.size #[.int .i64 a] 2 := by rw [hN]; exact (BoxAt.new' rfl)
    clear hN
    refine Calls.mono (spec_SameIndices [(a : Int)] A92 (some ⟨w92.heap.size, 0, none⟩) cap92 1 W92 hR1 (rd_one Xl1) (by simp)) ?_
    rintro e w93 ⟨rfl, hb93⟩
    have hw93 := eW92.trans hb93
    replace Xf := Xf.ext hb93
    replace Xm := Xm.ext hb93
    replace Xc := Xc.ext hb93
    replace Xl1 := Xl1.ext hb93
    replace hR1 := hR1.ext hb93
    clear hb93 dW92 eW92
    clear Xl1
    clear hR1
    have yf0 : w93.cell? ⟨w11.heap.size, 0, none⟩ = some (.string f.nm) := Xf.cell 0
    have yf1 : w93.cell? ⟨w11.heap.size, 1, none⟩ = some (.int .i8 f.kd) := Xf.cell 1
    have yf2 : w93.cell? ⟨w11.heap.size, 2, none⟩ = some (.int .i16 f.st) := Xf.cell 2
    have yf3 : w93.cell? ⟨w11.heap.size, 3, none⟩ = some (.int .i16 f.sz) := Xf.cell 3
    have lf := Xf.lt
    have yc0 : w93.cell? ⟨w20.heap.size, 0, none⟩ = some (.string (⟨#[97]⟩ : ByteArray)) := Xc.cell 0
    have yc1 : w93.cell? ⟨w20.heap.size, 1, none⟩ = some (.int .u64 (lo c)) := Xc.cell 1
    have yc2 : w93.cell? ⟨w20.heap.size, 2, none⟩ = some (.int .u64 (hi c)) := Xc.cell 2
    have lc := Xc.lt
    go_wp2_with fail
    refine intro_world (R := fun W => Calls _ _ _ W _) (fun W93 hN => ?_)
    have dW93 : Ext w93 W93 := by rw [hN]; exact (Ext.refl _)
    have eW93 := hw93.trans dW93
    replace Xf := Xf.ext dW93
    replace Xm := Xm.ext dW93
    replace Xc := Xc.ext dW93
    clear hN
    clear yf0 yf1 yf2 yf3 lf yc0 yc1 yc2 lc
    refine Calls.mono (c10 W93) ?_
    rintro e w94 ⟨v94, rfl, hO94, hb94⟩
    obtain ⟨A94, cap94, rfl, hle94, hR2⟩ := hO94.slice
    have hw94 := eW93.trans hb94
    replace Xf := Xf.ext hb94
    replace Xm := Xm.ext hb94
    replace Xc := Xc.ext hb94
    clear hb94 dW93 eW93 hO94
    have yf0 : w94.cell? ⟨w11.heap.size, 0, none⟩ = some (.string f.nm) := Xf.cell 0
    have yf1 : w94.cell? ⟨w11.heap.size, 1, none⟩ = some (.int .i8 f.kd) := Xf.cell 1
    have yf2 : w94.cell? ⟨w11.heap.size, 2, none⟩ = some (.int .i16 f.st) := Xf.cell 2
    have yf3 : w94.cell? ⟨w11.heap.size, 3, none⟩ = some (.int .i16 f.sz) := Xf.cell 3
    have lf := Xf.lt
    have yc0 : w94.cell? ⟨w20.heap.size, 0, none⟩ = some (.string (⟨#[97]⟩ : ByteArray)) := Xc.cell 0
    have yc1 : w94.cell? ⟨w20.heap.size, 1, none⟩ = some (.int .u64 (lo c)) := Xc.cell 1
    have yc2 : w94.cell? ⟨w20.heap.size, 2, none⟩ = some (.int .u64 (hi c)) := Xc.cell 2
    have lc := Xc.lt
    go_wp2_with fail
    refine intro_world (R := fun W => Calls _ _ _ W _) (fun W94 hN => ?_)
    have dW94 : Ext w94 W94 := by rw [hN]; exact (Ext.refl _)
    have eW94 := hw94.trans dW94
    replace Xf := Xf.ext dW94
    replace Xm := Xm.ext dW94
    replace Xc := Xc.ext dW94
    replace hR2 := hR2.ext dW94
    clear hN
    clear yf0 yf1 yf2 yf3 lf yc0 yc1 yc2 lc
    refine Calls.mono (c11 W94) ?_
    rintro e w95 ⟨v95, rfl, hO95, hb95⟩
    obtain ⟨A95, cap95, rfl, hle95, hR3⟩ := hO95.slice
    have hw95 := eW94.trans hb95
    replace Xf := Xf.ext hb95
    replace Xm := Xm.ext hb95
    replace Xc := Xc.ext hb95
    replace hR2 := hR2.ext hb95
    clear hb95 dW94 eW94 hO95
    go_wp2_with fail
    refine intro_world (R := fun W => Calls _ _ _ W _) (fun W95 hN => ?_)
    have dW95 : Ext w95 W95 := by rw [hN]; exact (Ext.refl _)
    have eW95 := hw95.trans dW95
    replace Xf := Xf.ext dW95
    replace Xm := Xm.ext dW95
    replace Xc := Xc.ext dW95
    replace hR2 := hR2.ext dW95
    replace hR3 := hR3.ext dW95
    clear hN
    refine Calls.mono (spec_SameIndices vs A94 A95 cap94 cap95 W95 hR2 hR3 (by omega)) ?_
    rintro e w96 ⟨rfl, hb96⟩
    have hw96 := eW95.trans hb96
    replace Xf := Xf.ext hb96
    replace Xm := Xm.ext hb96
    replace Xc := Xc.ext hb96
    replace hR2 := hR2.ext hb96
    replace hR3 := hR3.ext hb96
    clear hb96 dW95 eW95
    clear hR2
    have c16 := fun W h => spec_HasIndex vs A95 cap95 a W h (by omega)
    rw [show decide ((a : Int) ∈ vs) = decide (ch ≤ 2) by rw [decide_eq_decide]; exact k11.out] at c16
    go_wp2_with fail
    refine intro_world (R := fun W => Calls _ _ _ W _) (fun W96 hN => ?_)
    have dW96 : Ext w96 W96 := by rw [hN]; exact (Ext.refl _)
    have eW96 := hw96.trans dW96
    replace Xf := Xf.ext dW96
    replace Xm := Xm.ext dW96
    replace Xc := Xc.ext dW96
    replace hR3 := hR3.ext dW96
    clear hN
    refine Calls.mono (c16 W96 hR3) ?_
    rintro e w97 ⟨rfl, hb97⟩
    have hw97 := eW96.trans hb97
    replace Xf := Xf.ext hb97
    replace Xm := Xm.ext hb97
    replace Xc := Xc.ext hb97
    replace hR3 := hR3.ext hb97
    clear hb97 dW96 eW96
    clear hR3
    clear c9 c10 c11 c16
    by_cases hfar : 1 < far'
    · have hn1 := k13.out hfar
      rw [hn1] at c12
      try dsimp only at c12
      have yf0 : w97.cell? ⟨w11.heap.size, 0, none⟩ = some (.string f.nm) := Xf.cell 0
      have yf1 : w97.cell? ⟨w11.heap.size, 1, none⟩ = some (.int .i8 f.kd) := Xf.cell 1
      have yf2 : w97.cell? ⟨w11.heap.size, 2, none⟩ = some (.int .i16 f.st) := Xf.cell 2
      have yf3 : w97.cell? ⟨w11.heap.size, 3, none⟩ = some (.int .i16 f.sz) := Xf.cell 3
      have lf := Xf.lt
      have ym0 : w97.cell? ⟨w19.heap.size, 0, none⟩ = some (.int .u64 (lo m)) := Xm.cell 0
      have ym1 : w97.cell? ⟨w19.heap.size, 1, none⟩ = some (.int .u64 (hi m)) := Xm.cell 1
      have lm := Xm.lt
      go_wp2_with fail
      refine intro_world (R := fun W => Calls _ _ _ W _) (fun W97 hN => ?_)
      have dW97 : Ext w97 W97 := by rw [hN]; exact (Ext.refl _)
      have eW97 := hw97.trans dW97
      replace Xf := Xf.ext dW97
      replace Xm := Xm.ext dW97
      replace Xc := Xc.ext dW97
      clear hN
      clear yf0 yf1 yf2 yf3 lf ym0 ym1 lm
      refine Calls.mono (c12 W97) ?_
      rintro e w98 ⟨v98, rfl, hO98, hb98⟩
      obtain ⟨A98, cap98, rfl, hle98, hR4⟩ := hO98.slice
      have hw98 := eW97.trans hb98
      replace Xf := Xf.ext hb98
      replace Xm := Xm.ext hb98
      replace Xc := Xc.ext hb98
      clear hb98 dW97 eW97 hO98
      go_wp2_with fail
      refine intro_world (R := fun W => Calls _ _ _ W _) (fun W98 hN => ?_)
      have dW98 : Ext w98 W98 := by rw [hN]; exact (Ext.refl _).alloc _
      have eW98 := hw98.trans dW98
      replace Xf := Xf.ext dW98
      replace Xm := Xm.ext dW98
      replace Xc := Xc.ext dW98
      replace hR4 := hR4.ext dW98
      have Xl2 : BoxAt W98 w98.heap.size #[.int .i64 a] 2 := by rw [hN]; exact (BoxAt.new' rfl)
      clear hN
      refine Calls.mono (spec_SameIndices [(a : Int)] A98 (some ⟨w98.heap.size, 0, none⟩) cap98 1 W98 hR4 (rd_one Xl2) (by simp)) ?_
      rintro e w99 ⟨rfl, hb99⟩
      have hw99 := eW98.trans hb99
      replace Xf := Xf.ext hb99
      replace Xm := Xm.ext hb99
      replace Xc := Xc.ext hb99
      replace Xl2 := Xl2.ext hb99
      replace hR4 := hR4.ext hb99
      clear hb99 dW98 eW98
      clear Xl2
      clear hR4
      clear c12
      have yf0 : w99.cell? ⟨w11.heap.size, 0, none⟩ = some (.string f.nm) := Xf.cell 0
      have yf1 : w99.cell? ⟨w11.heap.size, 1, none⟩ = some (.int .i8 f.kd) := Xf.cell 1
      have yf2 : w99.cell? ⟨w11.heap.size, 2, none⟩ = some (.int .i16 f.st) := Xf.cell 2
      have yf3 : w99.cell? ⟨w11.heap.size, 3, none⟩ = some (.int .i16 f.sz) := Xf.cell 3
      have lf := Xf.lt
      have ym0 : w99.cell? ⟨w19.heap.size, 0, none⟩ = some (.int .u64 (lo m)) := Xm.cell 0
      have ym1 : w99.cell? ⟨w19.heap.size, 1, none⟩ = some (.int .u64 (hi m)) := Xm.cell 1
      have lm := Xm.lt
      go_wp2_with fail
      refine intro_world (R := fun W => Calls _ _ _ W _) (fun W99 hN => ?_)
      have dW99 : Ext w99 W99 := by rw [hN]; exact (Ext.refl _)
      have eW99 := hw99.trans dW99
      replace Xf := Xf.ext dW99
      replace Xm := Xm.ext dW99
      replace Xc := Xc.ext dW99
      clear hN
      clear yf0 yf1 yf2 yf3 lf ym0 ym1 lm
      refine Calls.mono (c13 W99) ?_
      rintro e w100 ⟨rfl, hb100⟩
      have hw100 := eW99.trans hb100
      replace Xf := Xf.ext hb100
      replace Xm := Xm.ext hb100
      replace Xc := Xc.ext hb100
      clear hb100 dW99 eW99
      have yf0 : w100.cell? ⟨w11.heap.size, 0, none⟩ = some (.string f.nm) := Xf.cell 0
      have yf1 : w100.cell? ⟨w11.heap.size, 1, none⟩ = some (.int .i8 f.kd) := Xf.cell 1
      have yf2 : w100.cell? ⟨w11.heap.size, 2, none⟩ = some (.int .i16 f.st) := Xf.cell 2
      have yf3 : w100.cell? ⟨w11.heap.size, 3, none⟩ = some (.int .i16 f.sz) := Xf.cell 3
      have lf := Xf.lt
      have yc0 : w100.cell? ⟨w20.heap.size, 0, none⟩ = some (.string (⟨#[97]⟩ : ByteArray)) := Xc.cell 0
      have yc1 : w100.cell? ⟨w20.heap.size, 1, none⟩ = some (.int .u64 (lo c)) := Xc.cell 1
      have yc2 : w100.cell? ⟨w20.heap.size, 2, none⟩ = some (.int .u64 (hi c)) := Xc.cell 2
      have lc := Xc.lt
      go_wp2_with fail
      refine intro_world (R := fun W => Calls _ _ _ W _) (fun W100 hN => ?_)
      have dW100 : Ext w100 W100 := by rw [hN]; exact (Ext.refl _)
      have eW100 := hw100.trans dW100
      replace Xf := Xf.ext dW100
      replace Xm := Xm.ext dW100
      replace Xc := Xc.ext dW100
      clear hN
      clear yf0 yf1 yf2 yf3 lf yc0 yc1 yc2 lc
      refine Calls.mono (c14 W100) ?_
      rintro e w101 ⟨rfl, hb101⟩
      have hw101 := eW100.trans hb101
      replace Xf := Xf.ext hb101
      replace Xm := Xm.ext hb101
      replace Xc := Xc.ext hb101
      clear hb101 dW100 eW100
      have yf0 : w101.cell? ⟨w11.heap.size, 0, none⟩ = some (.string f.nm) := Xf.cell 0
      have yf1 : w101.cell? ⟨w11.heap.size, 1, none⟩ = some (.int .i8 f.kd) := Xf.cell 1
      have yf2 : w101.cell? ⟨w11.heap.size, 2, none⟩ = some (.int .i16 f.st) := Xf.cell 2
      have yf3 : w101.cell? ⟨w11.heap.size, 3, none⟩ = some (.int .i16 f.sz) := Xf.cell 3
      have lf := Xf.lt
      have yc0 : w101.cell? ⟨w20.heap.size, 0, none⟩ = some (.string (⟨#[97]⟩ : ByteArray)) := Xc.cell 0
      have yc1 : w101.cell? ⟨w20.heap.size, 1, none⟩ = some (.int .u64 (lo c)) := Xc.cell 1
      have yc2 : w101.cell? ⟨w20.heap.size, 2, none⟩ = some (.int .u64 (hi c)) := Xc.cell 2
      have lc := Xc.lt
      go_wp2_with fail
      refine intro_world (R := fun W => Calls _ _ _ W _) (fun W101 hN => ?_)
      have dW101 : Ext w101 W101 := by rw [hN]; exact (Ext.refl _)
      have eW101 := hw101.trans dW101
      replace Xf := Xf.ext dW101
      replace Xm := Xm.ext dW101
      replace Xc := Xc.ext dW101
      clear hN
      clear yf0 yf1 yf2 yf3 lf yc0 yc1 yc2 lc
      refine Calls.mono (c15 W101) ?_
      rintro e w102 ⟨rfl, hb102⟩
      have hw102 := eW101.trans hb102
      replace Xf := Xf.ext hb102
      replace Xm := Xm.ext hb102
      replace Xc := Xc.ext hb102
      clear hb102 dW101 eW101
      clear c13 c14 c15
      by_cases h0 : code = 0
      · subst h0
        have h1 := k16.out rfl
        go_wp2
        go_ret
        exact ⟨by simp [h1], hw102⟩
      · go_wp2
        go_ret
        exact ⟨by simp [h0], hw102⟩
    · have hfar2 : far' ≤ 1 := by omega
      clear c12
      have yf0 : w97.cell? ⟨w11.heap.size, 0, none⟩ = some (.string f.nm) := Xf.cell 0
      have yf1 : w97.cell? ⟨w11.heap.size, 1, none⟩ = some (.int .i8 f.kd) := Xf.cell 1
      have yf2 : w97.cell? ⟨w11.heap.size, 2, none⟩ = some (.int .i16 f.st) := Xf.cell 2
      have yf3 : w97.cell? ⟨w11.heap.size, 3, none⟩ = some (.int .i16 f.sz) := Xf.cell 3
      have lf := Xf.lt
      have ym0 : w97.cell? ⟨w19.heap.size, 0, none⟩ = some (.int .u64 (lo m)) := Xm.cell 0
      have ym1 : w97.cell? ⟨w19.heap.size, 1, none⟩ = some (.int .u64 (hi m)) := Xm.cell 1
      have lm := Xm.lt
      go_wp2_with fail
      refine intro_world (R := fun W => Calls _ _ _ W _) (fun W97 hN => ?_)
      have dW97 : Ext w97 W97 := by rw [hN]; exact (Ext.refl _)
      have eW97 := hw97.trans dW97
      replace Xf := Xf.ext dW97
      replace Xm := Xm.ext dW97
      replace Xc := Xc.ext dW97
      clear hN
      clear yf0 yf1 yf2 yf3 lf ym0 ym1 lm
      refine Calls.mono (c13 W97) ?_
      rintro e w98 ⟨rfl, hb98⟩
      have hw98 := eW97.trans hb98
      replace Xf := Xf.ext hb98
      replace Xm := Xm.ext hb98
      replace Xc := Xc.ext hb98
      clear hb98 dW97 eW97
      have yf0 : w98.cell? ⟨w11.heap.size, 0, none⟩ = some (.string f.nm) := Xf.cell 0
      have yf1 : w98.cell? ⟨w11.heap.size, 1, none⟩ = some (.int .i8 f.kd) := Xf.cell 1
      have yf2 : w98.cell? ⟨w11.heap.size, 2, none⟩ = some (.int .i16 f.st) := Xf.cell 2
      have yf3 : w98.cell? ⟨w11.heap.size, 3, none⟩ = some (.int .i16 f.sz) := Xf.cell 3
      have lf := Xf.lt
      have yc0 : w98.cell? ⟨w20.heap.size, 0, none⟩ = some (.string (⟨#[97]⟩ : ByteArray)) := Xc.cell 0
      have yc1 : w98.cell? ⟨w20.heap.size, 1, none⟩ = some (.int .u64 (lo c)) := Xc.cell 1
      have yc2 : w98.cell? ⟨w20.heap.size, 2, none⟩ = some (.int .u64 (hi c)) := Xc.cell 2
      have lc := Xc.lt
      go_wp2_with fail
      refine intro_world (R := fun W => Calls _ _ _ W _) (fun W98 hN => ?_)
      have dW98 : Ext w98 W98 := by rw [hN]; exact (Ext.refl _)
      have eW98 := hw98.trans dW98
      replace Xf := Xf.ext dW98
      replace Xm := Xm.ext dW98
      replace Xc := Xc.ext dW98
      clear hN
      clear yf0 yf1 yf2 yf3 lf yc0 yc1 yc2 lc
      refine Calls.mono (c14 W98) ?_
      rintro e w99 ⟨rfl, hb99⟩
      have hw99 := eW98.trans hb99
      replace Xf := Xf.ext hb99
      replace Xm := Xm.ext hb99
      replace Xc := Xc.ext hb99
      clear hb99 dW98 eW98
      have yf0 : w99.cell? ⟨w11.heap.size, 0, none⟩ = some (.string f.nm) := Xf.cell 0
      have yf1 : w99.cell? ⟨w11.heap.size, 1, none⟩ = some (.int .i8 f.kd) := Xf.cell 1
      have yf2 : w99.cell? ⟨w11.heap.size, 2, none⟩ = some (.int .i16 f.st) := Xf.cell 2
      have yf3 : w99.cell? ⟨w11.heap.size, 3, none⟩ = some (.int .i16 f.sz) := Xf.cell 3
      have lf := Xf.lt
      have yc0 : w99.cell? ⟨w20.heap.size, 0, none⟩ = some (.string (⟨#[97]⟩ : ByteArray)) := Xc.cell 0
      have yc1 : w99.cell? ⟨w20.heap.size, 1, none⟩ = some (.int .u64 (lo c)) := Xc.cell 1
      have yc2 : w99.cell? ⟨w20.heap.size, 2, none⟩ = some (.int .u64 (hi c)) := Xc.cell 2
      have lc := Xc.lt
      go_wp2_with fail
      refine intro_world (R := fun W => Calls _ _ _ W _) (fun W99 hN => ?_)
      have dW99 : Ext w99 W99 := by rw [hN]; exact (Ext.refl _)
      have eW99 := hw99.trans dW99
      replace Xf := Xf.ext dW99
      replace Xm := Xm.ext dW99
      replace Xc := Xc.ext dW99
      clear hN
      clear yf0 yf1 yf2 yf3 lf yc0 yc1 yc2 lc
      refine Calls.mono (c15 W99) ?_
      rintro e w100 ⟨rfl, hb100⟩
      have hw100 := eW99.trans hb100
      replace Xf := Xf.ext hb100
      replace Xm := Xm.ext hb100
      replace Xc := Xc.ext hb100
      clear hb100 dW99 eW99
      clear c13 c14 c15
      by_cases h0 : code = 0
      · subst h0
        have h1 := k16.out rfl
        go_wp2
        go_ret
        exact ⟨by simp [h1], hw100⟩
      · go_wp2
        go_ret
        exact ⟨by simp [h0], hw100⟩
end Go.Proofs.YtegopgpnjgikeaaDoor
