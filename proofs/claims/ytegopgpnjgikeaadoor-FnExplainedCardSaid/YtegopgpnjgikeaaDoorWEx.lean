/-
  The walk of the law FnExplained.
-/
import Derived.Test.YtegopgpnjgikeaaDoorEXX
set_option linter.unusedVariables false
set_option linter.unusedSimpArgs false
set_option maxRecDepth 100000
namespace Go.Proofs.YtegopgpnjgikeaaDoor
open Go.RowKit
theorem laws_f6big (cs : List UInt8) (A : Option Addr) (cap : Nat) (w : World) :
    Calls Tryd.prog 5 #[.slice A cs.length cap] w fun e w' => e = .returned (.bool (decide (4096 < cs.length))) ∧ Ext w w' := by
  have e : decide ((4096 : Int) < (cs.length : Int)) = decide (4096 < cs.length) := by rw [decide_eq_decide]; omega
  by_cases h : 4096 < cs.length
  · have h' : (4096 : Int) < (cs.length : Int) := by omega
    rw [decide_eq_true h]
    go_enter Tryd.func5, Tryd.ntmps5
    go_wp2
    go_ret
    exact ⟨by simp [h'], Ext.refl _⟩
  · have h' : ((4096 : Int) < (cs.length : Int)) = False := eq_false (by omega)
    rw [decide_eq_false h]
    go_enter Tryd.func5, Tryd.ntmps5
    go_wp2
    go_ret
    exact ⟨by simp [h'], Ext.refl _⟩
set_option maxHeartbeats 40000000 in
theorem laws_FnExplained (cs ds : List UInt8) (A B : Option Addr) (cap cap' : Nat) (w : World) (hn : cs.length ≤ 9223372036854775807) (hR : Rd encU8 w A cs) (hm : ds.length ≤ 9223372036854775807) (hS : Rd encU8 w B ds) :
    Calls Tryd.prog 3 #[.slice A cs.length cap, .slice B ds.length cap'] w fun e w' => e = .returned (.bool true) ∧ Ext w w' := by
  have hx := @ExtOf.cell
  have b1 := fun W => laws_f6big cs A cap W
  have b2 := fun W => laws_f6big ds B cap' W
  by_cases h1 : 4096 < cs.length
  · rw [decide_eq_true h1] at b1
    go_enter Tryd.func3, Tryd.ntmps3
    go_wp2_with fail
    refine Calls.mono (b1 _) ?_
    rintro e w1 ⟨rfl, hb1⟩
    go_wp2
    go_ret
    exact ⟨rfl, hb1⟩
  rw [decide_eq_false h1] at b1
  by_cases h2 : 4096 < ds.length
  · rw [decide_eq_true h2] at b2
    go_enter Tryd.func3, Tryd.ntmps3
    go_wp2_with fail
    refine Calls.mono (b1 _) ?_
    rintro e w1 ⟨rfl, hb1⟩
    go_wp2_with fail
    refine Calls.mono (b2 _) ?_
    rintro e w2 ⟨rfl, hb2⟩
    go_wp2
    go_ret
    exact ⟨rfl, hb1.trans hb2⟩
  rw [decide_eq_false h2] at b2
  go_enter Tryd.func3, Tryd.ntmps3
  go_wp2_with fail
  refine Calls.mono (b1 _) ?_
  rintro e w1 ⟨rfl, hb1⟩
  go_wp2_with fail
  refine Calls.mono (b2 _) ?_
  rintro e w2 ⟨rfl, hb2⟩
  have hw2 := hb1.trans hb2
  clear hb1 hb2 b1 b2
  go_wp2_with fail
  refine intro_world (R := fun W => Calls _ _ _ W _) (fun W10 hN => ?_)
  have dW10 : Ext w2 W10 := by rw [hN]; exact (Ext.refl _)
  have eW10 := hw2.trans dW10
  clear hN
  refine Calls.mono (spec_P6Mix cs A cap W10 (hR.ext eW10) (by omega)) ?_
  rintro e w11 ⟨x, rfl, hmx, hxi, hb11⟩
  have hw11 := eW10.trans hb11
  clear hb11 dW10 eW10
  go_wp2_with fail
  refine intro_world (R := fun W => Calls _ _ _ W _) (fun W11 hN => ?_)
  have dW11 : Ext w11 W11 := by rw [hN]; exact (Ext.refl _).alloc _
  have eW11 := hw11.trans dW11
  have Xx : BoxAt W11 w11.heap.size #[.int .i16 x.st, .int .i16 x.sz, .int .i16 x.per] 26 := by rw [hN]; exact (BoxAt.new' rfl)
  clear hN
  refine Calls.mono (spec_P6Vocabulary W11) ?_
  rintro e w12 ⟨bV, rfl, hV, hv0, hv1, hb12⟩
  have hw12 := eW11.trans hb12
  replace Xx := Xx.ext hb12
  clear hb12 dW11 eW11
  clear hv0 hv1
  go_wp2_with fail
  refine intro_world (R := fun W => Calls _ _ _ W _) (fun W12 hN => ?_)
  have dW12 : Ext w12 W12 := by rw [hN]; exact (Ext.refl _)
  have eW12 := hw12.trans dW12
  replace Xx := Xx.ext dW12
  replace hV := hV.ext dW12
  clear hN
  refine Calls.mono (spec_P6Words ds B cap' W12 (hS.ext eW12) (by omega)) ?_
  rintro e w13 ⟨ws, v13, rfl, hO13, hws, hwl, hb13⟩
  obtain ⟨A13, cap13, rfl, hle13, hRw⟩ := hO13.slice
  have hw13 := eW12.trans hb13
  replace Xx := Xx.ext hb13
  replace hV := hV.ext hb13
  clear hb13 dW12 eW12 hO13
  have hwi : ∀ s ∈ ws, StrIn s := fun s h => voc_in s (hws s h)
  have hwb : wordsB ws 12 = true := words_voc hws (by omega)
  obtain ⟨m, mb, model, told, code, k1, k2, k3, k4, k5, k6, k7, k8, k9, k10, k11, k12⟩ := explained_law hmx (V := vocL) (by decide) voc_good hws
  have c1 := fun W h => spec_AddWords0 x hxi hmx ws A13 cap13 hwb W h (by omega) hwi
  rw [k1] at c1
  have c2 := fun W h => impl_MaybeWords x hxi m vocL (some ⟨bV, 0, none⟩) 14 k3 W h (by rw [voc_len]; omega) voc_in
  have c3 := fun W h => spec_MaybeWords x hxi m vocL (some ⟨bV, 0, none⟩) 14 k3 W h (by rw [voc_len]; omega) voc_in
  rw [k2, voc_len] at c2 c3
  have c4 := fun W h => impl_ExplainMask x hxi m vocL (some ⟨bV, 0, none⟩) 14 2000 (by omega) (by omega) W h (by rw [voc_len]; omega) voc_in
  have c5 := fun W h => spec_ExplainMask x hxi m vocL (some ⟨bV, 0, none⟩) 14 2000 (by omega) (by omega) W h (by rw [voc_len]; omega) voc_in
  rw [k4, voc_len] at c4 c5
  have c6 := fun W h => impl_SureWords x hxi m vocL (some ⟨bV, 0, none⟩) 14 W h (by rw [voc_len]; omega) voc_in
  have c7 := fun W h => spec_SureWords x hxi m vocL (some ⟨bV, 0, none⟩) 14 W h (by rw [voc_len]; omega) voc_in
  rw [k6, voc_len] at c6 c7
  try dsimp only at c4 c5 c6 c7
  have hcl := cntV_le ws
  have hc0 := cntV_zero ws
  have hch := fun k h => cntV_hit (ws := ws) (k := k) h
  have hcm := fun k h => cntV_miss (ws := ws) (k := k) h
  have hca := cntV_all ws
  replace k11 := hd k11
  replace k12 := hd k12
  replace hws := hd hws
  replace hwi := hd hwi
  replace hcl := hd hcl
  replace hch := hd hch
  replace hcm := hd hcm
  replace hca := hd hca
  clear k1 k2 k3 k4 k6 hwb
  have yx0 : w13.cell? ⟨w11.heap.size, 0, none⟩ = some (.int .i16 x.st) := Xx.cell 0
  have yx1 : w13.cell? ⟨w11.heap.size, 1, none⟩ = some (.int .i16 x.sz) := Xx.cell 1
  have yx2 : w13.cell? ⟨w11.heap.size, 2, none⟩ = some (.int .i16 x.per) := Xx.cell 2
  have lx := Xx.lt
  go_wp2_with fail
  refine intro_world (R := fun W => Calls _ _ _ W _) (fun W13 hN => ?_)
  have dW13 : Ext w13 W13 := by rw [hN]; exact (Ext.refl _)
  have eW13 := hw13.trans dW13
  replace Xx := Xx.ext dW13
  replace hV := hV.ext dW13
  replace hRw := hRw.ext dW13
  clear hN
  clear yx0 yx1 yx2 lx
  refine Calls.mono (c1 W13 hRw) ?_
  rintro e w14 ⟨rfl, hb14⟩
  have hw14 := eW13.trans hb14
  replace Xx := Xx.ext hb14
  replace hV := hV.ext hb14
  replace hRw := hRw.ext hb14
  clear hb14 dW13 eW13
  have yx0 : w14.cell? ⟨w11.heap.size, 0, none⟩ = some (.int .i16 x.st) := Xx.cell 0
  have yx1 : w14.cell? ⟨w11.heap.size, 1, none⟩ = some (.int .i16 x.sz) := Xx.cell 1
  have yx2 : w14.cell? ⟨w11.heap.size, 2, none⟩ = some (.int .i16 x.per) := Xx.cell 2
  have lx := Xx.lt
  go_wp2_with fail
  refine intro_world (R := fun W => Calls _ _ _ W _) (fun W14 hN => ?_)
  have dW14 : Ext w14 W14 := by rw [hN]; exact (Ext.refl _).alloc _
  have eW14 := hw14.trans dW14
  replace Xx := Xx.ext dW14
  replace hV := hV.ext dW14
  replace hRw := hRw.ext dW14
  have Xm : BoxAt W14 w14.heap.size #[.int .u64 (lo m), .int .u64 (hi m)] 33 := by rw [hN]; exact (BoxAt.new' rfl)
  clear hN
  clear yx0 yx1 yx2 lx
  refine Calls.mono (c2 W14 hV) ?_
  rintro e w15 ⟨v15, rfl, hO15, hb15⟩
  obtain ⟨A15, cap15, rfl, hle15, hR1⟩ := hO15.slice
  have hw15 := eW14.trans hb15
  replace Xx := Xx.ext hb15
  replace Xm := Xm.ext hb15
  replace hV := hV.ext hb15
  replace hRw := hRw.ext hb15
  clear hb15 dW14 eW14 hO15
  have yx0 : w15.cell? ⟨w11.heap.size, 0, none⟩ = some (.int .i16 x.st) := Xx.cell 0
  have yx1 : w15.cell? ⟨w11.heap.size, 1, none⟩ = some (.int .i16 x.sz) := Xx.cell 1
  have yx2 : w15.cell? ⟨w11.heap.size, 2, none⟩ = some (.int .i16 x.per) := Xx.cell 2
  have lx := Xx.lt
  have ym0 : w15.cell? ⟨w14.heap.size, 0, none⟩ = some (.int .u64 (lo m)) := Xm.cell 0
  have ym1 : w15.cell? ⟨w14.heap.size, 1, none⟩ = some (.int .u64 (hi m)) := Xm.cell 1
  have lm := Xm.lt
  go_wp2_with fail
  refine intro_world (R := fun W => Calls _ _ _ W _) (fun W15 hN => ?_)
  have dW15 : Ext w15 W15 := by rw [hN]; exact (Ext.refl _)
  have eW15 := hw15.trans dW15
  replace Xx := Xx.ext dW15
  replace Xm := Xm.ext dW15
  replace hV := hV.ext dW15
  replace hRw := hRw.ext dW15
  replace hR1 := hR1.ext dW15
  clear hN
  clear yx0 yx1 yx2 lx ym0 ym1 lm
  refine Calls.mono (c3 W15 hV) ?_
  rintro e w16 ⟨v16, rfl, hO16, hb16⟩
  obtain ⟨A16, cap16, rfl, hle16, hR2⟩ := hO16.slice
  have hw16 := eW15.trans hb16
  replace Xx := Xx.ext hb16
  replace Xm := Xm.ext hb16
  replace hV := hV.ext hb16
  replace hRw := hRw.ext hb16
  replace hR1 := hR1.ext hb16
  clear hb16 dW15 eW15 hO16
  go_wp2_with fail
  refine intro_world (R := fun W => Calls _ _ _ W _) (fun W16 hN => ?_)
  have dW16 : Ext w16 W16 := by rw [hN]; exact (Ext.refl _)
  have eW16 := hw16.trans dW16
  replace Xx := Xx.ext dW16
  replace Xm := Xm.ext dW16
  replace hV := hV.ext dW16
  replace hRw := hRw.ext dW16
  replace hR1 := hR1.ext dW16
  replace hR2 := hR2.ext dW16
  clear hN
  refine Calls.mono (spec_SameIndicesX mb A15 A16 cap15 cap16 W16 hR1 hR2 (by omega)) ?_
  rintro e w17 ⟨rfl, hb17⟩
  have hw17 := eW16.trans hb17
  replace Xx := Xx.ext hb17
  replace Xm := Xm.ext hb17
  replace hV := hV.ext hb17
  replace hRw := hRw.ext hb17
  replace hR1 := hR1.ext hb17
  replace hR2 := hR2.ext hb17
  clear hb17 dW16 eW16
  clear hR1
  clear c1 c2 c3
  go_wp2
  go_loopg [14, 15] 15 (fun g dv iv wr => ∃ k : Nat, g = 15 - k ∧ k ≤ 14 ∧ dv = .int .i64 ((cntV ws k : Nat) : Int) ∧ iv = .int .i64 (k : Int) ∧ Ext w17 wr)
  case atStart => exact ⟨0, rfl, by omega, by rw [hc0]; rfl, rfl, Ext.refl _⟩
  case round =>
    obtain ⟨k, hg, hk, rfl, rfl, hr⟩ := hrel
    have hwr := hw17.trans hr
    replace Xx := Xx.ext hr
    replace Xm := Xm.ext hr
    replace hV := hV.ext hr
    replace hRw := hRw.ext hr
    replace hR2 := hR2.ext hr
    have hn14 := hcl.out k
    by_cases hk14 : k < 14
    · have hkv : k < vocL.length := by rw [voc_len]; exact hk14
      have m0 := hV.str k hkv
      rw [Nat.zero_add] at m0
      have lm := World.block_lt_of_cell? _ _ m0
      dsimp only at lm
      have hk2 : (k : Int) < 14 := by omega
      have e2 : IntKind.i64.wrap ((k : Int) + 1) = ((k + 1 : Nat) : Int) := (IntWalk.i64_in _ (by omega)).trans (by omega)
      have e3 : IntKind.i64.wrap (((cntV ws k : Nat) : Int) + 1) = ((cntV ws k + 1 : Nat) : Int) := (IntWalk.i64_in _ (by omega)).trans (by omega)
      have hin := k11.out k hkv
      have hh := hch.out k hkv
      have hmi := hcm.out k hkv
      generalize vocL[k] = s at m0 hin hh hmi
      have d1 := fun W h => spec_HasWord ws A13 cap13 s W h (by omega)
      have d2 := fun W h => spec_HasIndexX mb A16 cap16 (k : Int) W h (by omega)
      cases hq : ws.contains s with
      | true =>
        have hv := hd (hh hq)
        rw [hq] at d1
        rw [List.contains_iff_mem.2 (hin (List.contains_iff_mem.1 hq))] at d2
        clear hh hmi hin hq
        generalize cntV ws k = n at hv e3 hn14 ⊢
        go_wp2_with fail
        refine Calls.mono (d1 _ hRw) ?_
        rintro e w71 ⟨rfl, hb71⟩
        replace hR2 := hR2.ext hb71
        have hr71 := hr.trans hb71
        clear hb71 m0 lm
        go_wp2_with fail
        refine Calls.mono (d2 _ hR2) ?_
        rintro e w72 ⟨rfl, hb72⟩
        have hr72 := hr71.trans hb72
        go_wp2
        go_roundg (15 - (k + 1))
        case rel => exact ⟨k + 1, rfl, by omega, by rw [hv.out]; rfl, by first | rfl | simp, hr72⟩
        case measure => omega
      | false =>
        have hv := hd (hmi hq)
        rw [hq] at d1
        clear hh hmi hin hq d2
        generalize cntV ws k = n at hv e3 hn14 ⊢
        go_wp2_with fail
        refine Calls.mono (d1 _ hRw) ?_
        rintro e w71 ⟨rfl, hb71⟩
        have hr71 := hr.trans hb71
        go_wp2
        go_roundg (15 - (k + 1))
        case rel => exact ⟨k + 1, rfl, by omega, by rw [hv.out], by first | rfl | simp, hr71⟩
        case measure => omega
    · obtain rfl : k = 14 := by omega
      have hdif := hca.out
      generalize cntV ws 14 = dif at hn14 hdif ⊢
      clear hch hcm hca hcl hc0 k11
      clear hRw
      have yx0 : wr.cell? ⟨w11.heap.size, 0, none⟩ = some (.int .i16 x.st) := Xx.cell 0
      have yx1 : wr.cell? ⟨w11.heap.size, 1, none⟩ = some (.int .i16 x.sz) := Xx.cell 1
      have yx2 : wr.cell? ⟨w11.heap.size, 2, none⟩ = some (.int .i16 x.per) := Xx.cell 2
      have lx := Xx.lt
      have ym0 : wr.cell? ⟨w14.heap.size, 0, none⟩ = some (.int .u64 (lo m)) := Xm.cell 0
      have ym1 : wr.cell? ⟨w14.heap.size, 1, none⟩ = some (.int .u64 (hi m)) := Xm.cell 1
      have lm := Xm.lt
      go_wp2_with fail
      refine intro_world (R := fun W => Calls _ _ _ W _) (fun W17 hN => ?_)
      have dW17 : Ext wr W17 := by rw [hN]; exact (Ext.refl _)
      have eW17 := hwr.trans dW17
      replace Xx := Xx.ext dW17
      replace Xm := Xm.ext dW17
      replace hV := hV.ext dW17
      replace hR2 := hR2.ext dW17
      clear hN
      clear yx0 yx1 yx2 lx ym0 ym1 lm
      refine Calls.mono (c4 W17 hV) ?_
      rintro e w18 ⟨v18, rfl, hO18, hb18⟩
      obtain ⟨A18, cap18, rfl, hle18, hR3⟩ := hO18.slice
      have hw18 := eW17.trans hb18
      replace Xx := Xx.ext hb18
      replace Xm := Xm.ext hb18
      replace hV := hV.ext hb18
      replace hR2 := hR2.ext hb18
      clear hb18 dW17 eW17 hO18
      have yx0 : w18.cell? ⟨w11.heap.size, 0, none⟩ = some (.int .i16 x.st) := Xx.cell 0
      have yx1 : w18.cell? ⟨w11.heap.size, 1, none⟩ = some (.int .i16 x.sz) := Xx.cell 1
      have yx2 : w18.cell? ⟨w11.heap.size, 2, none⟩ = some (.int .i16 x.per) := Xx.cell 2
      have lx := Xx.lt
      have ym0 : w18.cell? ⟨w14.heap.size, 0, none⟩ = some (.int .u64 (lo m)) := Xm.cell 0
      have ym1 : w18.cell? ⟨w14.heap.size, 1, none⟩ = some (.int .u64 (hi m)) := Xm.cell 1
      have lm := Xm.lt
      go_wp2_with fail
      refine intro_world (R := fun W => Calls _ _ _ W _) (fun W18 hN => ?_)
      have dW18 : Ext w18 W18 := by rw [hN]; exact (Ext.refl _)
      have eW18 := hw18.trans dW18
      replace Xx := Xx.ext dW18
      replace Xm := Xm.ext dW18
      replace hV := hV.ext dW18
      replace hR2 := hR2.ext dW18
      replace hR3 := hR3.ext dW18
      clear hN
      clear yx0 yx1 yx2 lx ym0 ym1 lm
      refine Calls.mono (c5 W18 hV) ?_
      rintro e w19 ⟨v19, rfl, hO19, hb19⟩
      obtain ⟨A19, cap19, rfl, hle19, hR4⟩ := hO19.slice
      have hw19 := eW18.trans hb19
      replace Xx := Xx.ext hb19
      replace Xm := Xm.ext hb19
      replace hV := hV.ext hb19
      replace hR2 := hR2.ext hb19
      replace hR3 := hR3.ext hb19
      clear hb19 dW18 eW18 hO19
      have yx0 : w19.cell? ⟨w11.heap.size, 0, none⟩ = some (.int .i16 x.st) := Xx.cell 0
      have yx1 : w19.cell? ⟨w11.heap.size, 1, none⟩ = some (.int .i16 x.sz) := Xx.cell 1
      have yx2 : w19.cell? ⟨w11.heap.size, 2, none⟩ = some (.int .i16 x.per) := Xx.cell 2
      have lx := Xx.lt
      have ym0 : w19.cell? ⟨w14.heap.size, 0, none⟩ = some (.int .u64 (lo m)) := Xm.cell 0
      have ym1 : w19.cell? ⟨w14.heap.size, 1, none⟩ = some (.int .u64 (hi m)) := Xm.cell 1
      have lm := Xm.lt
      go_wp2_with fail
      refine intro_world (R := fun W => Calls _ _ _ W _) (fun W19 hN => ?_)
      have dW19 : Ext w19 W19 := by rw [hN]; exact (Ext.refl _)
      have eW19 := hw19.trans dW19
      replace Xx := Xx.ext dW19
      replace Xm := Xm.ext dW19
      replace hV := hV.ext dW19
      replace hR2 := hR2.ext dW19
      replace hR3 := hR3.ext dW19
      replace hR4 := hR4.ext dW19
      clear hN
      clear yx0 yx1 yx2 lx ym0 ym1 lm
      refine Calls.mono (c6 W19 hV) ?_
      rintro e w20 ⟨v20, rfl, hO20, hb20⟩
      obtain ⟨A20, cap20, rfl, hle20, hR5⟩ := hO20.slice
      have hw20 := eW19.trans hb20
      replace Xx := Xx.ext hb20
      replace Xm := Xm.ext hb20
      replace hV := hV.ext hb20
      replace hR2 := hR2.ext hb20
      replace hR3 := hR3.ext hb20
      replace hR4 := hR4.ext hb20
      clear hb20 dW19 eW19 hO20
      have yx0 : w20.cell? ⟨w11.heap.size, 0, none⟩ = some (.int .i16 x.st) := Xx.cell 0
      have yx1 : w20.cell? ⟨w11.heap.size, 1, none⟩ = some (.int .i16 x.sz) := Xx.cell 1
      have yx2 : w20.cell? ⟨w11.heap.size, 2, none⟩ = some (.int .i16 x.per) := Xx.cell 2
      have lx := Xx.lt
      have ym0 : w20.cell? ⟨w14.heap.size, 0, none⟩ = some (.int .u64 (lo m)) := Xm.cell 0
      have ym1 : w20.cell? ⟨w14.heap.size, 1, none⟩ = some (.int .u64 (hi m)) := Xm.cell 1
      have lm := Xm.lt
      go_wp2_with fail
      refine intro_world (R := fun W => Calls _ _ _ W _) (fun W20 hN => ?_)
      have dW20 : Ext w20 W20 := by rw [hN]; exact (Ext.refl _)
      have eW20 := hw20.trans dW20
      replace Xx := Xx.ext dW20
      replace Xm := Xm.ext dW20
      replace hV := hV.ext dW20
      replace hR2 := hR2.ext dW20
      replace hR3 := hR3.ext dW20
      replace hR4 := hR4.ext dW20
      replace hR5 := hR5.ext dW20
      clear hN
      clear yx0 yx1 yx2 lx ym0 ym1 lm
      refine Calls.mono (c7 W20 hV) ?_
      rintro e w21 ⟨v21, rfl, hO21, hb21⟩
      obtain ⟨A21, cap21, rfl, hle21, hR6⟩ := hO21.slice
      have hw21 := eW20.trans hb21
      replace Xx := Xx.ext hb21
      replace Xm := Xm.ext hb21
      replace hV := hV.ext hb21
      replace hR2 := hR2.ext hb21
      replace hR3 := hR3.ext hb21
      replace hR4 := hR4.ext hb21
      replace hR5 := hR5.ext hb21
      clear hb21 dW20 eW20 hO21
      go_wp2_with fail
      refine intro_world (R := fun W => Calls _ _ _ W _) (fun W21 hN => ?_)
      have dW21 : Ext w21 W21 := by rw [hN]; exact (Ext.refl _)
      have eW21 := hw21.trans dW21
      replace Xx := Xx.ext dW21
      replace Xm := Xm.ext dW21
      replace hV := hV.ext dW21
      replace hR2 := hR2.ext dW21
      replace hR3 := hR3.ext dW21
      replace hR4 := hR4.ext dW21
      replace hR5 := hR5.ext dW21
      replace hR6 := hR6.ext dW21
      clear hN
      refine Calls.mono (spec_SameIndicesX model A18 A19 cap18 cap19 W21 hR3 hR4 (by omega)) ?_
      rintro e w22 ⟨rfl, hb22⟩
      have hw22 := eW21.trans hb22
      replace Xx := Xx.ext hb22
      replace Xm := Xm.ext hb22
      replace hV := hV.ext hb22
      replace hR2 := hR2.ext hb22
      replace hR3 := hR3.ext hb22
      replace hR4 := hR4.ext hb22
      replace hR5 := hR5.ext hb22
      replace hR6 := hR6.ext hb22
      clear hb22 dW21 eW21
      clear hR3
      go_wp2_with fail
      refine intro_world (R := fun W => Calls _ _ _ W _) (fun W22 hN => ?_)
      have dW22 : Ext w22 W22 := by rw [hN]; exact (Ext.refl _)
      have eW22 := hw22.trans dW22
      replace Xx := Xx.ext dW22
      replace Xm := Xm.ext dW22
      replace hV := hV.ext dW22
      replace hR2 := hR2.ext dW22
      replace hR4 := hR4.ext dW22
      replace hR5 := hR5.ext dW22
      replace hR6 := hR6.ext dW22
      clear hN
      refine Calls.mono (spec_SameIndicesX told A20 A21 cap20 cap21 W22 hR5 hR6 (by omega)) ?_
      rintro e w23 ⟨rfl, hb23⟩
      have hw23 := eW22.trans hb23
      replace Xx := Xx.ext hb23
      replace Xm := Xm.ext hb23
      replace hV := hV.ext hb23
      replace hR2 := hR2.ext hb23
      replace hR4 := hR4.ext hb23
      replace hR5 := hR5.ext hb23
      replace hR6 := hR6.ext hb23
      clear hb23 dW22 eW22
      clear hR5
      clear c4 c5 c6 c7
      rcases k5 with h7 | h7
      · subst h7
        obtain ⟨g1, g2, g3, g4, g5, g6⟩ := k12.out rfl
        have gp := hd (fun i j (hi : i < model.length) (hj : j < model.length) (h : i < j) => List.pairwise_iff_getElem.1 g3 i j hi hj h)
        have gw := fun k h => hsL_snoc x vocL model k h
        replace g1 := hd g1
        replace g2 := hd g2
        replace g4 := hd g4
        replace g5 := hd g5
        replace gw := hd gw
        have gd : (model.length : Int) ≤ (dif : Int) := by omega
        have gd2 := hd g6
        clear g3 k12 g6
        go_wp2
        go_loopg [25] (model.length + 1) (fun g iv wr => ∃ k : Nat, ∃ a : Mask, g = model.length + 1 - k ∧ k ≤ model.length ∧ iv = .int .i64 (k : Int) ∧ Hd (joinL (hsL x vocL (model.take k)) = a) ∧ BoxAt wr w23.heap.size #[.int .u64 (lo a), .int .u64 (hi a)] 33 ∧ Ext w23 wr)
        case atStart => exact ⟨0, 0, rfl, by omega, rfl, hd (by rw [List.take_zero]; rfl), BoxAt.new' rfl, (Ext.refl _).alloc _⟩
        case round =>
          obtain ⟨k, a, hg, hk, rfl, ha, hB, hr⟩ := hrel
          have hwr := hw23.trans hr
          replace Xx := Xx.ext hr
          replace Xm := Xm.ext hr
          replace hV := hV.ext hr
          replace hR2 := hR2.ext hr
          replace hR4 := hR4.ext hr
          replace hR6 := hR6.ext hr
          by_cases hkl : k < model.length
          · obtain ⟨bM, oM, hAM, hltM, hrM⟩ := hR4 k hkl
            subst hAM
            clear hrM
            have n0 := hR4.i64 k hkl
            have hmk := List.getElem_mem hkl
            obtain ⟨j, hj, hjl⟩ := g2.out _ (g1.out _ hmk)
            have hcon : mb.contains model[k] = true := List.contains_iff_mem.2 (g1.out _ hmk)
            have hnx := gw.out k hkl
            have m0 := hV.str j hjl
            rw [Nat.zero_add] at m0
            have hho := holeAt_nat x vocL j hjl
            have hnm : isNameB vocL[j] = true := List.all_eq_true.1 voc_good _ (List.getElem_mem hjl)
            have hsi := voc_in _ (List.getElem_mem hjl)
            rw [voc_len] at hjl
            have hj14 : (j : Int) < 14 := by omega
            have hk1 : (k : Int) < model.length := by omega
            have hprev : ∀ h0 : 0 < k, (model[k] ≤ model[k - 1]'(by omega)) = False := fun h0 => eq_false (by have := gp.out (k - 1) k (by omega) hkl (by omega); omega)
            have n1 := fun h0 : 0 < k => hR4.i64 (k - 1) (show k - 1 < model.length by omega)
            rw [hj] at hcon hnx n0 hprev
            rw [hho] at hnx
            have hmm : ∀ h0 : 0 < k, ∃ v1 : Int, model[k - 1]'(by omega) = v1 := fun h0 => ⟨_, rfl⟩
            generalize vocL[j] = s at m0 hnx hnm hsi
            have d1 := fun W h => spec_HasIndexX mb A16 cap16 (j : Int) W h (by omega)
            rw [hcon] at d1
            have d2 := fun W => spec_WordHoles x hxi hmx s hnm hsi W
            clear hcon hmk hnm hsi hho hj
            have e2 : IntKind.i64.wrap ((k : Int) + 1) = ((k + 1 : Nat) : Int) := (IntWalk.i64_in _ (by omega)).trans (by omega)
            rcases Nat.eq_zero_or_pos k with h0 | h0
            · have hz : ((0 : Int) < (k : Int)) = False := eq_false (by omega)
              have hz2 : (0 < k) = False := eq_false (by omega)
              clear n1 hprev hmm h0
              have lmM := World.block_lt_of_cell? _ _ n0
              dsimp only at lmM
              have d3 := fun W (hE : Ext wr W) => d1 W (hR2.ext hE)
              go_wp2
              refine wp_region_ext (by kernel_rfl) (by kernel_rfl) ?_
              repeat (first | go_big_quiet_step (((go_at_call 14; with_reducible exact Calls.ext_all (fun W hE => d3 W hE)))) | quiet_step (((go_at_call 14; with_reducible exact Calls.ext_all (fun W hE => d3 W hE)))))
              refine wpQuiet_nil ?_
              intro w71 hq71
              have hb71 := ext_of_class hq71
              clear hq71
              obtain ⟨hc71, hf71, hz71⟩ := bcell3 hb71
              try simp at hz71
              clear hc71 hf71
              replace Xx := Xx.ext hb71
              replace Xm := Xm.ext hb71
              replace hV := hV.ext hb71
              replace hR2 := hR2.ext hb71
              replace hR4 := hR4.ext hb71
              replace hR6 := hR6.ext hb71
              have hr71 := hr.trans hb71
              replace hB := hB.ext hb71
              replace n0 := hb71.cell n0
              replace m0 := hb71.cell m0
              clear hb71 lmM d1 d3
              go_wp2
              have hS : ∀ W, Ext w71 W → (fun W => W.cell? ⟨w11.heap.size, 0, none⟩ = some (.int .i16 x.st) ∧ W.cell? ⟨w11.heap.size, 1, none⟩ = some (.int .i16 x.sz) ∧ W.cell? ⟨w11.heap.size, 2, none⟩ = some (.int .i16 x.per) ∧ W.cell? ⟨bM, oM + k, none⟩ = some (.int .i64 (j : Int)) ∧ W.cell? ⟨bV, j, none⟩ = some (.string s)) W := fun W h => ⟨h.cell (Xx.cell 0), h.cell (Xx.cell 1), h.cell (Xx.cell 2), h.cell n0, h.cell m0⟩
              refine wp_region_held (S := (fun W => W.cell? ⟨w11.heap.size, 0, none⟩ = some (.int .i16 x.st) ∧ W.cell? ⟨w11.heap.size, 1, none⟩ = some (.int .i16 x.sz) ∧ W.cell? ⟨w11.heap.size, 2, none⟩ = some (.int .i16 x.per) ∧ W.cell? ⟨bM, oM + k, none⟩ = some (.int .i64 (j : Int)) ∧ W.cell? ⟨bV, j, none⟩ = some (.string s))) (by kernel_rfl) ?_
              change wpAnyH _ _ _ _ _ _ _ _ (World.drew _)
              refine intro_world (fun WD hWD => ?_)
              have eD : Ext w71 WD := by rw [hWD]; exact (Ext.refl _).drew
              clear hWD
              refine wpAnyH_take (i := 0) (v := ?_) rfl (by kernel_rfl) (by kernel_rfl) (by kernel_rfl) (fun _ _ _ h => h) (Or.inl ⟨by rfl, ?_⟩) (hS _ eD) ?_
              rotate_left
              · (intro W9 hW9; obtain ⟨z0, z1, z2, z3, z4⟩ := hW9; go_simp; try with_reducible rfl)
              try simp only [Act.put, List.setIfInBounds_toArray, List.set_cons_zero, List.set_cons_succ]
              refine wpAnyH_take (i := 1) (v := ?_) rfl (by kernel_rfl) (by kernel_rfl) (by kernel_rfl) (fun _ _ _ h => h) (Or.inl ⟨by rfl, ?_⟩) (hS _ eD) ?_
              rotate_left
              · (intro W9 hW9; obtain ⟨z0, z1, z2, z3, z4⟩ := hW9; go_simp; try with_reducible rfl)
              try simp only [Act.put, List.setIfInBounds_toArray, List.set_cons_zero, List.set_cons_succ]
              refine wpAnyH_take (i := 2) (v := ?_) rfl (by kernel_rfl) (by kernel_rfl) (by kernel_rfl) (fun _ _ _ h => h) (Or.inl ⟨by rfl, ?_⟩) (hS _ eD) ?_
              rotate_left
              · (intro W9 hW9; obtain ⟨z0, z1, z2, z3, z4⟩ := hW9; go_simp; try with_reducible rfl)
              try simp only [Act.put, List.setIfInBounds_toArray, List.set_cons_zero, List.set_cons_succ]
              refine wpAnyH_take (i := 3) (v := ?_) rfl (by kernel_rfl) (by kernel_rfl) (by kernel_rfl) (fun _ _ _ h => h) (Or.inl ⟨by rfl, ?_⟩) (hS _ eD) ?_
              rotate_left
              · (intro W9 hW9; obtain ⟨z0, z1, z2, z3, z4⟩ := hW9; go_simp; try with_reducible rfl)
              try simp only [Act.put, List.setIfInBounds_toArray, List.set_cons_zero, List.set_cons_succ]
              refine wpAnyH_take (i := 4) (v := ?_) rfl (by kernel_rfl) (by kernel_rfl) (by kernel_rfl) (fun _ _ _ h => h) (Or.inl ⟨by rfl, ?_⟩) (hS _ eD) ?_
              rotate_left
              · (intro W9 hW9; obtain ⟨z0, z1, z2, z3, z4⟩ := hW9; go_simp; try with_reducible rfl)
              try simp only [Act.put, List.setIfInBounds_toArray, List.set_cons_zero, List.set_cons_succ]
              refine wpAnyH_take (i := 5) (v := ?_) rfl (by kernel_rfl) (by kernel_rfl) (by kernel_rfl) (fun _ _ _ h => h) (Or.inl ⟨by rfl, ?_⟩) (hS _ eD) ?_
              rotate_left
              · (intro W9 hW9; obtain ⟨z0, z1, z2, z3, z4⟩ := hW9; go_simp; try with_reducible rfl)
              try simp only [Act.put, List.setIfInBounds_toArray, List.set_cons_zero, List.set_cons_succ]
              refine wpAnyH_take (i := 6) (v := ?_) rfl (by kernel_rfl) (by kernel_rfl) (by kernel_rfl) (fun _ _ _ h => h) (Or.inl ⟨by rfl, ?_⟩) (hS _ eD) ?_
              rotate_left
              · (intro W9 hW9; obtain ⟨z0, z1, z2, z3, z4⟩ := hW9; go_simp; try with_reducible rfl)
              try simp only [Act.put, List.setIfInBounds_toArray, List.set_cons_zero, List.set_cons_succ]
              refine wpAnyH_take (i := 7) (v := ?_) rfl (by kernel_rfl) (by kernel_rfl) (by kernel_rfl) (fun _ _ _ h => h) (Or.inl ⟨by rfl, ?_⟩) (hS _ eD) ?_
              rotate_left
              · (intro W9 hW9; obtain ⟨z0, z1, z2, z3, z4⟩ := hW9; go_simp; try with_reducible rfl)
              try simp only [Act.put, List.setIfInBounds_toArray, List.set_cons_zero, List.set_cons_succ]
              refine wpAnyH_ready (rs := [8, 12]) (by kernel_rfl) (by simp) ?_
              refine AllReadyH.cons rfl (fun K hK => ?_) (AllReadyH.cons rfl (fun K hK => ?_) (AllReadyH.nil))
              · go_simp
                go_wp2_with fail
                refine Calls.mono (d2 _) ?_
                rintro e W1 ⟨rfl, hb1⟩
                go_simp
                have E1 := eD.trans hb1
                refine hK.out _ _ (hS _ E1) (fun _ => ?_)
                clear hK K
                refine wpAnyH_take (i := 9) (v := ?_) rfl (by kernel_rfl) (by kernel_rfl) (by kernel_rfl) (fun _ _ _ h => h) (Or.inl ⟨by rfl, ?_⟩) (hS _ E1) ?_
                rotate_left
                · (intro W9 hW9; obtain ⟨z0, z1, z2, z3, z4⟩ := hW9; go_simp; try with_reducible rfl)
                try simp only [Act.put, List.setIfInBounds_toArray, List.set_cons_zero, List.set_cons_succ]
                refine wpAnyH_take (i := 10) (v := ?_) rfl (by kernel_rfl) (by kernel_rfl) (by kernel_rfl) (fun _ _ _ h => h) (Or.inl ⟨by rfl, ?_⟩) (hS _ E1) ?_
                rotate_left
                · (intro W9 hW9; obtain ⟨z0, z1, z2, z3, z4⟩ := hW9; go_simp; try with_reducible rfl)
                try simp only [Act.put, List.setIfInBounds_toArray, List.set_cons_zero, List.set_cons_succ]
                refine wpAnyH_take (i := 11) (v := ?_) rfl (by kernel_rfl) (by kernel_rfl) (by kernel_rfl) (fun _ _ _ h => h) (Or.inl ⟨by rfl, ?_⟩) (hS _ E1) ?_
                rotate_left
                · (intro W9 hW9; obtain ⟨z0, z1, z2, z3, z4⟩ := hW9; go_simp; try with_reducible rfl)
                try simp only [Act.put, List.setIfInBounds_toArray, List.set_cons_zero, List.set_cons_succ]
                refine wpAnyH_ready (rs := [12]) (by kernel_rfl) (by simp) ?_
                refine AllReadyH.cons rfl (fun K hK => ?_) (AllReadyH.nil)
                go_simp
                refine hK.out _ _ (hS _ (E1.alloc _)) (fun _ => ?_)
                clear hK K
                refine intro_world (fun W2 hN => ?_)
                have hH : BoxAt W2 W1.heap.size #[.int .u64 0, .int .u64 0] 33 := by rw [hN]; exact BoxAt.new' rfl
                have E2 : Ext w71 W2 := by rw [hN]; exact E1.alloc _
                have lb := E1.size
                clear hN hb1 E1
                generalize W1.heap.size = bh at hH lb ⊢
                have p0 : W2.cell? ⟨bh, 0, none⟩ = some (.int .u64 0) := hH.cell 0
                have p1 : W2.cell? ⟨bh, 1, none⟩ = some (.int .u64 0) := hH.cell 1
                have f0 := hH.frozen 0
                have f1 := hH.frozen 1
                have lH := hH.lt
                have E3 : Ext w71 ((W2.setCell ⟨bh, 0, none⟩ (.int .u64 (lo (wholes x s)))).setCell ⟨bh, 1, none⟩ (.int .u64 (hi (wholes x s)))) := Ext.set lb (Ext.set lb E2 _) _
                have hH3 := (hH.set 0 (.int .u64 (lo (wholes x s)))).set 1 (.int .u64 (hi (wholes x s)))
                refine wpAnyH_ready (rs := [13]) (by kernel_rfl) (by simp) ?_
                refine AllReadyH.cons rfl (fun K hK => ?_) (AllReadyH.nil)
                go_simp
                refine hK.out _ _ (hS _ E3) (fun _ => ?_)
                clear hK K p0 p1 f0 f1 lH hH E2
                refine wpAnyH_ready (rs := [14]) (by kernel_rfl) (by simp) ?_
                refine AllReadyH.cons rfl (fun K hK => ?_) (AllReadyH.nil)
                go_simp
                refine hK.out _ _ (hS _ E3) (fun _ => ?_)
                clear hK K
                refine wpAnyH_done (by kernel_rfl) ?_ _
                skip
                generalize hW3 : (W2.setCell ⟨bh, 0, none⟩ (.int .u64 (lo (wholes x s)))).setCell ⟨bh, 1, none⟩ (.int .u64 (hi (wholes x s))) = W3 at E3 hH3 ⊢
                clear hW3
                have hB3 := hB.ext E3
                have q0 : W3.cell? ⟨bh, 0, none⟩ = some (.int .u64 (lo (wholes x s))) := hH3.cell 0
                have q1 : W3.cell? ⟨bh, 1, none⟩ = some (.int .u64 (hi (wholes x s))) := hH3.cell 1
                have lH := hH3.lt
                have a0 : W3.cell? ⟨w23.heap.size, 0, none⟩ = some (.int .u64 (lo a)) := hB3.cell 0
                have a1 : W3.cell? ⟨w23.heap.size, 1, none⟩ = some (.int .u64 (hi a)) := hB3.cell 1
                have lA := hB3.lt
                go_wp2_with fail
                refine Calls.mono (spec_JoinMasks a (wholes x s) _) ?_
                rintro e w81 ⟨rfl, hb81⟩
                have hr81 := (hr71.trans E3).trans hb81
                have hB4 := hB3.ext hb81
                clear q0 q1 lH a0 a1 lA hb81 hB3
                have a0 : w81.cell? ⟨w23.heap.size, 0, none⟩ = some (.int .u64 (lo a)) := hB4.cell 0
                have a1 : w81.cell? ⟨w23.heap.size, 1, none⟩ = some (.int .u64 (hi a)) := hB4.cell 1
                have f0 := hB4.frozen 0
                have f1 := hB4.frozen 1
                have lA := hB4.lt
                have hA2 : Hd (joinL (hsL x vocL (model.take (k + 1))) = mjoin a (wholes x s)) := hd (by rw [hnx, joinL_snoc, ha.out])
                have hB5 := (hB4.set 0 (.int .u64 (lo (mjoin a (wholes x s))))).set 1 (.int .u64 (hi (mjoin a (wholes x s))))
                have hr5 : Ext w23 ((w81.setCell ⟨w23.heap.size, 0, none⟩ (.int .u64 (lo (mjoin a (wholes x s))))).setCell ⟨w23.heap.size, 1, none⟩ (.int .u64 (hi (mjoin a (wholes x s))))) := Ext.set (Nat.le_refl _) (Ext.set (Nat.le_refl _) hr81 _) _
                clear hnx ha
                go_wp2
                go_roundg (model.length + 1 - (k + 1))
                case rel => exact ⟨k + 1, mjoin a (wholes x s), rfl, by omega, by first | rfl | simp, hA2, hB5, hr5⟩
                case measure => omega
              · go_simp
                refine hK.out _ _ (hS _ (eD.alloc _)) (fun _ => ?_)
                clear hK K
                refine intro_world (fun W1 hN => ?_)
                have hH1 : BoxAt W1 WD.heap.size #[.int .u64 0, .int .u64 0] 33 := by rw [hN]; exact BoxAt.new' rfl
                have E1 : Ext w71 W1 := by rw [hN]; exact eD.alloc _
                have lb := eD.size
                clear hN
                generalize WD.heap.size = bh at hH1 lb ⊢
                refine wpAnyH_ready (rs := [8]) (by kernel_rfl) (by simp) ?_
                refine AllReadyH.cons rfl (fun K hK => ?_) (AllReadyH.nil)
                go_simp
                go_wp2_with fail
                refine Calls.mono (d2 _) ?_
                rintro e W2 ⟨rfl, hb1⟩
                go_simp
                have E2 := E1.trans hb1
                have hH := hH1.ext hb1
                refine hK.out _ _ (hS _ E2) (fun _ => ?_)
                clear hK K hb1 E1 hH1
                refine wpAnyH_take (i := 9) (v := ?_) rfl (by kernel_rfl) (by kernel_rfl) (by kernel_rfl) (fun _ _ _ h => h) (Or.inl ⟨by rfl, ?_⟩) (hS _ E2) ?_
                rotate_left
                · (intro W9 hW9; obtain ⟨z0, z1, z2, z3, z4⟩ := hW9; go_simp; try with_reducible rfl)
                try simp only [Act.put, List.setIfInBounds_toArray, List.set_cons_zero, List.set_cons_succ]
                refine wpAnyH_take (i := 10) (v := ?_) rfl (by kernel_rfl) (by kernel_rfl) (by kernel_rfl) (fun _ _ _ h => h) (Or.inl ⟨by rfl, ?_⟩) (hS _ E2) ?_
                rotate_left
                · (intro W9 hW9; obtain ⟨z0, z1, z2, z3, z4⟩ := hW9; go_simp; try with_reducible rfl)
                try simp only [Act.put, List.setIfInBounds_toArray, List.set_cons_zero, List.set_cons_succ]
                refine wpAnyH_take (i := 11) (v := ?_) rfl (by kernel_rfl) (by kernel_rfl) (by kernel_rfl) (fun _ _ _ h => h) (Or.inl ⟨by rfl, ?_⟩) (hS _ E2) ?_
                rotate_left
                · (intro W9 hW9; obtain ⟨z0, z1, z2, z3, z4⟩ := hW9; go_simp; try with_reducible rfl)
                try simp only [Act.put, List.setIfInBounds_toArray, List.set_cons_zero, List.set_cons_succ]
                have p0 : W2.cell? ⟨bh, 0, none⟩ = some (.int .u64 0) := hH.cell 0
                have p1 : W2.cell? ⟨bh, 1, none⟩ = some (.int .u64 0) := hH.cell 1
                have f0 := hH.frozen 0
                have f1 := hH.frozen 1
                have lH := hH.lt
                have E3 : Ext w71 ((W2.setCell ⟨bh, 0, none⟩ (.int .u64 (lo (wholes x s)))).setCell ⟨bh, 1, none⟩ (.int .u64 (hi (wholes x s)))) := Ext.set lb (Ext.set lb E2 _) _
                have hH3 := (hH.set 0 (.int .u64 (lo (wholes x s)))).set 1 (.int .u64 (hi (wholes x s)))
                refine wpAnyH_ready (rs := [13]) (by kernel_rfl) (by simp) ?_
                refine AllReadyH.cons rfl (fun K hK => ?_) (AllReadyH.nil)
                go_simp
                refine hK.out _ _ (hS _ E3) (fun _ => ?_)
                clear hK K p0 p1 f0 f1 lH hH E2
                refine wpAnyH_ready (rs := [14]) (by kernel_rfl) (by simp) ?_
                refine AllReadyH.cons rfl (fun K hK => ?_) (AllReadyH.nil)
                go_simp
                refine hK.out _ _ (hS _ E3) (fun _ => ?_)
                clear hK K
                refine wpAnyH_done (by kernel_rfl) ?_ _
                skip
                generalize hW3 : (W2.setCell ⟨bh, 0, none⟩ (.int .u64 (lo (wholes x s)))).setCell ⟨bh, 1, none⟩ (.int .u64 (hi (wholes x s))) = W3 at E3 hH3 ⊢
                clear hW3
                have hB3 := hB.ext E3
                have q0 : W3.cell? ⟨bh, 0, none⟩ = some (.int .u64 (lo (wholes x s))) := hH3.cell 0
                have q1 : W3.cell? ⟨bh, 1, none⟩ = some (.int .u64 (hi (wholes x s))) := hH3.cell 1
                have lH := hH3.lt
                have a0 : W3.cell? ⟨w23.heap.size, 0, none⟩ = some (.int .u64 (lo a)) := hB3.cell 0
                have a1 : W3.cell? ⟨w23.heap.size, 1, none⟩ = some (.int .u64 (hi a)) := hB3.cell 1
                have lA := hB3.lt
                go_wp2_with fail
                refine Calls.mono (spec_JoinMasks a (wholes x s) _) ?_
                rintro e w81 ⟨rfl, hb81⟩
                have hr81 := (hr71.trans E3).trans hb81
                have hB4 := hB3.ext hb81
                clear q0 q1 lH a0 a1 lA hb81 hB3
                have a0 : w81.cell? ⟨w23.heap.size, 0, none⟩ = some (.int .u64 (lo a)) := hB4.cell 0
                have a1 : w81.cell? ⟨w23.heap.size, 1, none⟩ = some (.int .u64 (hi a)) := hB4.cell 1
                have f0 := hB4.frozen 0
                have f1 := hB4.frozen 1
                have lA := hB4.lt
                have hA2 : Hd (joinL (hsL x vocL (model.take (k + 1))) = mjoin a (wholes x s)) := hd (by rw [hnx, joinL_snoc, ha.out])
                have hB5 := (hB4.set 0 (.int .u64 (lo (mjoin a (wholes x s))))).set 1 (.int .u64 (hi (mjoin a (wholes x s))))
                have hr5 : Ext w23 ((w81.setCell ⟨w23.heap.size, 0, none⟩ (.int .u64 (lo (mjoin a (wholes x s))))).setCell ⟨w23.heap.size, 1, none⟩ (.int .u64 (hi (mjoin a (wholes x s))))) := Ext.set (Nat.le_refl _) (Ext.set (Nat.le_refl _) hr81 _) _
                clear hnx ha
                go_wp2
                go_roundg (model.length + 1 - (k + 1))
                case rel => exact ⟨k + 1, mjoin a (wholes x s), rfl, by omega, by first | rfl | simp, hA2, hB5, hr5⟩
                case measure => omega
            · have n2 := n1 h0
              have hp2 := hprev h0
              obtain ⟨v1, hv1⟩ := hmm h0
              rw [hv1] at n2 hp2
              have hz : ((0 : Int) < (k : Int)) = True := eq_true (by omega)
              have e1 : IntKind.i64.wrap ((k : Int) - 1) = ((k - 1 : Nat) : Int) := (IntWalk.i64_in _ (by omega)).trans (by omega)
              have hk3 : ((k - 1 : Nat) : Int) < model.length := by omega
              clear n1 hprev hmm
              have lmM := World.block_lt_of_cell? _ _ n0
              dsimp only at lmM
              have d3 := fun W (hE : Ext wr W) => d1 W (hR2.ext hE)
              go_wp2
              refine wp_region_ext (by kernel_rfl) (by kernel_rfl) ?_
              repeat (first | go_big_quiet_step (((go_at_call 14; with_reducible exact Calls.ext_all (fun W hE => d3 W hE)))) | quiet_step (((go_at_call 14; with_reducible exact Calls.ext_all (fun W hE => d3 W hE)))))
              refine wpQuiet_nil ?_
              intro w71 hq71
              have hb71 := ext_of_class hq71
              clear hq71
              obtain ⟨hc71, hf71, hz71⟩ := bcell3 hb71
              try simp at hz71
              clear hc71 hf71 n2 hp2 hv1 e1 hk3
              replace Xx := Xx.ext hb71
              replace Xm := Xm.ext hb71
              replace hV := hV.ext hb71
              replace hR2 := hR2.ext hb71
              replace hR4 := hR4.ext hb71
              replace hR6 := hR6.ext hb71
              have hr71 := hr.trans hb71
              replace hB := hB.ext hb71
              replace n0 := hb71.cell n0
              replace m0 := hb71.cell m0
              clear hb71 lmM d1 d3
              go_wp2
              have hS : ∀ W, Ext w71 W → (fun W => W.cell? ⟨w11.heap.size, 0, none⟩ = some (.int .i16 x.st) ∧ W.cell? ⟨w11.heap.size, 1, none⟩ = some (.int .i16 x.sz) ∧ W.cell? ⟨w11.heap.size, 2, none⟩ = some (.int .i16 x.per) ∧ W.cell? ⟨bM, oM + k, none⟩ = some (.int .i64 (j : Int)) ∧ W.cell? ⟨bV, j, none⟩ = some (.string s)) W := fun W h => ⟨h.cell (Xx.cell 0), h.cell (Xx.cell 1), h.cell (Xx.cell 2), h.cell n0, h.cell m0⟩
              refine wp_region_held (S := (fun W => W.cell? ⟨w11.heap.size, 0, none⟩ = some (.int .i16 x.st) ∧ W.cell? ⟨w11.heap.size, 1, none⟩ = some (.int .i16 x.sz) ∧ W.cell? ⟨w11.heap.size, 2, none⟩ = some (.int .i16 x.per) ∧ W.cell? ⟨bM, oM + k, none⟩ = some (.int .i64 (j : Int)) ∧ W.cell? ⟨bV, j, none⟩ = some (.string s))) (by kernel_rfl) ?_
              change wpAnyH _ _ _ _ _ _ _ _ (World.drew _)
              refine intro_world (fun WD hWD => ?_)
              have eD : Ext w71 WD := by rw [hWD]; exact (Ext.refl _).drew
              clear hWD
              refine wpAnyH_take (i := 0) (v := ?_) rfl (by kernel_rfl) (by kernel_rfl) (by kernel_rfl) (fun _ _ _ h => h) (Or.inl ⟨by rfl, ?_⟩) (hS _ eD) ?_
              rotate_left
              · (intro W9 hW9; obtain ⟨z0, z1, z2, z3, z4⟩ := hW9; go_simp; try with_reducible rfl)
              try simp only [Act.put, List.setIfInBounds_toArray, List.set_cons_zero, List.set_cons_succ]
              refine wpAnyH_take (i := 1) (v := ?_) rfl (by kernel_rfl) (by kernel_rfl) (by kernel_rfl) (fun _ _ _ h => h) (Or.inl ⟨by rfl, ?_⟩) (hS _ eD) ?_
              rotate_left
              · (intro W9 hW9; obtain ⟨z0, z1, z2, z3, z4⟩ := hW9; go_simp; try with_reducible rfl)
              try simp only [Act.put, List.setIfInBounds_toArray, List.set_cons_zero, List.set_cons_succ]
              refine wpAnyH_take (i := 2) (v := ?_) rfl (by kernel_rfl) (by kernel_rfl) (by kernel_rfl) (fun _ _ _ h => h) (Or.inl ⟨by rfl, ?_⟩) (hS _ eD) ?_
              rotate_left
              · (intro W9 hW9; obtain ⟨z0, z1, z2, z3, z4⟩ := hW9; go_simp; try with_reducible rfl)
              try simp only [Act.put, List.setIfInBounds_toArray, List.set_cons_zero, List.set_cons_succ]
              refine wpAnyH_take (i := 3) (v := ?_) rfl (by kernel_rfl) (by kernel_rfl) (by kernel_rfl) (fun _ _ _ h => h) (Or.inl ⟨by rfl, ?_⟩) (hS _ eD) ?_
              rotate_left
              · (intro W9 hW9; obtain ⟨z0, z1, z2, z3, z4⟩ := hW9; go_simp; try with_reducible rfl)
              try simp only [Act.put, List.setIfInBounds_toArray, List.set_cons_zero, List.set_cons_succ]
              refine wpAnyH_take (i := 4) (v := ?_) rfl (by kernel_rfl) (by kernel_rfl) (by kernel_rfl) (fun _ _ _ h => h) (Or.inl ⟨by rfl, ?_⟩) (hS _ eD) ?_
              rotate_left
              · (intro W9 hW9; obtain ⟨z0, z1, z2, z3, z4⟩ := hW9; go_simp; try with_reducible rfl)
              try simp only [Act.put, List.setIfInBounds_toArray, List.set_cons_zero, List.set_cons_succ]
              refine wpAnyH_take (i := 5) (v := ?_) rfl (by kernel_rfl) (by kernel_rfl) (by kernel_rfl) (fun _ _ _ h => h) (Or.inl ⟨by rfl, ?_⟩) (hS _ eD) ?_
              rotate_left
              · (intro W9 hW9; obtain ⟨z0, z1, z2, z3, z4⟩ := hW9; go_simp; try with_reducible rfl)
              try simp only [Act.put, List.setIfInBounds_toArray, List.set_cons_zero, List.set_cons_succ]
              refine wpAnyH_take (i := 6) (v := ?_) rfl (by kernel_rfl) (by kernel_rfl) (by kernel_rfl) (fun _ _ _ h => h) (Or.inl ⟨by rfl, ?_⟩) (hS _ eD) ?_
              rotate_left
              · (intro W9 hW9; obtain ⟨z0, z1, z2, z3, z4⟩ := hW9; go_simp; try with_reducible rfl)
              try simp only [Act.put, List.setIfInBounds_toArray, List.set_cons_zero, List.set_cons_succ]
              refine wpAnyH_take (i := 7) (v := ?_) rfl (by kernel_rfl) (by kernel_rfl) (by kernel_rfl) (fun _ _ _ h => h) (Or.inl ⟨by rfl, ?_⟩) (hS _ eD) ?_
              rotate_left
              · (intro W9 hW9; obtain ⟨z0, z1, z2, z3, z4⟩ := hW9; go_simp; try with_reducible rfl)
              try simp only [Act.put, List.setIfInBounds_toArray, List.set_cons_zero, List.set_cons_succ]
              refine wpAnyH_ready (rs := [8, 12]) (by kernel_rfl) (by simp) ?_
              refine AllReadyH.cons rfl (fun K hK => ?_) (AllReadyH.cons rfl (fun K hK => ?_) (AllReadyH.nil))
              · go_simp
                go_wp2_with fail
                refine Calls.mono (d2 _) ?_
                rintro e W1 ⟨rfl, hb1⟩
                go_simp
                have E1 := eD.trans hb1
                refine hK.out _ _ (hS _ E1) (fun _ => ?_)
                clear hK K
                refine wpAnyH_take (i := 9) (v := ?_) rfl (by kernel_rfl) (by kernel_rfl) (by kernel_rfl) (fun _ _ _ h => h) (Or.inl ⟨by rfl, ?_⟩) (hS _ E1) ?_
                rotate_left
                · (intro W9 hW9; obtain ⟨z0, z1, z2, z3, z4⟩ := hW9; go_simp; try with_reducible rfl)
                try simp only [Act.put, List.setIfInBounds_toArray, List.set_cons_zero, List.set_cons_succ]
                refine wpAnyH_take (i := 10) (v := ?_) rfl (by kernel_rfl) (by kernel_rfl) (by kernel_rfl) (fun _ _ _ h => h) (Or.inl ⟨by rfl, ?_⟩) (hS _ E1) ?_
                rotate_left
                · (intro W9 hW9; obtain ⟨z0, z1, z2, z3, z4⟩ := hW9; go_simp; try with_reducible rfl)
                try simp only [Act.put, List.setIfInBounds_toArray, List.set_cons_zero, List.set_cons_succ]
                refine wpAnyH_take (i := 11) (v := ?_) rfl (by kernel_rfl) (by kernel_rfl) (by kernel_rfl) (fun _ _ _ h => h) (Or.inl ⟨by rfl, ?_⟩) (hS _ E1) ?_
                rotate_left
                · (intro W9 hW9; obtain ⟨z0, z1, z2, z3, z4⟩ := hW9; go_simp; try with_reducible rfl)
                try simp only [Act.put, List.setIfInBounds_toArray, List.set_cons_zero, List.set_cons_succ]
                refine wpAnyH_ready (rs := [12]) (by kernel_rfl) (by simp) ?_
                refine AllReadyH.cons rfl (fun K hK => ?_) (AllReadyH.nil)
                go_simp
                refine hK.out _ _ (hS _ (E1.alloc _)) (fun _ => ?_)
                clear hK K
                refine intro_world (fun W2 hN => ?_)
                have hH : BoxAt W2 W1.heap.size #[.int .u64 0, .int .u64 0] 33 := by rw [hN]; exact BoxAt.new' rfl
                have E2 : Ext w71 W2 := by rw [hN]; exact E1.alloc _
                have lb := E1.size
                clear hN hb1 E1
                generalize W1.heap.size = bh at hH lb ⊢
                have p0 : W2.cell? ⟨bh, 0, none⟩ = some (.int .u64 0) := hH.cell 0
                have p1 : W2.cell? ⟨bh, 1, none⟩ = some (.int .u64 0) := hH.cell 1
                have f0 := hH.frozen 0
                have f1 := hH.frozen 1
                have lH := hH.lt
                have E3 : Ext w71 ((W2.setCell ⟨bh, 0, none⟩ (.int .u64 (lo (wholes x s)))).setCell ⟨bh, 1, none⟩ (.int .u64 (hi (wholes x s)))) := Ext.set lb (Ext.set lb E2 _) _
                have hH3 := (hH.set 0 (.int .u64 (lo (wholes x s)))).set 1 (.int .u64 (hi (wholes x s)))
                refine wpAnyH_ready (rs := [13]) (by kernel_rfl) (by simp) ?_
                refine AllReadyH.cons rfl (fun K hK => ?_) (AllReadyH.nil)
                go_simp
                refine hK.out _ _ (hS _ E3) (fun _ => ?_)
                clear hK K p0 p1 f0 f1 lH hH E2
                refine wpAnyH_ready (rs := [14]) (by kernel_rfl) (by simp) ?_
                refine AllReadyH.cons rfl (fun K hK => ?_) (AllReadyH.nil)
                go_simp
                refine hK.out _ _ (hS _ E3) (fun _ => ?_)
                clear hK K
                refine wpAnyH_done (by kernel_rfl) ?_ _
                skip
                generalize hW3 : (W2.setCell ⟨bh, 0, none⟩ (.int .u64 (lo (wholes x s)))).setCell ⟨bh, 1, none⟩ (.int .u64 (hi (wholes x s))) = W3 at E3 hH3 ⊢
                clear hW3
                have hB3 := hB.ext E3
                have q0 : W3.cell? ⟨bh, 0, none⟩ = some (.int .u64 (lo (wholes x s))) := hH3.cell 0
                have q1 : W3.cell? ⟨bh, 1, none⟩ = some (.int .u64 (hi (wholes x s))) := hH3.cell 1
                have lH := hH3.lt
                have a0 : W3.cell? ⟨w23.heap.size, 0, none⟩ = some (.int .u64 (lo a)) := hB3.cell 0
                have a1 : W3.cell? ⟨w23.heap.size, 1, none⟩ = some (.int .u64 (hi a)) := hB3.cell 1
                have lA := hB3.lt
                go_wp2_with fail
                refine Calls.mono (spec_JoinMasks a (wholes x s) _) ?_
                rintro e w81 ⟨rfl, hb81⟩
                have hr81 := (hr71.trans E3).trans hb81
                have hB4 := hB3.ext hb81
                clear q0 q1 lH a0 a1 lA hb81 hB3
                have a0 : w81.cell? ⟨w23.heap.size, 0, none⟩ = some (.int .u64 (lo a)) := hB4.cell 0
                have a1 : w81.cell? ⟨w23.heap.size, 1, none⟩ = some (.int .u64 (hi a)) := hB4.cell 1
                have f0 := hB4.frozen 0
                have f1 := hB4.frozen 1
                have lA := hB4.lt
                have hA2 : Hd (joinL (hsL x vocL (model.take (k + 1))) = mjoin a (wholes x s)) := hd (by rw [hnx, joinL_snoc, ha.out])
                have hB5 := (hB4.set 0 (.int .u64 (lo (mjoin a (wholes x s))))).set 1 (.int .u64 (hi (mjoin a (wholes x s))))
                have hr5 : Ext w23 ((w81.setCell ⟨w23.heap.size, 0, none⟩ (.int .u64 (lo (mjoin a (wholes x s))))).setCell ⟨w23.heap.size, 1, none⟩ (.int .u64 (hi (mjoin a (wholes x s))))) := Ext.set (Nat.le_refl _) (Ext.set (Nat.le_refl _) hr81 _) _
                clear hnx ha
                go_wp2
                go_roundg (model.length + 1 - (k + 1))
                case rel => exact ⟨k + 1, mjoin a (wholes x s), rfl, by omega, by first | rfl | simp, hA2, hB5, hr5⟩
                case measure => omega
              · go_simp
                refine hK.out _ _ (hS _ (eD.alloc _)) (fun _ => ?_)
                clear hK K
                refine intro_world (fun W1 hN => ?_)
                have hH1 : BoxAt W1 WD.heap.size #[.int .u64 0, .int .u64 0] 33 := by rw [hN]; exact BoxAt.new' rfl
                have E1 : Ext w71 W1 := by rw [hN]; exact eD.alloc _
                have lb := eD.size
                clear hN
                generalize WD.heap.size = bh at hH1 lb ⊢
                refine wpAnyH_ready (rs := [8]) (by kernel_rfl) (by simp) ?_
                refine AllReadyH.cons rfl (fun K hK => ?_) (AllReadyH.nil)
                go_simp
                go_wp2_with fail
                refine Calls.mono (d2 _) ?_
                rintro e W2 ⟨rfl, hb1⟩
                go_simp
                have E2 := E1.trans hb1
                have hH := hH1.ext hb1
                refine hK.out _ _ (hS _ E2) (fun _ => ?_)
                clear hK K hb1 E1 hH1
                refine wpAnyH_take (i := 9) (v := ?_) rfl (by kernel_rfl) (by kernel_rfl) (by kernel_rfl) (fun _ _ _ h => h) (Or.inl ⟨by rfl, ?_⟩) (hS _ E2) ?_
                rotate_left
                · (intro W9 hW9; obtain ⟨z0, z1, z2, z3, z4⟩ := hW9; go_simp; try with_reducible rfl)
                try simp only [Act.put, List.setIfInBounds_toArray, List.set_cons_zero, List.set_cons_succ]
                refine wpAnyH_take (i := 10) (v := ?_) rfl (by kernel_rfl) (by kernel_rfl) (by kernel_rfl) (fun _ _ _ h => h) (Or.inl ⟨by rfl, ?_⟩) (hS _ E2) ?_
                rotate_left
                · (intro W9 hW9; obtain ⟨z0, z1, z2, z3, z4⟩ := hW9; go_simp; try with_reducible rfl)
                try simp only [Act.put, List.setIfInBounds_toArray, List.set_cons_zero, List.set_cons_succ]
                refine wpAnyH_take (i := 11) (v := ?_) rfl (by kernel_rfl) (by kernel_rfl) (by kernel_rfl) (fun _ _ _ h => h) (Or.inl ⟨by rfl, ?_⟩) (hS _ E2) ?_
                rotate_left
                · (intro W9 hW9; obtain ⟨z0, z1, z2, z3, z4⟩ := hW9; go_simp; try with_reducible rfl)
                try simp only [Act.put, List.setIfInBounds_toArray, List.set_cons_zero, List.set_cons_succ]
                have p0 : W2.cell? ⟨bh, 0, none⟩ = some (.int .u64 0) := hH.cell 0
                have p1 : W2.cell? ⟨bh, 1, none⟩ = some (.int .u64 0) := hH.cell 1
                have f0 := hH.frozen 0
                have f1 := hH.frozen 1
                have lH := hH.lt
                have E3 : Ext w71 ((W2.setCell ⟨bh, 0, none⟩ (.int .u64 (lo (wholes x s)))).setCell ⟨bh, 1, none⟩ (.int .u64 (hi (wholes x s)))) := Ext.set lb (Ext.set lb E2 _) _
                have hH3 := (hH.set 0 (.int .u64 (lo (wholes x s)))).set 1 (.int .u64 (hi (wholes x s)))
                refine wpAnyH_ready (rs := [13]) (by kernel_rfl) (by simp) ?_
                refine AllReadyH.cons rfl (fun K hK => ?_) (AllReadyH.nil)
                go_simp
                refine hK.out _ _ (hS _ E3) (fun _ => ?_)
                clear hK K p0 p1 f0 f1 lH hH E2
                refine wpAnyH_ready (rs := [14]) (by kernel_rfl) (by simp) ?_
                refine AllReadyH.cons rfl (fun K hK => ?_) (AllReadyH.nil)
                go_simp
                refine hK.out _ _ (hS _ E3) (fun _ => ?_)
                clear hK K
                refine wpAnyH_done (by kernel_rfl) ?_ _
                skip
                generalize hW3 : (W2.setCell ⟨bh, 0, none⟩ (.int .u64 (lo (wholes x s)))).setCell ⟨bh, 1, none⟩ (.int .u64 (hi (wholes x s))) = W3 at E3 hH3 ⊢
                clear hW3
                have hB3 := hB.ext E3
                have q0 : W3.cell? ⟨bh, 0, none⟩ = some (.int .u64 (lo (wholes x s))) := hH3.cell 0
                have q1 : W3.cell? ⟨bh, 1, none⟩ = some (.int .u64 (hi (wholes x s))) := hH3.cell 1
                have lH := hH3.lt
                have a0 : W3.cell? ⟨w23.heap.size, 0, none⟩ = some (.int .u64 (lo a)) := hB3.cell 0
                have a1 : W3.cell? ⟨w23.heap.size, 1, none⟩ = some (.int .u64 (hi a)) := hB3.cell 1
                have lA := hB3.lt
                go_wp2_with fail
                refine Calls.mono (spec_JoinMasks a (wholes x s) _) ?_
                rintro e w81 ⟨rfl, hb81⟩
                have hr81 := (hr71.trans E3).trans hb81
                have hB4 := hB3.ext hb81
                clear q0 q1 lH a0 a1 lA hb81 hB3
                have a0 : w81.cell? ⟨w23.heap.size, 0, none⟩ = some (.int .u64 (lo a)) := hB4.cell 0
                have a1 : w81.cell? ⟨w23.heap.size, 1, none⟩ = some (.int .u64 (hi a)) := hB4.cell 1
                have f0 := hB4.frozen 0
                have f1 := hB4.frozen 1
                have lA := hB4.lt
                have hA2 : Hd (joinL (hsL x vocL (model.take (k + 1))) = mjoin a (wholes x s)) := hd (by rw [hnx, joinL_snoc, ha.out])
                have hB5 := (hB4.set 0 (.int .u64 (lo (mjoin a (wholes x s))))).set 1 (.int .u64 (hi (mjoin a (wholes x s))))
                have hr5 : Ext w23 ((w81.setCell ⟨w23.heap.size, 0, none⟩ (.int .u64 (lo (mjoin a (wholes x s))))).setCell ⟨w23.heap.size, 1, none⟩ (.int .u64 (hi (mjoin a (wholes x s))))) := Ext.set (Nat.le_refl _) (Ext.set (Nat.le_refl _) hr81 _) _
                clear hnx ha
                go_wp2
                go_roundg (model.length + 1 - (k + 1))
                case rel => exact ⟨k + 1, mjoin a (wholes x s), rfl, by omega, by first | rfl | simp, hA2, hB5, hr5⟩
                case measure => omega
          · obtain rfl : k = model.length := by omega
            have haM : a = m := by rw [← ha.out, List.take_length]; exact g4.out
            subst haM
            clear ha g4 gw gp g1 g2
            obtain ⟨wo, hwo⟩ : ∃ x, x = wr := ⟨_, rfl⟩
            subst hwo
            go_wp2
            go_loopg [28] (told.length + 1) (fun g iv wr => ∃ k : Nat, g = told.length + 1 - k ∧ k ≤ told.length ∧ iv = .int .i64 (k : Int) ∧ Ext wo wr)
            case atStart => exact ⟨0, rfl, by omega, rfl, Ext.refl _⟩
            case round =>
              obtain ⟨k, hg2, hk2, rfl, hr2⟩ := hrel
              have hwr2 := hwr.trans hr2
              by_cases hkl : k < told.length
              · obtain ⟨bT, oT, hAT, hltT, hrT⟩ := hR6 k hkl
                subst hAT
                clear hrT
                have n0 := (hR6.ext hr2).i64 k hkl
                have hcon : model.contains told[k] = true := List.contains_iff_mem.2 (g5.out _ (List.getElem_mem hkl))
                have lmT := World.block_lt_of_cell? _ _ n0
                dsimp only at lmT
                have d1 := fun W h => spec_HasIndexX model A19 cap19 told[k] W h (by omega)
                rw [hcon] at d1
                clear hcon
                generalize told[k] = tv at n0 d1
                have hk1 : (k : Int) < told.length := by omega
                go_wp2_with fail
                refine Calls.mono (d1 _ (hR4.ext hr2)) ?_
                rintro e w91 ⟨rfl, hb91⟩
                have hr91 := hr2.trans hb91
                clear n0 lmT d1
                go_wp2
                go_roundg (told.length + 1 - (k + 1))
                case rel => exact ⟨k + 1, rfl, by omega, by first | rfl | simp, hr91⟩
                case measure => omega
              · obtain rfl : k = told.length := by omega
                have hB6 := hB.ext hr2
                have a0 : wr.cell? ⟨w23.heap.size, 0, none⟩ = some (.int .u64 (lo a)) := hB6.cell 0
                have a1 : wr.cell? ⟨w23.heap.size, 1, none⟩ = some (.int .u64 (hi a)) := hB6.cell 1
                have lA := hB6.lt
                have Xm2 := Xm.ext hr2
                have b0 : wr.cell? ⟨w14.heap.size, 0, none⟩ = some (.int .u64 (lo a)) := Xm2.cell 0
                have b1 : wr.cell? ⟨w14.heap.size, 1, none⟩ = some (.int .u64 (hi a)) := Xm2.cell 1
                have lm := Xm2.lt
                have eqm := eqA_Mask
                go_wp2
                go_ret
                exact ⟨by first | rfl | (simp; exact gd2.out) | (simp [gd]; done), hwr2⟩
      · subst h7
        go_wp2
        go_ret
        exact ⟨rfl, hw23⟩
end Go.Proofs.YtegopgpnjgikeaaDoor
