/-
  The walk of the law FnQueries.
-/
import Derived.Test.YtciepjdacmjhlaaGreatDoorWQX
set_option linter.unusedVariables false
set_option linter.unusedSimpArgs false
set_option maxRecDepth 100000
namespace Go.Proofs.YtciepjdacmjhlaaGreatDoor
open Go.RowKit
theorem rd_two {w : World} {b : Nat} {u r : Qry} {t : TypeId} (h : BoxAt w b #[.int .u64 (lo u.al), .int .u64 (hi u.al), .int .u64 (lo u.no), .int .u64 (hi u.no), .int .u64 (lo r.al), .int .u64 (hi r.al), .int .u64 (lo r.no), .int .u64 (hi r.no)] t) : Rd encQry w (some ⟨b, 0, none⟩) [u, r] := by
  intro k hk
  refine ⟨b, 0, rfl, h.lt, fun j x hx => ?_⟩
  match k, hk with
  | 0, _ =>
    match j, hx with
    | 0, hx => cases hx; exact h.cell 0
    | 1, hx => cases hx; exact h.cell 1
    | 2, hx => cases hx; exact h.cell 2
    | 3, hx => cases hx; exact h.cell 3
    | n + 4, hx => cases hx
  | 1, _ =>
    match j, hx with
    | 0, hx => cases hx; exact h.cell 4
    | 1, hx => cases hx; exact h.cell 5
    | 2, hx => cases hx; exact h.cell 6
    | 3, hx => cases hx; exact h.cell 7
    | n + 4, hx => cases hx
theorem ans_list (ds : List Crd) (qs : List Qry) : ∀ (i : Nat) (h : i < ds.length), hasV (ansL ds qs) (i : Int) = qs.any fun q => drpB q ds[i].m := fun i h => ans_has ds qs i h
theorem ansL_len (ds : List Crd) (qs : List Qry) : (ansL ds qs).length ≤ ds.length := idxTo_len _ _
theorem eqA_Qry (d : Nat) (a b c f a' b' c' f' : Int) (w : World) :
    (Op.equalIn (d + 3) 44 (.agg #[.int .u64 a, .int .u64 b, .int .u64 c, .int .u64 f]) (.agg #[.int .u64 a', .int .u64 b', .int .u64 c', .int .u64 f'])).run Tryz.prog w = .ok ((a == a' && b == b') && (c == c' && f == f')) w := by
  have e := eqA_Mask d
  rw [Op.equalIn]
  simp only [Sem.run_bind, run_underlying Tryz.underlying44, Result.andThen_ok, Std.Legacy.Range.forIn_eq_forIn_range', Std.Legacy.Range.size]
  go_simp
  by_cases h1 : a = a' <;> by_cases h2 : b = b' <;> by_cases h3 : c = c' <;> by_cases h4 : f = f' <;> simp [h1, h2, h3, h4]
set_option maxHeartbeats 40000000 in
theorem laws_FnQueries (cs ds : List UInt8) (A B : Option Addr) (cap cap' : Nat) (w : World) (hn : cs.length ≤ 9223372036854775807) (hR : Rd encU8 w A cs) (hm : ds.length ≤ 9223372036854775807) (hS : Rd encU8 w B ds) :
    Calls Tryz.prog 4 #[.slice A cs.length cap, .slice B ds.length cap'] w fun e w' => e = .returned (.bool true) ∧ Ext w w' := by
  have hx := @ExtOf.cell
  have b1 := fun W => laws_a2Long cs ds A B cap cap' W
  by_cases h1 : 3000 < cs.length ∨ 3000 < ds.length
  · rw [decide_eq_true h1] at b1
    go_enter Tryz.func4, Tryz.ntmps4
    go_wp2_with fail
    refine Calls.mono (b1 _) ?_
    rintro e w1 ⟨rfl, hb1⟩
    go_wp2
    go_ret
    exact ⟨rfl, hb1⟩
  rw [decide_eq_false h1] at b1
  go_enter Tryz.func4, Tryz.ntmps4
  go_wp2_with fail
  refine Calls.mono (b1 _) ?_
  rintro e w1 ⟨rfl, hb1⟩
  clear b1
  go_wp2_with fail
  refine Calls.mono (spec_A2Scheme cs A cap _ (hR.ext hb1) (by omega)) ?_
  rintro e w2 ⟨xs, v2, rfl, hO, hD, l1, l5, hb2⟩
  obtain ⟨C, cc, rfl, hle, hRx⟩ := hO.slice
  have hw2 := hb1.trans hb2
  clear hO hb1 hb2
  go_wp2_with fail
  refine Calls.mono (spec_A2Deck ds B cap' xs C cc _ (hS.ext hw2) (by omega) hRx l1 l5 hD) ?_
  rintro e w3 ⟨dk, v3, rfl, hO, hDk, hb3⟩
  obtain ⟨D, dcap, rfl, hled, hRd⟩ := hO.slice
  have hw3 := hw2.trans hb3
  replace hRx := hRx.ext hb3
  clear hO hb3 hw2
  go_wp2_with fail
  refine Calls.mono (laws_a2At ds B cap' 0 xs.length (by omega) (by omega) _ (hS.ext hw3)) ?_
  rintro e w4 ⟨q, rfl, q0, q1, hb4⟩
  have hw4 := hw3.trans hb4
  replace hRx := hRx.ext hb4
  replace hRd := hRd.ext hb4
  obtain ⟨q, rfl⟩ := Int.eq_ofNat_of_zero_le q0
  have hq : q < xs.length := by omega
  clear hb4 hw3 q0 q1 hle
  obtain ⟨bF, oF, hAF, hltF, hrF⟩ := hRx q hq
  subst hAF
  clear hrF hltF
  obtain ⟨m0, m1, m2, m3, mb⟩ := hRx.fld q hq
  have hfd := hD _ (List.getElem_mem hq)
  have q1 : (q : Int) < xs.length := by omega
  have hin := drawn_in hfd
  generalize xs[q] = f at m0 m1 m2 m3 hfd hin
  have hf := hfd.1
  have hL := code_law hf hfd.2
  have hmo := mostF_le f hf
  have j1 : IntKind.i64.wrap (mostF f + 1) = mostF f + 1 := IntWalk.i64_in _ (by omega)
  have c1 := fun W => spec_MostOf f hf hin W
  have c5 := fun W => spec_HolesOf f hf hin W
  go_wp2_with fail
  refine intro_world (R := fun W => Calls _ _ _ W _) (fun W10 hN => ?_)
  have dW10 : Ext w4 W10 := by rw [hN]; exact (Ext.refl _).alloc _
  have eW10 := hw4.trans dW10
  replace hRx := hRx.ext dW10
  replace hRd := hRd.ext dW10
  have Xf : BoxAt W10 w4.heap.size #[.string f.nm, .int .i8 f.kd, .int .i16 f.st, .int .i16 f.sz] 36 := by rw [hN]; exact (BoxAt.new' rfl)
  clear hN
  refine Calls.mono (c1 W10) ?_
  rintro e w11 ⟨rfl, hb11⟩
  have hw11 := eW10.trans hb11
  replace Xf := Xf.ext hb11
  replace hRx := hRx.ext hb11
  replace hRd := hRd.ext hb11
  clear hb11 dW10 eW10
  clear m0 m1 m2 m3 mb q1
  go_wp2_with fail
  refine intro_world (R := fun W => Calls _ _ _ W _) (fun W11 hN => ?_)
  have dW11 : Ext w11 W11 := by rw [hN]; exact (Ext.refl _)
  have eW11 := hw11.trans dW11
  replace Xf := Xf.ext dW11
  replace hRx := hRx.ext dW11
  replace hRd := hRd.ext dW11
  clear hN
  refine Calls.mono (laws_a2At ds B cap' 1 (mostF f + 1) (by omega) (by omega) W11 (hS.ext eW11)) ?_
  rintro e w12 ⟨v, rfl, v0, v1, hb12⟩
  have hw12 := eW11.trans hb12
  replace Xf := Xf.ext hb12
  replace hRx := hRx.ext hb12
  replace hRd := hRd.ext hb12
  clear hb12 dW11 eW11
  replace v1 : v ≤ mostF f := by omega
  have hqo := qryFor_ok hf hL v0 v1
  have hqw := qryFor_width hf hL v0 v1
  have hqd := hd (qryFor_drops hL v0 v1)
  have c2 := fun W => impl_QueryFor f hf hin v v0 v1 W
  have c3 := fun W => spec_QueryFor f hf hin v v0 v1 W
  generalize qryFor f v = u at hqo hqw hqd c2 c3
  have c4 := fun W => impl_PassesOf u hqo W
  rw [hqw] at c4
  have c7 := fun W => impl_ValidQuery u W
  rw [hqo] at c7
  have hdd := hDk.deck
  have hdl := hDk.len
  have hds := hDk.small
  have hla := ans_list dk [u]
  have hl1 := ansL_len dk [u]
  have c8 := fun W h => impl_AnswerOf dk D dcap u hqo hdd W h hled (by omega) hds
  have c9 := fun W h => spec_AnswerOf dk D dcap u hqo hdd W h (by omega) hds
  generalize ansL dk [u] = la at hla hl1 c8 c9
  clear hqw
  have yf0 : w12.cell? ⟨w4.heap.size, 0, none⟩ = some (.string f.nm) := Xf.cell 0
  have yf1 : w12.cell? ⟨w4.heap.size, 1, none⟩ = some (.int .i8 f.kd) := Xf.cell 1
  have yf2 : w12.cell? ⟨w4.heap.size, 2, none⟩ = some (.int .i16 f.st) := Xf.cell 2
  have yf3 : w12.cell? ⟨w4.heap.size, 3, none⟩ = some (.int .i16 f.sz) := Xf.cell 3
  have lf := Xf.lt
  go_wp2_with fail
  refine intro_world (R := fun W => Calls _ _ _ W _) (fun W12 hN => ?_)
  have dW12 : Ext w12 W12 := by rw [hN]; exact (Ext.refl _)
  have eW12 := hw12.trans dW12
  replace Xf := Xf.ext dW12
  replace hRx := hRx.ext dW12
  replace hRd := hRd.ext dW12
  clear hN
  clear yf0 yf1 yf2 yf3 lf
  refine Calls.mono (c2 W12) ?_
  rintro e w13 ⟨rfl, hb13⟩
  have hw13 := eW12.trans hb13
  replace Xf := Xf.ext hb13
  replace hRx := hRx.ext hb13
  replace hRd := hRd.ext hb13
  clear hb13 dW12 eW12
  have yf0 : w13.cell? ⟨w4.heap.size, 0, none⟩ = some (.string f.nm) := Xf.cell 0
  have yf1 : w13.cell? ⟨w4.heap.size, 1, none⟩ = some (.int .i8 f.kd) := Xf.cell 1
  have yf2 : w13.cell? ⟨w4.heap.size, 2, none⟩ = some (.int .i16 f.st) := Xf.cell 2
  have yf3 : w13.cell? ⟨w4.heap.size, 3, none⟩ = some (.int .i16 f.sz) := Xf.cell 3
  have lf := Xf.lt
  go_wp2_with fail
  refine intro_world (R := fun W => Calls _ _ _ W _) (fun W13 hN => ?_)
  have dW13 : Ext w13 W13 := by rw [hN]; exact (Ext.refl _).alloc _
  have eW13 := hw13.trans dW13
  replace Xf := Xf.ext dW13
  replace hRx := hRx.ext dW13
  replace hRd := hRd.ext dW13
  have Xq : BoxAt W13 w13.heap.size #[.int .u64 (lo u.al), .int .u64 (hi u.al), .int .u64 (lo u.no), .int .u64 (hi u.no)] 44 := by rw [hN]; exact (BoxAt.new' rfl)
  clear hN
  clear yf0 yf1 yf2 yf3 lf
  refine Calls.mono (c3 W13) ?_
  rintro e w14 ⟨rfl, hb14⟩
  have hw14 := eW13.trans hb14
  replace Xf := Xf.ext hb14
  replace Xq := Xq.ext hb14
  replace hRx := hRx.ext hb14
  replace hRd := hRd.ext hb14
  clear hb14 dW13 eW13
  go_wp2_with fail
  refine intro_world (R := fun W => Calls _ _ _ W _) (fun W14 hN => ?_)
  have dW14 : Ext w14 W14 := by rw [hN]; exact (Ext.refl _).alloc _
  have eW14 := hw14.trans dW14
  replace Xf := Xf.ext dW14
  replace Xq := Xq.ext dW14
  replace hRx := hRx.ext dW14
  replace hRd := hRd.ext dW14
  have Xdue : BoxAt W14 w14.heap.size #[.int .u64 (lo u.al), .int .u64 (hi u.al), .int .u64 (lo u.no), .int .u64 (hi u.no)] 44 := by rw [hN]; exact (BoxAt.new' rfl)
  clear hN
  refine Calls.mono (c4 W14) ?_
  rintro e w15 ⟨rfl, hb15⟩
  have hw15 := eW14.trans hb15
  replace Xf := Xf.ext hb15
  replace Xq := Xq.ext hb15
  replace Xdue := Xdue.ext hb15
  replace hRx := hRx.ext hb15
  replace hRd := hRd.ext hb15
  clear hb15 dW14 eW14
  have yf0 : w15.cell? ⟨w4.heap.size, 0, none⟩ = some (.string f.nm) := Xf.cell 0
  have yf1 : w15.cell? ⟨w4.heap.size, 1, none⟩ = some (.int .i8 f.kd) := Xf.cell 1
  have yf2 : w15.cell? ⟨w4.heap.size, 2, none⟩ = some (.int .i16 f.st) := Xf.cell 2
  have yf3 : w15.cell? ⟨w4.heap.size, 3, none⟩ = some (.int .i16 f.sz) := Xf.cell 3
  have lf := Xf.lt
  go_wp2_with fail
  refine intro_world (R := fun W => Calls _ _ _ W _) (fun W15 hN => ?_)
  have dW15 : Ext w15 W15 := by rw [hN]; exact (Ext.refl _)
  have eW15 := hw15.trans dW15
  replace Xf := Xf.ext dW15
  replace Xq := Xq.ext dW15
  replace Xdue := Xdue.ext dW15
  replace hRx := hRx.ext dW15
  replace hRd := hRd.ext dW15
  clear hN
  clear yf0 yf1 yf2 yf3 lf
  refine Calls.mono (c5 W15) ?_
  rintro e w16 ⟨rfl, hb16⟩
  have hw16 := eW15.trans hb16
  replace Xf := Xf.ext hb16
  replace Xq := Xq.ext hb16
  replace Xdue := Xdue.ext hb16
  replace hRx := hRx.ext hb16
  replace hRd := hRd.ext hb16
  clear hb16 dW15 eW15
  have ydue0 : w16.cell? ⟨w14.heap.size, 0, none⟩ = some (.int .u64 (lo u.al)) := Xdue.cell 0
  have ydue1 : w16.cell? ⟨w14.heap.size, 1, none⟩ = some (.int .u64 (hi u.al)) := Xdue.cell 1
  have ydue2 : w16.cell? ⟨w14.heap.size, 2, none⟩ = some (.int .u64 (lo u.no)) := Xdue.cell 2
  have ydue3 : w16.cell? ⟨w14.heap.size, 3, none⟩ = some (.int .u64 (hi u.no)) := Xdue.cell 3
  have ldue := Xdue.lt
  go_wp2_with fail
  refine intro_world (R := fun W => Calls _ _ _ W _) (fun W16 hN => ?_)
  have dW16 : Ext w16 W16 := by rw [hN]; exact (Ext.refl _)
  have eW16 := hw16.trans dW16
  replace Xf := Xf.ext dW16
  replace Xq := Xq.ext dW16
  replace Xdue := Xdue.ext dW16
  replace hRx := hRx.ext dW16
  replace hRd := hRd.ext dW16
  clear hN
  clear ydue0 ydue1 ydue2 ydue3 ldue
  refine Calls.mono (c8 W16 hRd) ?_
  rintro e w17 ⟨v17, rfl, hO17, hb17⟩
  obtain ⟨A17, cap17, rfl, hle17, hRa⟩ := hO17.slice
  have hw17 := eW16.trans hb17
  replace Xf := Xf.ext hb17
  replace Xq := Xq.ext hb17
  replace Xdue := Xdue.ext hb17
  replace hRx := hRx.ext hb17
  replace hRd := hRd.ext hb17
  clear hb17 dW16 eW16 hO17
  have ydue0 : w17.cell? ⟨w14.heap.size, 0, none⟩ = some (.int .u64 (lo u.al)) := Xdue.cell 0
  have ydue1 : w17.cell? ⟨w14.heap.size, 1, none⟩ = some (.int .u64 (hi u.al)) := Xdue.cell 1
  have ydue2 : w17.cell? ⟨w14.heap.size, 2, none⟩ = some (.int .u64 (lo u.no)) := Xdue.cell 2
  have ydue3 : w17.cell? ⟨w14.heap.size, 3, none⟩ = some (.int .u64 (hi u.no)) := Xdue.cell 3
  have ldue := Xdue.lt
  go_wp2_with fail
  refine intro_world (R := fun W => Calls _ _ _ W _) (fun W17 hN => ?_)
  have dW17 : Ext w17 W17 := by rw [hN]; exact (Ext.refl _)
  have eW17 := hw17.trans dW17
  replace Xf := Xf.ext dW17
  replace Xq := Xq.ext dW17
  replace Xdue := Xdue.ext dW17
  replace hRx := hRx.ext dW17
  replace hRd := hRd.ext dW17
  replace hRa := hRa.ext dW17
  clear hN
  clear ydue0 ydue1 ydue2 ydue3 ldue
  refine Calls.mono (c9 W17 hRd) ?_
  rintro e w18 ⟨v18, rfl, hO18, hb18⟩
  obtain ⟨A18, cap18, rfl, hle18, hRm⟩ := hO18.slice
  have hw18 := eW17.trans hb18
  replace Xf := Xf.ext hb18
  replace Xq := Xq.ext hb18
  replace Xdue := Xdue.ext hb18
  replace hRx := hRx.ext hb18
  replace hRd := hRd.ext hb18
  replace hRa := hRa.ext hb18
  clear hb18 dW17 eW17 hO18
  have c6 := fun W h1 h2 => spec_A2SameQ la A17 A18 cap17 cap18 W h1 h2 (by omega)
  have e2 := eqA_Qry
  have yq0 : w18.cell? ⟨w13.heap.size, 0, none⟩ = some (.int .u64 (lo u.al)) := Xq.cell 0
  have yq1 : w18.cell? ⟨w13.heap.size, 1, none⟩ = some (.int .u64 (hi u.al)) := Xq.cell 1
  have yq2 : w18.cell? ⟨w13.heap.size, 2, none⟩ = some (.int .u64 (lo u.no)) := Xq.cell 2
  have yq3 : w18.cell? ⟨w13.heap.size, 3, none⟩ = some (.int .u64 (hi u.no)) := Xq.cell 3
  have lq := Xq.lt
  have ydue0 : w18.cell? ⟨w14.heap.size, 0, none⟩ = some (.int .u64 (lo u.al)) := Xdue.cell 0
  have ydue1 : w18.cell? ⟨w14.heap.size, 1, none⟩ = some (.int .u64 (hi u.al)) := Xdue.cell 1
  have ydue2 : w18.cell? ⟨w14.heap.size, 2, none⟩ = some (.int .u64 (lo u.no)) := Xdue.cell 2
  have ydue3 : w18.cell? ⟨w14.heap.size, 3, none⟩ = some (.int .u64 (hi u.no)) := Xdue.cell 3
  have ldue := Xdue.lt
  go_wp2_with fail
  refine intro_world (R := fun W => Calls _ _ _ W _) (fun W18 hN => ?_)
  have dW18 : Ext w18 W18 := by rw [hN]; exact (Ext.refl _)
  have eW18 := hw18.trans dW18
  replace Xf := Xf.ext dW18
  replace Xq := Xq.ext dW18
  replace Xdue := Xdue.ext dW18
  replace hRx := hRx.ext dW18
  replace hRd := hRd.ext dW18
  replace hRa := hRa.ext dW18
  replace hRm := hRm.ext dW18
  clear hN
  clear yq0 yq1 yq2 yq3 lq ydue0 ydue1 ydue2 ydue3 ldue
  refine Calls.mono (c6 W18 hRa hRm) ?_
  rintro e w19 ⟨rfl, hb19⟩
  have hw19 := eW18.trans hb19
  replace Xf := Xf.ext hb19
  replace Xq := Xq.ext hb19
  replace Xdue := Xdue.ext hb19
  replace hRx := hRx.ext hb19
  replace hRd := hRd.ext hb19
  replace hRa := hRa.ext hb19
  replace hRm := hRm.ext hb19
  clear hb19 dW18 eW18
  clear hRa
  have ydue0 : w19.cell? ⟨w14.heap.size, 0, none⟩ = some (.int .u64 (lo u.al)) := Xdue.cell 0
  have ydue1 : w19.cell? ⟨w14.heap.size, 1, none⟩ = some (.int .u64 (hi u.al)) := Xdue.cell 1
  have ydue2 : w19.cell? ⟨w14.heap.size, 2, none⟩ = some (.int .u64 (lo u.no)) := Xdue.cell 2
  have ydue3 : w19.cell? ⟨w14.heap.size, 3, none⟩ = some (.int .u64 (hi u.no)) := Xdue.cell 3
  have ldue := Xdue.lt
  go_wp2_with fail
  refine intro_world (R := fun W => Calls _ _ _ W _) (fun W19 hN => ?_)
  have dW19 : Ext w19 W19 := by rw [hN]; exact (Ext.refl _)
  have eW19 := hw19.trans dW19
  replace Xf := Xf.ext dW19
  replace Xq := Xq.ext dW19
  replace Xdue := Xdue.ext dW19
  replace hRx := hRx.ext dW19
  replace hRd := hRd.ext dW19
  replace hRm := hRm.ext dW19
  clear hN
  clear ydue0 ydue1 ydue2 ydue3 ldue
  refine Calls.mono (c7 W19) ?_
  rintro e w20 ⟨rfl, hb20⟩
  have hw20 := eW19.trans hb20
  replace Xf := Xf.ext hb20
  replace Xq := Xq.ext hb20
  replace Xdue := Xdue.ext hb20
  replace hRx := hRx.ext hb20
  replace hRd := hRd.ext hb20
  replace hRm := hRm.ext hb20
  clear hb20 dW19 eW19
  clear e2 c1 c2 c3 c4 c5 c6 c7 c8 c9
  clear Xq
  go_wp2_with fail
  refine intro_world (R := fun W => Calls _ _ _ W _) (fun W20 hN => ?_)
  have dW20 : Ext w20 W20 := by rw [hN]; exact (Ext.refl _)
  have eW20 := hw20.trans dW20
  replace Xf := Xf.ext dW20
  replace Xdue := Xdue.ext dW20
  replace hRx := hRx.ext dW20
  replace hRd := hRd.ext dW20
  replace hRm := hRm.ext dW20
  clear hN
  refine Calls.mono (spec_A2Query cs A cap xs (some ⟨bF, oF, none⟩) cc W20 (hR.ext eW20) (by omega) hRx l1 l5 hD) ?_
  rintro e w21 ⟨r, rfl, hro, hb21⟩
  have hw21 := eW20.trans hb21
  replace Xf := Xf.ext hb21
  replace Xdue := Xdue.ext hb21
  replace hRx := hRx.ext hb21
  replace hRd := hRd.ext hb21
  replace hRm := hRm.ext hb21
  clear hb21 dW20 eW20
  clear hRx
  have hlb := ans_list dk [r]
  have hl2 := ansL_len dk [r]
  have c1 := fun W h => impl_AnswerOf dk D dcap r hro hdd W h hled (by omega) hds
  generalize ansL dk [r] = lb at hlb hl2 c1
  have hlc := ans_list dk [u, r]
  have hl3 := ansL_len dk [u, r]
  have hgb : ([u, r].any fun q => !(qryB q)) = false := by simp [hqo, hro]
  have c3 := fun BB capq W h h2 => impl_AnyOf dk D dcap [u, r] BB capq hgb hdd W h hled (by omega) hds h2 (by simp)
  generalize ansL dk [u, r] = lc at hlc hl3 c3
  clear hgb
  go_wp2_with fail
  refine intro_world (R := fun W => Calls _ _ _ W _) (fun W21 hN => ?_)
  have dW21 : Ext w21 W21 := by rw [hN]; exact (Ext.refl _).alloc _
  have eW21 := hw21.trans dW21
  replace Xf := Xf.ext dW21
  replace Xdue := Xdue.ext dW21
  replace hRd := hRd.ext dW21
  replace hRm := hRm.ext dW21
  have Xr : BoxAt W21 w21.heap.size #[.int .u64 (lo r.al), .int .u64 (hi r.al), .int .u64 (lo r.no), .int .u64 (hi r.no)] 44 := by rw [hN]; exact (BoxAt.new' rfl)
  clear hN
  refine Calls.mono (c1 W21 hRd) ?_
  rintro e w22 ⟨v22, rfl, hO22, hb22⟩
  obtain ⟨A22, cap22, rfl, hle22, hRo⟩ := hO22.slice
  have hw22 := eW21.trans hb22
  replace Xf := Xf.ext hb22
  replace Xdue := Xdue.ext hb22
  replace Xr := Xr.ext hb22
  replace hRd := hRd.ext hb22
  replace hRm := hRm.ext hb22
  clear hb22 dW21 eW21 hO22
  clear c1
  cases hbo : qryB (qryBoth u r) with
  | false =>
    have c1 := fun W => impl_BothQueries_no u r hqo hro hbo W
    have hbd := hd (qryBoth_none hqo hro hbo)
    clear hbo
    have ydue0 : w22.cell? ⟨w14.heap.size, 0, none⟩ = some (.int .u64 (lo u.al)) := Xdue.cell 0
    have ydue1 : w22.cell? ⟨w14.heap.size, 1, none⟩ = some (.int .u64 (hi u.al)) := Xdue.cell 1
    have ydue2 : w22.cell? ⟨w14.heap.size, 2, none⟩ = some (.int .u64 (lo u.no)) := Xdue.cell 2
    have ydue3 : w22.cell? ⟨w14.heap.size, 3, none⟩ = some (.int .u64 (hi u.no)) := Xdue.cell 3
    have ldue := Xdue.lt
    have yr0 : w22.cell? ⟨w21.heap.size, 0, none⟩ = some (.int .u64 (lo r.al)) := Xr.cell 0
    have yr1 : w22.cell? ⟨w21.heap.size, 1, none⟩ = some (.int .u64 (hi r.al)) := Xr.cell 1
    have yr2 : w22.cell? ⟨w21.heap.size, 2, none⟩ = some (.int .u64 (lo r.no)) := Xr.cell 2
    have yr3 : w22.cell? ⟨w21.heap.size, 3, none⟩ = some (.int .u64 (hi r.no)) := Xr.cell 3
    have lr := Xr.lt
    go_wp2_with fail
    refine intro_world (R := fun W => Calls _ _ _ W _) (fun W22 hN => ?_)
    have dW22 : Ext w22 W22 := by rw [hN]; exact (Ext.refl _)
    have eW22 := hw22.trans dW22
    replace Xf := Xf.ext dW22
    replace Xdue := Xdue.ext dW22
    replace Xr := Xr.ext dW22
    replace hRd := hRd.ext dW22
    replace hRm := hRm.ext dW22
    replace hRo := hRo.ext dW22
    clear hN
    clear ydue0 ydue1 ydue2 ydue3 ldue yr0 yr1 yr2 yr3 lr
    refine Calls.mono (c1 W22) ?_
    rintro e w23 ⟨rfl, hb23⟩
    have hw23 := eW22.trans hb23
    replace Xf := Xf.ext hb23
    replace Xdue := Xdue.ext hb23
    replace Xr := Xr.ext hb23
    replace hRd := hRd.ext hb23
    replace hRm := hRm.ext hb23
    replace hRo := hRo.ext hb23
    clear hb23 dW22 eW22
    have ydue0 : w23.cell? ⟨w14.heap.size, 0, none⟩ = some (.int .u64 (lo u.al)) := Xdue.cell 0
    have ydue1 : w23.cell? ⟨w14.heap.size, 1, none⟩ = some (.int .u64 (hi u.al)) := Xdue.cell 1
    have ydue2 : w23.cell? ⟨w14.heap.size, 2, none⟩ = some (.int .u64 (lo u.no)) := Xdue.cell 2
    have ydue3 : w23.cell? ⟨w14.heap.size, 3, none⟩ = some (.int .u64 (hi u.no)) := Xdue.cell 3
    have ldue := Xdue.lt
    have yr0 : w23.cell? ⟨w21.heap.size, 0, none⟩ = some (.int .u64 (lo r.al)) := Xr.cell 0
    have yr1 : w23.cell? ⟨w21.heap.size, 1, none⟩ = some (.int .u64 (hi r.al)) := Xr.cell 1
    have yr2 : w23.cell? ⟨w21.heap.size, 2, none⟩ = some (.int .u64 (lo r.no)) := Xr.cell 2
    have yr3 : w23.cell? ⟨w21.heap.size, 3, none⟩ = some (.int .u64 (hi r.no)) := Xr.cell 3
    have lr := Xr.lt
    go_wp2_with fail
    refine intro_world (R := fun W => Calls _ _ _ W _) (fun W23 hN => ?_)
    have dW23 : Ext w23 W23 := by rw [hN]; exact ((Ext.refl _).alloc _).alloc _
    have eW23 := hw23.trans dW23
    replace Xf := Xf.ext dW23
    replace Xdue := Xdue.ext dW23
    replace Xr := Xr.ext dW23
    replace hRd := hRd.ext dW23
    replace hRm := hRm.ext dW23
    replace hRo := hRo.ext dW23
    have Xboth : BoxAt W23 w23.heap.size #[.int .u64 0, .int .u64 0, .int .u64 0, .int .u64 0] 44 := by rw [hN]; exact (BoxAt.new' rfl).alloc _
    have Xqs : BoxAt W23 (w23.heap.size + 1) #[.int .u64 (lo u.al), .int .u64 (hi u.al), .int .u64 (lo u.no), .int .u64 (hi u.no), .int .u64 (lo r.al), .int .u64 (hi r.al), .int .u64 (lo r.no), .int .u64 (hi r.no)] 44 := by rw [hN]; exact (BoxAt.new' (by simp))
    clear hN
    clear ydue0 ydue1 ydue2 ydue3 ldue yr0 yr1 yr2 yr3 lr
    refine Calls.mono (c3 (some ⟨(w23.heap.size + 1), 0, none⟩) 2 W23 hRd (rd_two Xqs)) ?_
    rintro e w24 ⟨v24, rfl, hO24, hb24⟩
    obtain ⟨A24, cap24, rfl, hle24, hRy⟩ := hO24.slice
    have hw24 := eW23.trans hb24
    replace Xf := Xf.ext hb24
    replace Xdue := Xdue.ext hb24
    replace Xr := Xr.ext hb24
    replace Xboth := Xboth.ext hb24
    replace Xqs := Xqs.ext hb24
    replace hRd := hRd.ext hb24
    replace hRm := hRm.ext hb24
    replace hRo := hRo.ext hb24
    clear hb24 dW23 eW23 hO24
    clear Xqs
    clear Xdue
    clear c1 c3
    go_wp2
    have dE := (Ext.refl w24).alloc (.cells #[] 2)
    replace Xf := Xf.ext dE
    replace Xr := Xr.ext dE
    replace Xboth := Xboth.ext dE
    replace hRd := hRd.ext dE
    replace hRm := hRm.ext dE
    replace hRo := hRo.ext dE
    replace hRy := hRy.ext dE
    clear dE
    clear Xboth
    have hro2 := hro
    clear hqo hro
    go_loopg [33] dk.length (fun g iv wr => ∃ i : Nat, g = dk.length - i ∧ i ≤ dk.length ∧ iv = .int .i64 i ∧ Ext (w24.alloc (.cells #[] 2)) wr)
    case atStart => exact ⟨0, by omega, by omega, rfl, Ext.refl _⟩
    case round =>
      obtain ⟨i, hg, hil, rfl, hr⟩ := hrel
      have hwr := (hw24.alloc (.cells #[] 2)).trans hr
      replace Xf := Xf.ext hr
      replace Xr := Xr.ext hr
      replace hRd := hRd.ext hr
      replace hRm := hRm.ext hr
      replace hRo := hRo.ext hr
      replace hRy := hRy.ext hr
      by_cases hid : i < dk.length
      · obtain ⟨bD, oD, hAD, hltD, hrD⟩ := hRd i hid
        subst hAD
        clear hrD
        obtain ⟨n0, n1, n2, n3⟩ := hRd.crd i hid
        clear n0
        have hcm := hDk.masks _ (List.getElem_mem hid)
        have q2 : (i : Int) < dk.length := by omega
        have ha := hla i hid
        have hb := hlb i hid
        have hc := hlc i hid
        have hqd2 := hqd.out dk[i].m
        have hbd2 := hbd.out dk[i].m
        simp only [List.any_cons, List.any_nil, Bool.or_false] at ha hb hc
        generalize dk[i] = c at n1 n2 hcm ha hb hc hqd2 hbd2
        have ht : hasV [] (i : Int) = false := rfl
        have cd := fun W => impl_DecodeField f hf hin c.m hcm W
        have cr := fun W => impl_DropsCard r hro2 c.m hcm W
        generalize drpB u c.m = du at ha hc hqd2 hbd2
        generalize drpB r c.m = dr at hb hc cr hbd2
        generalize valueF f c.m = vv at cd hqd2
        obtain ⟨nv, cv⟩ := vv
        try dsimp only at cd
        have hA := fun W h => spec_A2HasQ la A18 cap18 (i : Int) W h (by omega)
        have hB := fun W h => spec_A2HasQ lb A22 cap22 (i : Int) W h (by omega)
        have hC := fun W h => spec_A2HasQ lc A24 cap24 (i : Int) W h (by omega)
        have hT := fun W h => spec_A2HasQ ([] : List Int) (some ⟨w24.heap.size, 0, none⟩) 0 (i : Int) W h (by simp)
        rw [ha] at hA
        rw [hb] at hB
        rw [hc] at hC
        rw [ht] at hT
        clear ha hb hc ht hla hlb hlc hdd hds hqd hbd
        have yf0 : wr.cell? ⟨w4.heap.size, 0, none⟩ = some (.string f.nm) := Xf.cell 0
        have yf1 : wr.cell? ⟨w4.heap.size, 1, none⟩ = some (.int .i8 f.kd) := Xf.cell 1
        have yf2 : wr.cell? ⟨w4.heap.size, 2, none⟩ = some (.int .i16 f.st) := Xf.cell 2
        have yf3 : wr.cell? ⟨w4.heap.size, 3, none⟩ = some (.int .i16 f.sz) := Xf.cell 3
        have lf := Xf.lt
        have yr0 : wr.cell? ⟨w21.heap.size, 0, none⟩ = some (.int .u64 (lo r.al)) := Xr.cell 0
        have yr1 : wr.cell? ⟨w21.heap.size, 1, none⟩ = some (.int .u64 (hi r.al)) := Xr.cell 1
        have yr2 : wr.cell? ⟨w21.heap.size, 2, none⟩ = some (.int .u64 (lo r.no)) := Xr.cell 2
        have yr3 : wr.cell? ⟨w21.heap.size, 3, none⟩ = some (.int .u64 (hi r.no)) := Xr.cell 3
        have lr := Xr.lt
        go_wp2
        refine wp_region_ext (by kernel_rfl) (by kernel_rfl) ?_
        repeat (first | go_big_quiet_step (((go_at_call 26; with_reducible exact Calls.ext_of (cd _)))) | quiet_step (((go_at_call 26; with_reducible exact Calls.ext_of (cd _)))))
        refine wpQuiet_nil ?_
        intro w71 hq71
        have hb71 := ext_of_class hq71
        clear hq71
        obtain ⟨hc71, hf71, hz71⟩ := bcell3 hb71
        try simp at hz71
        clear hc71 hf71 yf0 yf1 yf2 yf3 lf yr0 yr1 yr2 yr3 lr
        replace Xf := Xf.ext hb71
        replace Xr := Xr.ext hb71
        replace hRd := hRd.ext hb71
        replace hRm := hRm.ext hb71
        replace hRo := hRo.ext hb71
        replace hRy := hRy.ext hb71
        replace n1 := hb71.cell n1
        replace n2 := hb71.cell n2
        replace n3 := Nat.lt_of_lt_of_le n3 hb71.size
        have yr0 : w71.cell? ⟨w21.heap.size, 0, none⟩ = some (.int .u64 (lo r.al)) := Xr.cell 0
        have yr1 : w71.cell? ⟨w21.heap.size, 1, none⟩ = some (.int .u64 (hi r.al)) := Xr.cell 1
        have yr2 : w71.cell? ⟨w21.heap.size, 2, none⟩ = some (.int .u64 (lo r.no)) := Xr.cell 2
        have yr3 : w71.cell? ⟨w21.heap.size, 3, none⟩ = some (.int .u64 (hi r.no)) := Xr.cell 3
        have lr := Xr.lt
        go_wp2
        refine wp_region_ext (by kernel_rfl) (by kernel_rfl) ?_
        repeat (first | go_big_quiet_step (((go_at_call 27; with_reducible exact Calls.ext_of (cr _)))) | quiet_step (((go_at_call 27; with_reducible exact Calls.ext_of (cr _)))))
        refine wpQuiet_nil ?_
        intro w72 hq72
        have hb72 := ext_of_class hq72
        clear hq72
        obtain ⟨hc72, hf72, hz72⟩ := bcell3 hb72
        try simp at hz72
        clear hc72 hf72 n1 n2 n3 yr0 yr1 yr2 yr3 lr
        replace hRd := hRd.ext hb72
        replace hRm := hRm.ext hb72
        replace hRo := hRo.ext hb72
        replace hRy := hRy.ext hb72
        have hrel72 := (hr.trans hb71).trans hb72
        have hw72 := (hwr.trans hb71).trans hb72
        clear cd cr hb71 hb72 Xf Xr
        replace hr := hr
        cases du with
        | true =>
          have hqv := hqd2.1 rfl
          obtain ⟨rfl, rfl⟩ := Prod.mk.inj hqv
          clear hqv hqd2
          obtain rfl : dr = false := by simpa using hbd2
          go_wp2_with fail
          refine Calls.mono (hA _ hRm) ?_
          rintro e w73 ⟨rfl, hb73⟩
          have hrel73 := hrel72.trans hb73
          replace hRm := hRm.ext hb73
          replace hRo := hRo.ext hb73
          replace hRy := hRy.ext hb73
          go_wp2_with fail
          refine Calls.mono (hB _ hRo) ?_
          rintro e w74 ⟨rfl, hb74⟩
          have hrel74 := hrel73.trans hb74
          replace hRm := hRm.ext hb74
          replace hRo := hRo.ext hb74
          replace hRy := hRy.ext hb74
          go_wp2_with fail
          refine Calls.mono (hC _ hRy) ?_
          rintro e w75 ⟨rfl, hb75⟩
          have hrel75 := hrel74.trans hb75
          replace hRm := hRm.ext hb75
          replace hRo := hRo.ext hb75
          replace hRy := hRy.ext hb75
          go_wp2_with fail
          refine Calls.mono (hA _ hRm) ?_
          rintro e w76 ⟨rfl, hb76⟩
          have hrel76 := hrel75.trans hb76
          replace hRm := hRm.ext hb76
          replace hRo := hRo.ext hb76
          replace hRy := hRy.ext hb76
          go_wp2_with fail
          refine Calls.mono (hT _ (Rd.nil _ _ _)) ?_
          rintro e w77 ⟨rfl, hb77⟩
          have hrel77 := hrel76.trans hb77
          replace hRm := hRm.ext hb77
          replace hRo := hRo.ext hb77
          replace hRy := hRy.ext hb77
          go_wp2_with fail
          refine Calls.mono (hA _ hRm) ?_
          rintro e w78 ⟨rfl, hb78⟩
          have hrel78 := hrel77.trans hb78
          replace hRm := hRm.ext hb78
          replace hRo := hRo.ext hb78
          replace hRy := hRy.ext hb78
          go_wp2
          go_roundg (dk.length - (i + 1))
          case rel => exact ⟨i + 1, rfl, hid, by first | rfl | simp, hrel78⟩
          case measure => omega
        | false =>
          by_cases hcv : cv = 0
          · subst hcv
            have hnv : (nv == v) = false := beq_eq_false_iff_ne.2 (fun e => by have := hqd2.2 (by rw [e]); cases this)
            clear hqd2
            cases dr with
            | false =>
              go_wp2_with fail
              refine Calls.mono (hA _ hRm) ?_
              rintro e w73 ⟨rfl, hb73⟩
              have hrel73 := hrel72.trans hb73
              replace hRm := hRm.ext hb73
              replace hRo := hRo.ext hb73
              replace hRy := hRy.ext hb73
              go_wp2_with fail
              refine Calls.mono (hB _ hRo) ?_
              rintro e w74 ⟨rfl, hb74⟩
              have hrel74 := hrel73.trans hb74
              replace hRm := hRm.ext hb74
              replace hRo := hRo.ext hb74
              replace hRy := hRy.ext hb74
              go_wp2_with fail
              refine Calls.mono (hC _ hRy) ?_
              rintro e w75 ⟨rfl, hb75⟩
              have hrel75 := hrel74.trans hb75
              replace hRm := hRm.ext hb75
              replace hRo := hRo.ext hb75
              replace hRy := hRy.ext hb75
              go_wp2_with fail
              refine Calls.mono (hA _ hRm) ?_
              rintro e w76 ⟨rfl, hb76⟩
              have hrel76 := hrel75.trans hb76
              replace hRm := hRm.ext hb76
              replace hRo := hRo.ext hb76
              replace hRy := hRy.ext hb76
              go_wp2_with fail
              refine Calls.mono (hT _ (Rd.nil _ _ _)) ?_
              rintro e w77 ⟨rfl, hb77⟩
              have hrel77 := hrel76.trans hb77
              replace hRm := hRm.ext hb77
              replace hRo := hRo.ext hb77
              replace hRy := hRy.ext hb77
              go_wp2_with fail
              refine Calls.mono (hA _ hRm) ?_
              rintro e w78 ⟨rfl, hb78⟩
              have hrel78 := hrel77.trans hb78
              replace hRm := hRm.ext hb78
              replace hRo := hRo.ext hb78
              replace hRy := hRy.ext hb78
              go_wp2
              go_roundg (dk.length - (i + 1))
              case rel => exact ⟨i + 1, rfl, hid, by first | rfl | simp, hrel78⟩
              case measure => omega
            | true =>
              go_wp2_with fail
              refine Calls.mono (hA _ hRm) ?_
              rintro e w73 ⟨rfl, hb73⟩
              have hrel73 := hrel72.trans hb73
              replace hRm := hRm.ext hb73
              replace hRo := hRo.ext hb73
              replace hRy := hRy.ext hb73
              go_wp2_with fail
              refine Calls.mono (hB _ hRo) ?_
              rintro e w74 ⟨rfl, hb74⟩
              have hrel74 := hrel73.trans hb74
              replace hRm := hRm.ext hb74
              replace hRo := hRo.ext hb74
              replace hRy := hRy.ext hb74
              go_wp2_with fail
              refine Calls.mono (hC _ hRy) ?_
              rintro e w75 ⟨rfl, hb75⟩
              have hrel75 := hrel74.trans hb75
              replace hRm := hRm.ext hb75
              replace hRo := hRo.ext hb75
              replace hRy := hRy.ext hb75
              go_wp2_with fail
              refine Calls.mono (hA _ hRm) ?_
              rintro e w76 ⟨rfl, hb76⟩
              have hrel76 := hrel75.trans hb76
              replace hRm := hRm.ext hb76
              replace hRo := hRo.ext hb76
              replace hRy := hRy.ext hb76
              go_wp2_with fail
              refine Calls.mono (hT _ (Rd.nil _ _ _)) ?_
              rintro e w77 ⟨rfl, hb77⟩
              have hrel77 := hrel76.trans hb77
              replace hRm := hRm.ext hb77
              replace hRo := hRo.ext hb77
              replace hRy := hRy.ext hb77
              go_wp2_with fail
              refine Calls.mono (hA _ hRm) ?_
              rintro e w78 ⟨rfl, hb78⟩
              have hrel78 := hrel77.trans hb78
              replace hRm := hRm.ext hb78
              replace hRo := hRo.ext hb78
              replace hRy := hRy.ext hb78
              go_wp2
              go_roundg (dk.length - (i + 1))
              case rel => exact ⟨i + 1, rfl, hid, by first | rfl | simp, hrel78⟩
              case measure => omega
          · have hcv2 : (cv == 0) = false := beq_eq_false_iff_ne.2 hcv
            clear hcv hqd2
            cases dr with
            | false =>
              go_wp2_with fail
              refine Calls.mono (hA _ hRm) ?_
              rintro e w73 ⟨rfl, hb73⟩
              have hrel73 := hrel72.trans hb73
              replace hRm := hRm.ext hb73
              replace hRo := hRo.ext hb73
              replace hRy := hRy.ext hb73
              go_wp2_with fail
              refine Calls.mono (hB _ hRo) ?_
              rintro e w74 ⟨rfl, hb74⟩
              have hrel74 := hrel73.trans hb74
              replace hRm := hRm.ext hb74
              replace hRo := hRo.ext hb74
              replace hRy := hRy.ext hb74
              go_wp2_with fail
              refine Calls.mono (hC _ hRy) ?_
              rintro e w75 ⟨rfl, hb75⟩
              have hrel75 := hrel74.trans hb75
              replace hRm := hRm.ext hb75
              replace hRo := hRo.ext hb75
              replace hRy := hRy.ext hb75
              go_wp2_with fail
              refine Calls.mono (hA _ hRm) ?_
              rintro e w76 ⟨rfl, hb76⟩
              have hrel76 := hrel75.trans hb76
              replace hRm := hRm.ext hb76
              replace hRo := hRo.ext hb76
              replace hRy := hRy.ext hb76
              go_wp2_with fail
              refine Calls.mono (hT _ (Rd.nil _ _ _)) ?_
              rintro e w77 ⟨rfl, hb77⟩
              have hrel77 := hrel76.trans hb77
              replace hRm := hRm.ext hb77
              replace hRo := hRo.ext hb77
              replace hRy := hRy.ext hb77
              go_wp2_with fail
              refine Calls.mono (hA _ hRm) ?_
              rintro e w78 ⟨rfl, hb78⟩
              have hrel78 := hrel77.trans hb78
              replace hRm := hRm.ext hb78
              replace hRo := hRo.ext hb78
              replace hRy := hRy.ext hb78
              go_wp2
              go_roundg (dk.length - (i + 1))
              case rel => exact ⟨i + 1, rfl, hid, by first | rfl | simp, hrel78⟩
              case measure => omega
            | true =>
              go_wp2_with fail
              refine Calls.mono (hA _ hRm) ?_
              rintro e w73 ⟨rfl, hb73⟩
              have hrel73 := hrel72.trans hb73
              replace hRm := hRm.ext hb73
              replace hRo := hRo.ext hb73
              replace hRy := hRy.ext hb73
              go_wp2_with fail
              refine Calls.mono (hB _ hRo) ?_
              rintro e w74 ⟨rfl, hb74⟩
              have hrel74 := hrel73.trans hb74
              replace hRm := hRm.ext hb74
              replace hRo := hRo.ext hb74
              replace hRy := hRy.ext hb74
              go_wp2_with fail
              refine Calls.mono (hC _ hRy) ?_
              rintro e w75 ⟨rfl, hb75⟩
              have hrel75 := hrel74.trans hb75
              replace hRm := hRm.ext hb75
              replace hRo := hRo.ext hb75
              replace hRy := hRy.ext hb75
              go_wp2_with fail
              refine Calls.mono (hA _ hRm) ?_
              rintro e w76 ⟨rfl, hb76⟩
              have hrel76 := hrel75.trans hb76
              replace hRm := hRm.ext hb76
              replace hRo := hRo.ext hb76
              replace hRy := hRy.ext hb76
              go_wp2_with fail
              refine Calls.mono (hT _ (Rd.nil _ _ _)) ?_
              rintro e w77 ⟨rfl, hb77⟩
              have hrel77 := hrel76.trans hb77
              replace hRm := hRm.ext hb77
              replace hRo := hRo.ext hb77
              replace hRy := hRy.ext hb77
              go_wp2_with fail
              refine Calls.mono (hA _ hRm) ?_
              rintro e w78 ⟨rfl, hb78⟩
              have hrel78 := hrel77.trans hb78
              replace hRm := hRm.ext hb78
              replace hRo := hRo.ext hb78
              replace hRy := hRy.ext hb78
              go_wp2
              go_roundg (dk.length - (i + 1))
              case rel => exact ⟨i + 1, rfl, hid, by first | rfl | simp, hrel78⟩
              case measure => omega
      · obtain rfl : i = dk.length := by omega
        go_wp2
        go_ret
        exact ⟨rfl, hwr⟩
  | true =>
    have c1 := fun W => impl_BothQueries_ok u r hqo hro hbo W
    have hbd := hd (qryBoth_drops u r)
    have hlm := ans_list dk [qryBoth u r]
    have hl4 := ansL_len dk [qryBoth u r]
    have c2 := fun W h => impl_AnswerOf dk D dcap (qryBoth u r) hbo hdd W h hled (by omega) hds
    generalize ansL dk [qryBoth u r] = lm at hlm hl4 c2
    generalize qryBoth u r = z at c1 c2 hbd hlm
    clear hbo
    have ydue0 : w22.cell? ⟨w14.heap.size, 0, none⟩ = some (.int .u64 (lo u.al)) := Xdue.cell 0
    have ydue1 : w22.cell? ⟨w14.heap.size, 1, none⟩ = some (.int .u64 (hi u.al)) := Xdue.cell 1
    have ydue2 : w22.cell? ⟨w14.heap.size, 2, none⟩ = some (.int .u64 (lo u.no)) := Xdue.cell 2
    have ydue3 : w22.cell? ⟨w14.heap.size, 3, none⟩ = some (.int .u64 (hi u.no)) := Xdue.cell 3
    have ldue := Xdue.lt
    have yr0 : w22.cell? ⟨w21.heap.size, 0, none⟩ = some (.int .u64 (lo r.al)) := Xr.cell 0
    have yr1 : w22.cell? ⟨w21.heap.size, 1, none⟩ = some (.int .u64 (hi r.al)) := Xr.cell 1
    have yr2 : w22.cell? ⟨w21.heap.size, 2, none⟩ = some (.int .u64 (lo r.no)) := Xr.cell 2
    have yr3 : w22.cell? ⟨w21.heap.size, 3, none⟩ = some (.int .u64 (hi r.no)) := Xr.cell 3
    have lr := Xr.lt
    go_wp2_with fail
    refine intro_world (R := fun W => Calls _ _ _ W _) (fun W22 hN => ?_)
    have dW22 : Ext w22 W22 := by rw [hN]; exact (Ext.refl _)
    have eW22 := hw22.trans dW22
    replace Xf := Xf.ext dW22
    replace Xdue := Xdue.ext dW22
    replace Xr := Xr.ext dW22
    replace hRd := hRd.ext dW22
    replace hRm := hRm.ext dW22
    replace hRo := hRo.ext dW22
    clear hN
    clear ydue0 ydue1 ydue2 ydue3 ldue yr0 yr1 yr2 yr3 lr
    refine Calls.mono (c1 W22) ?_
    rintro e w23 ⟨rfl, hb23⟩
    have hw23 := eW22.trans hb23
    replace Xf := Xf.ext hb23
    replace Xdue := Xdue.ext hb23
    replace Xr := Xr.ext hb23
    replace hRd := hRd.ext hb23
    replace hRm := hRm.ext hb23
    replace hRo := hRo.ext hb23
    clear hb23 dW22 eW22
    have ydue0 : w23.cell? ⟨w14.heap.size, 0, none⟩ = some (.int .u64 (lo u.al)) := Xdue.cell 0
    have ydue1 : w23.cell? ⟨w14.heap.size, 1, none⟩ = some (.int .u64 (hi u.al)) := Xdue.cell 1
    have ydue2 : w23.cell? ⟨w14.heap.size, 2, none⟩ = some (.int .u64 (lo u.no)) := Xdue.cell 2
    have ydue3 : w23.cell? ⟨w14.heap.size, 3, none⟩ = some (.int .u64 (hi u.no)) := Xdue.cell 3
    have ldue := Xdue.lt
    have yr0 : w23.cell? ⟨w21.heap.size, 0, none⟩ = some (.int .u64 (lo r.al)) := Xr.cell 0
    have yr1 : w23.cell? ⟨w21.heap.size, 1, none⟩ = some (.int .u64 (hi r.al)) := Xr.cell 1
    have yr2 : w23.cell? ⟨w21.heap.size, 2, none⟩ = some (.int .u64 (lo r.no)) := Xr.cell 2
    have yr3 : w23.cell? ⟨w21.heap.size, 3, none⟩ = some (.int .u64 (hi r.no)) := Xr.cell 3
    have lr := Xr.lt
    go_wp2_with fail
    refine intro_world (R := fun W => Calls _ _ _ W _) (fun W23 hN => ?_)
    have dW23 : Ext w23 W23 := by rw [hN]; exact ((Ext.refl _).alloc _).alloc _
    have eW23 := hw23.trans dW23
    replace Xf := Xf.ext dW23
    replace Xdue := Xdue.ext dW23
    replace Xr := Xr.ext dW23
    replace hRd := hRd.ext dW23
    replace hRm := hRm.ext dW23
    replace hRo := hRo.ext dW23
    have Xboth : BoxAt W23 w23.heap.size #[.int .u64 (lo z.al), .int .u64 (hi z.al), .int .u64 (lo z.no), .int .u64 (hi z.no)] 44 := by rw [hN]; exact (BoxAt.new' rfl).alloc _
    have Xqs : BoxAt W23 (w23.heap.size + 1) #[.int .u64 (lo u.al), .int .u64 (hi u.al), .int .u64 (lo u.no), .int .u64 (hi u.no), .int .u64 (lo r.al), .int .u64 (hi r.al), .int .u64 (lo r.no), .int .u64 (hi r.no)] 44 := by rw [hN]; exact (BoxAt.new' (by simp))
    clear hN
    clear ydue0 ydue1 ydue2 ydue3 ldue yr0 yr1 yr2 yr3 lr
    refine Calls.mono (c3 (some ⟨(w23.heap.size + 1), 0, none⟩) 2 W23 hRd (rd_two Xqs)) ?_
    rintro e w24 ⟨v24, rfl, hO24, hb24⟩
    obtain ⟨A24, cap24, rfl, hle24, hRy⟩ := hO24.slice
    have hw24 := eW23.trans hb24
    replace Xf := Xf.ext hb24
    replace Xdue := Xdue.ext hb24
    replace Xr := Xr.ext hb24
    replace Xboth := Xboth.ext hb24
    replace Xqs := Xqs.ext hb24
    replace hRd := hRd.ext hb24
    replace hRm := hRm.ext hb24
    replace hRo := hRo.ext hb24
    clear hb24 dW23 eW23 hO24
    clear Xqs
    clear Xdue
    clear c1 c3
    have yboth0 : w24.cell? ⟨w23.heap.size, 0, none⟩ = some (.int .u64 (lo z.al)) := Xboth.cell 0
    have yboth1 : w24.cell? ⟨w23.heap.size, 1, none⟩ = some (.int .u64 (hi z.al)) := Xboth.cell 1
    have yboth2 : w24.cell? ⟨w23.heap.size, 2, none⟩ = some (.int .u64 (lo z.no)) := Xboth.cell 2
    have yboth3 : w24.cell? ⟨w23.heap.size, 3, none⟩ = some (.int .u64 (hi z.no)) := Xboth.cell 3
    have lboth := Xboth.lt
    go_wp2_with fail
    refine intro_world (R := fun W => Calls _ _ _ W _) (fun W24 hN => ?_)
    have dW24 : Ext w24 W24 := by rw [hN]; exact (Ext.refl _).alloc _
    have eW24 := hw24.trans dW24
    replace Xf := Xf.ext dW24
    replace Xr := Xr.ext dW24
    replace Xboth := Xboth.ext dW24
    replace hRd := hRd.ext dW24
    replace hRm := hRm.ext dW24
    replace hRo := hRo.ext dW24
    replace hRy := hRy.ext dW24
    have Xmt : BoxAt W24 w24.heap.size #[] 2 := by rw [hN]; exact (BoxAt.new' rfl)
    clear hN
    clear yboth0 yboth1 yboth2 yboth3 lboth
    refine Calls.mono (c2 W24 hRd) ?_
    rintro e w25 ⟨v25, rfl, hO25, hb25⟩
    obtain ⟨A25, cap25, rfl, hle25, hRt⟩ := hO25.slice
    have hw25 := eW24.trans hb25
    replace Xf := Xf.ext hb25
    replace Xr := Xr.ext hb25
    replace Xboth := Xboth.ext hb25
    replace Xmt := Xmt.ext hb25
    replace hRd := hRd.ext hb25
    replace hRm := hRm.ext hb25
    replace hRo := hRo.ext hb25
    replace hRy := hRy.ext hb25
    clear hb25 dW24 eW24 hO25
    clear c2
    clear Xboth
    clear Xmt
    go_wp2
    have hro2 := hro
    clear hqo hro
    go_loopg [33] dk.length (fun g iv wr => ∃ i : Nat, g = dk.length - i ∧ i ≤ dk.length ∧ iv = .int .i64 i ∧ Ext w25 wr)
    case atStart => exact ⟨0, by omega, by omega, rfl, Ext.refl _⟩
    case round =>
      obtain ⟨i, hg, hil, rfl, hr⟩ := hrel
      have hwr := hw25.trans hr
      replace Xf := Xf.ext hr
      replace Xr := Xr.ext hr
      replace hRd := hRd.ext hr
      replace hRm := hRm.ext hr
      replace hRo := hRo.ext hr
      replace hRy := hRy.ext hr
      replace hRt := hRt.ext hr
      by_cases hid : i < dk.length
      · obtain ⟨bD, oD, hAD, hltD, hrD⟩ := hRd i hid
        subst hAD
        clear hrD
        obtain ⟨n0, n1, n2, n3⟩ := hRd.crd i hid
        clear n0
        have hcm := hDk.masks _ (List.getElem_mem hid)
        have q2 : (i : Int) < dk.length := by omega
        have ha := hla i hid
        have hb := hlb i hid
        have hc := hlc i hid
        have hqd2 := hqd.out dk[i].m
        have ht := hlm i hid
        have hbd2 := hbd.out dk[i].m
        simp only [List.any_cons, List.any_nil, Bool.or_false] at ha hb hc ht
        generalize dk[i] = c at n1 n2 hcm ha hb hc hqd2 hbd2 ht
        rw [hbd2] at ht
        have cd := fun W => impl_DecodeField f hf hin c.m hcm W
        have cr := fun W => impl_DropsCard r hro2 c.m hcm W
        generalize drpB u c.m = du at ha hc hqd2 ht hbd2
        generalize drpB r c.m = dr at hb hc cr ht hbd2
        generalize valueF f c.m = vv at cd hqd2
        obtain ⟨nv, cv⟩ := vv
        try dsimp only at cd
        have hA := fun W h => spec_A2HasQ la A18 cap18 (i : Int) W h (by omega)
        have hB := fun W h => spec_A2HasQ lb A22 cap22 (i : Int) W h (by omega)
        have hC := fun W h => spec_A2HasQ lc A24 cap24 (i : Int) W h (by omega)
        have hT := fun W h => spec_A2HasQ (lm : List Int) A25 cap25 (i : Int) W h (by omega)
        rw [ha] at hA
        rw [hb] at hB
        rw [hc] at hC
        rw [ht] at hT
        clear ha hb hc ht hbd2 hla hlb hlc hlm hdd hds hqd hbd
        have yf0 : wr.cell? ⟨w4.heap.size, 0, none⟩ = some (.string f.nm) := Xf.cell 0
        have yf1 : wr.cell? ⟨w4.heap.size, 1, none⟩ = some (.int .i8 f.kd) := Xf.cell 1
        have yf2 : wr.cell? ⟨w4.heap.size, 2, none⟩ = some (.int .i16 f.st) := Xf.cell 2
        have yf3 : wr.cell? ⟨w4.heap.size, 3, none⟩ = some (.int .i16 f.sz) := Xf.cell 3
        have lf := Xf.lt
        have yr0 : wr.cell? ⟨w21.heap.size, 0, none⟩ = some (.int .u64 (lo r.al)) := Xr.cell 0
        have yr1 : wr.cell? ⟨w21.heap.size, 1, none⟩ = some (.int .u64 (hi r.al)) := Xr.cell 1
        have yr2 : wr.cell? ⟨w21.heap.size, 2, none⟩ = some (.int .u64 (lo r.no)) := Xr.cell 2
        have yr3 : wr.cell? ⟨w21.heap.size, 3, none⟩ = some (.int .u64 (hi r.no)) := Xr.cell 3
        have lr := Xr.lt
        go_wp2
        refine wp_region_ext (by kernel_rfl) (by kernel_rfl) ?_
        repeat (first | go_big_quiet_step (((go_at_call 26; with_reducible exact Calls.ext_of (cd _)))) | quiet_step (((go_at_call 26; with_reducible exact Calls.ext_of (cd _)))))
        refine wpQuiet_nil ?_
        intro w71 hq71
        have hb71 := ext_of_class hq71
        clear hq71
        obtain ⟨hc71, hf71, hz71⟩ := bcell3 hb71
        try simp at hz71
        clear hc71 hf71 yf0 yf1 yf2 yf3 lf yr0 yr1 yr2 yr3 lr
        replace Xf := Xf.ext hb71
        replace Xr := Xr.ext hb71
        replace hRd := hRd.ext hb71
        replace hRm := hRm.ext hb71
        replace hRo := hRo.ext hb71
        replace hRy := hRy.ext hb71
        replace hRt := hRt.ext hb71
        replace n1 := hb71.cell n1
        replace n2 := hb71.cell n2
        replace n3 := Nat.lt_of_lt_of_le n3 hb71.size
        have yr0 : w71.cell? ⟨w21.heap.size, 0, none⟩ = some (.int .u64 (lo r.al)) := Xr.cell 0
        have yr1 : w71.cell? ⟨w21.heap.size, 1, none⟩ = some (.int .u64 (hi r.al)) := Xr.cell 1
        have yr2 : w71.cell? ⟨w21.heap.size, 2, none⟩ = some (.int .u64 (lo r.no)) := Xr.cell 2
        have yr3 : w71.cell? ⟨w21.heap.size, 3, none⟩ = some (.int .u64 (hi r.no)) := Xr.cell 3
        have lr := Xr.lt
        go_wp2
        refine wp_region_ext (by kernel_rfl) (by kernel_rfl) ?_
        repeat (first | go_big_quiet_step (((go_at_call 27; with_reducible exact Calls.ext_of (cr _)))) | quiet_step (((go_at_call 27; with_reducible exact Calls.ext_of (cr _)))))
        refine wpQuiet_nil ?_
        intro w72 hq72
        have hb72 := ext_of_class hq72
        clear hq72
        obtain ⟨hc72, hf72, hz72⟩ := bcell3 hb72
        try simp at hz72
        clear hc72 hf72 n1 n2 n3 yr0 yr1 yr2 yr3 lr
        replace hRd := hRd.ext hb72
        replace hRm := hRm.ext hb72
        replace hRo := hRo.ext hb72
        replace hRy := hRy.ext hb72
        replace hRt := hRt.ext hb72
        have hrel72 := (hr.trans hb71).trans hb72
        have hw72 := (hwr.trans hb71).trans hb72
        clear cd cr hb71 hb72 Xf Xr
        replace hr := hr
        cases du with
        | true =>
          have hqv := hqd2.1 rfl
          obtain ⟨rfl, rfl⟩ := Prod.mk.inj hqv
          clear hqv hqd2
          cases dr with
          | false =>
            go_wp2_with fail
            refine Calls.mono (hA _ hRm) ?_
            rintro e w73 ⟨rfl, hb73⟩
            have hrel73 := hrel72.trans hb73
            replace hRm := hRm.ext hb73
            replace hRo := hRo.ext hb73
            replace hRy := hRy.ext hb73
            replace hRt := hRt.ext hb73
            go_wp2_with fail
            refine Calls.mono (hB _ hRo) ?_
            rintro e w74 ⟨rfl, hb74⟩
            have hrel74 := hrel73.trans hb74
            replace hRm := hRm.ext hb74
            replace hRo := hRo.ext hb74
            replace hRy := hRy.ext hb74
            replace hRt := hRt.ext hb74
            go_wp2_with fail
            refine Calls.mono (hC _ hRy) ?_
            rintro e w75 ⟨rfl, hb75⟩
            have hrel75 := hrel74.trans hb75
            replace hRm := hRm.ext hb75
            replace hRo := hRo.ext hb75
            replace hRy := hRy.ext hb75
            replace hRt := hRt.ext hb75
            go_wp2_with fail
            refine Calls.mono (hA _ hRm) ?_
            rintro e w76 ⟨rfl, hb76⟩
            have hrel76 := hrel75.trans hb76
            replace hRm := hRm.ext hb76
            replace hRo := hRo.ext hb76
            replace hRy := hRy.ext hb76
            replace hRt := hRt.ext hb76
            go_wp2_with fail
            refine Calls.mono (hT _ hRt) ?_
            rintro e w77 ⟨rfl, hb77⟩
            have hrel77 := hrel76.trans hb77
            replace hRm := hRm.ext hb77
            replace hRo := hRo.ext hb77
            replace hRy := hRy.ext hb77
            replace hRt := hRt.ext hb77
            go_wp2_with fail
            refine Calls.mono (hA _ hRm) ?_
            rintro e w78 ⟨rfl, hb78⟩
            have hrel78 := hrel77.trans hb78
            replace hRm := hRm.ext hb78
            replace hRo := hRo.ext hb78
            replace hRy := hRy.ext hb78
            replace hRt := hRt.ext hb78
            go_wp2
            go_roundg (dk.length - (i + 1))
            case rel => exact ⟨i + 1, rfl, hid, by first | rfl | simp, hrel78⟩
            case measure => omega
          | true =>
            go_wp2_with fail
            refine Calls.mono (hA _ hRm) ?_
            rintro e w73 ⟨rfl, hb73⟩
            have hrel73 := hrel72.trans hb73
            replace hRm := hRm.ext hb73
            replace hRo := hRo.ext hb73
            replace hRy := hRy.ext hb73
            replace hRt := hRt.ext hb73
            go_wp2_with fail
            refine Calls.mono (hB _ hRo) ?_
            rintro e w74 ⟨rfl, hb74⟩
            have hrel74 := hrel73.trans hb74
            replace hRm := hRm.ext hb74
            replace hRo := hRo.ext hb74
            replace hRy := hRy.ext hb74
            replace hRt := hRt.ext hb74
            go_wp2_with fail
            refine Calls.mono (hC _ hRy) ?_
            rintro e w75 ⟨rfl, hb75⟩
            have hrel75 := hrel74.trans hb75
            replace hRm := hRm.ext hb75
            replace hRo := hRo.ext hb75
            replace hRy := hRy.ext hb75
            replace hRt := hRt.ext hb75
            go_wp2_with fail
            refine Calls.mono (hA _ hRm) ?_
            rintro e w76 ⟨rfl, hb76⟩
            have hrel76 := hrel75.trans hb76
            replace hRm := hRm.ext hb76
            replace hRo := hRo.ext hb76
            replace hRy := hRy.ext hb76
            replace hRt := hRt.ext hb76
            go_wp2_with fail
            refine Calls.mono (hT _ hRt) ?_
            rintro e w77 ⟨rfl, hb77⟩
            have hrel77 := hrel76.trans hb77
            replace hRm := hRm.ext hb77
            replace hRo := hRo.ext hb77
            replace hRy := hRy.ext hb77
            replace hRt := hRt.ext hb77
            go_wp2_with fail
            refine Calls.mono (hA _ hRm) ?_
            rintro e w78 ⟨rfl, hb78⟩
            have hrel78 := hrel77.trans hb78
            replace hRm := hRm.ext hb78
            replace hRo := hRo.ext hb78
            replace hRy := hRy.ext hb78
            replace hRt := hRt.ext hb78
            go_wp2
            go_roundg (dk.length - (i + 1))
            case rel => exact ⟨i + 1, rfl, hid, by first | rfl | simp, hrel78⟩
            case measure => omega
        | false =>
          by_cases hcv : cv = 0
          · subst hcv
            have hnv : (nv == v) = false := beq_eq_false_iff_ne.2 (fun e => by have := hqd2.2 (by rw [e]); cases this)
            clear hqd2
            cases dr with
            | false =>
              go_wp2_with fail
              refine Calls.mono (hA _ hRm) ?_
              rintro e w73 ⟨rfl, hb73⟩
              have hrel73 := hrel72.trans hb73
              replace hRm := hRm.ext hb73
              replace hRo := hRo.ext hb73
              replace hRy := hRy.ext hb73
              replace hRt := hRt.ext hb73
              go_wp2_with fail
              refine Calls.mono (hB _ hRo) ?_
              rintro e w74 ⟨rfl, hb74⟩
              have hrel74 := hrel73.trans hb74
              replace hRm := hRm.ext hb74
              replace hRo := hRo.ext hb74
              replace hRy := hRy.ext hb74
              replace hRt := hRt.ext hb74
              go_wp2_with fail
              refine Calls.mono (hC _ hRy) ?_
              rintro e w75 ⟨rfl, hb75⟩
              have hrel75 := hrel74.trans hb75
              replace hRm := hRm.ext hb75
              replace hRo := hRo.ext hb75
              replace hRy := hRy.ext hb75
              replace hRt := hRt.ext hb75
              go_wp2_with fail
              refine Calls.mono (hA _ hRm) ?_
              rintro e w76 ⟨rfl, hb76⟩
              have hrel76 := hrel75.trans hb76
              replace hRm := hRm.ext hb76
              replace hRo := hRo.ext hb76
              replace hRy := hRy.ext hb76
              replace hRt := hRt.ext hb76
              go_wp2_with fail
              refine Calls.mono (hT _ hRt) ?_
              rintro e w77 ⟨rfl, hb77⟩
              have hrel77 := hrel76.trans hb77
              replace hRm := hRm.ext hb77
              replace hRo := hRo.ext hb77
              replace hRy := hRy.ext hb77
              replace hRt := hRt.ext hb77
              go_wp2_with fail
              refine Calls.mono (hA _ hRm) ?_
              rintro e w78 ⟨rfl, hb78⟩
              have hrel78 := hrel77.trans hb78
              replace hRm := hRm.ext hb78
              replace hRo := hRo.ext hb78
              replace hRy := hRy.ext hb78
              replace hRt := hRt.ext hb78
              go_wp2
              go_roundg (dk.length - (i + 1))
              case rel => exact ⟨i + 1, rfl, hid, by first | rfl | simp, hrel78⟩
              case measure => omega
            | true =>
              go_wp2_with fail
              refine Calls.mono (hA _ hRm) ?_
              rintro e w73 ⟨rfl, hb73⟩
              have hrel73 := hrel72.trans hb73
              replace hRm := hRm.ext hb73
              replace hRo := hRo.ext hb73
              replace hRy := hRy.ext hb73
              replace hRt := hRt.ext hb73
              go_wp2_with fail
              refine Calls.mono (hB _ hRo) ?_
              rintro e w74 ⟨rfl, hb74⟩
              have hrel74 := hrel73.trans hb74
              replace hRm := hRm.ext hb74
              replace hRo := hRo.ext hb74
              replace hRy := hRy.ext hb74
              replace hRt := hRt.ext hb74
              go_wp2_with fail
              refine Calls.mono (hC _ hRy) ?_
              rintro e w75 ⟨rfl, hb75⟩
              have hrel75 := hrel74.trans hb75
              replace hRm := hRm.ext hb75
              replace hRo := hRo.ext hb75
              replace hRy := hRy.ext hb75
              replace hRt := hRt.ext hb75
              go_wp2_with fail
              refine Calls.mono (hA _ hRm) ?_
              rintro e w76 ⟨rfl, hb76⟩
              have hrel76 := hrel75.trans hb76
              replace hRm := hRm.ext hb76
              replace hRo := hRo.ext hb76
              replace hRy := hRy.ext hb76
              replace hRt := hRt.ext hb76
              go_wp2_with fail
              refine Calls.mono (hT _ hRt) ?_
              rintro e w77 ⟨rfl, hb77⟩
              have hrel77 := hrel76.trans hb77
              replace hRm := hRm.ext hb77
              replace hRo := hRo.ext hb77
              replace hRy := hRy.ext hb77
              replace hRt := hRt.ext hb77
              go_wp2_with fail
              refine Calls.mono (hA _ hRm) ?_
              rintro e w78 ⟨rfl, hb78⟩
              have hrel78 := hrel77.trans hb78
              replace hRm := hRm.ext hb78
              replace hRo := hRo.ext hb78
              replace hRy := hRy.ext hb78
              replace hRt := hRt.ext hb78
              go_wp2
              go_roundg (dk.length - (i + 1))
              case rel => exact ⟨i + 1, rfl, hid, by first | rfl | simp, hrel78⟩
              case measure => omega
          · have hcv2 : (cv == 0) = false := beq_eq_false_iff_ne.2 hcv
            clear hcv hqd2
            cases dr with
            | false =>
              go_wp2_with fail
              refine Calls.mono (hA _ hRm) ?_
              rintro e w73 ⟨rfl, hb73⟩
              have hrel73 := hrel72.trans hb73
              replace hRm := hRm.ext hb73
              replace hRo := hRo.ext hb73
              replace hRy := hRy.ext hb73
              replace hRt := hRt.ext hb73
              go_wp2_with fail
              refine Calls.mono (hB _ hRo) ?_
              rintro e w74 ⟨rfl, hb74⟩
              have hrel74 := hrel73.trans hb74
              replace hRm := hRm.ext hb74
              replace hRo := hRo.ext hb74
              replace hRy := hRy.ext hb74
              replace hRt := hRt.ext hb74
              go_wp2_with fail
              refine Calls.mono (hC _ hRy) ?_
              rintro e w75 ⟨rfl, hb75⟩
              have hrel75 := hrel74.trans hb75
              replace hRm := hRm.ext hb75
              replace hRo := hRo.ext hb75
              replace hRy := hRy.ext hb75
              replace hRt := hRt.ext hb75
              go_wp2_with fail
              refine Calls.mono (hA _ hRm) ?_
              rintro e w76 ⟨rfl, hb76⟩
              have hrel76 := hrel75.trans hb76
              replace hRm := hRm.ext hb76
              replace hRo := hRo.ext hb76
              replace hRy := hRy.ext hb76
              replace hRt := hRt.ext hb76
              go_wp2_with fail
              refine Calls.mono (hT _ hRt) ?_
              rintro e w77 ⟨rfl, hb77⟩
              have hrel77 := hrel76.trans hb77
              replace hRm := hRm.ext hb77
              replace hRo := hRo.ext hb77
              replace hRy := hRy.ext hb77
              replace hRt := hRt.ext hb77
              go_wp2_with fail
              refine Calls.mono (hA _ hRm) ?_
              rintro e w78 ⟨rfl, hb78⟩
              have hrel78 := hrel77.trans hb78
              replace hRm := hRm.ext hb78
              replace hRo := hRo.ext hb78
              replace hRy := hRy.ext hb78
              replace hRt := hRt.ext hb78
              go_wp2
              go_roundg (dk.length - (i + 1))
              case rel => exact ⟨i + 1, rfl, hid, by first | rfl | simp, hrel78⟩
              case measure => omega
            | true =>
              go_wp2_with fail
              refine Calls.mono (hA _ hRm) ?_
              rintro e w73 ⟨rfl, hb73⟩
              have hrel73 := hrel72.trans hb73
              replace hRm := hRm.ext hb73
              replace hRo := hRo.ext hb73
              replace hRy := hRy.ext hb73
              replace hRt := hRt.ext hb73
              go_wp2_with fail
              refine Calls.mono (hB _ hRo) ?_
              rintro e w74 ⟨rfl, hb74⟩
              have hrel74 := hrel73.trans hb74
              replace hRm := hRm.ext hb74
              replace hRo := hRo.ext hb74
              replace hRy := hRy.ext hb74
              replace hRt := hRt.ext hb74
              go_wp2_with fail
              refine Calls.mono (hC _ hRy) ?_
              rintro e w75 ⟨rfl, hb75⟩
              have hrel75 := hrel74.trans hb75
              replace hRm := hRm.ext hb75
              replace hRo := hRo.ext hb75
              replace hRy := hRy.ext hb75
              replace hRt := hRt.ext hb75
              go_wp2_with fail
              refine Calls.mono (hA _ hRm) ?_
              rintro e w76 ⟨rfl, hb76⟩
              have hrel76 := hrel75.trans hb76
              replace hRm := hRm.ext hb76
              replace hRo := hRo.ext hb76
              replace hRy := hRy.ext hb76
              replace hRt := hRt.ext hb76
              go_wp2_with fail
              refine Calls.mono (hT _ hRt) ?_
              rintro e w77 ⟨rfl, hb77⟩
              have hrel77 := hrel76.trans hb77
              replace hRm := hRm.ext hb77
              replace hRo := hRo.ext hb77
              replace hRy := hRy.ext hb77
              replace hRt := hRt.ext hb77
              go_wp2_with fail
              refine Calls.mono (hA _ hRm) ?_
              rintro e w78 ⟨rfl, hb78⟩
              have hrel78 := hrel77.trans hb78
              replace hRm := hRm.ext hb78
              replace hRo := hRo.ext hb78
              replace hRy := hRy.ext hb78
              replace hRt := hRt.ext hb78
              go_wp2
              go_roundg (dk.length - (i + 1))
              case rel => exact ⟨i + 1, rfl, hid, by first | rfl | simp, hrel78⟩
              case measure => omega
      · obtain rfl : i = dk.length := by omega
        go_wp2
        go_ret
        exact ⟨rfl, hwr⟩
end Go.Proofs.YtciepjdacmjhlaaGreatDoor
