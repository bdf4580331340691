/-
  The walk of the law FnSorted.
-/
import Derived.Test.YtdlpifgkponnmaaDoorFSX
set_option linter.unusedVariables false
set_option linter.unusedSimpArgs false
set_option maxRecDepth 100000
namespace Go.Proofs.YtdlpifgkponnmaaDoor
open Go.RowKit
theorem rd_adr {α : Type} {e : Enc α} {w : World} {A : Option Addr} {xs : List α} (hS : Rd e w A xs) : (∃ b o p, A = some ⟨b, o, p⟩) ∨ (A = none ∧ xs = []) := by
  cases A with
  | some a => exact .inl ⟨a.block, a.off, a.spot, rfl⟩
  | none =>
    refine .inr ⟨rfl, ?_⟩
    cases xs with
    | nil => rfl
    | cons x xs =>
      obtain ⟨b, o, h, _⟩ := hS 0 (Nat.zero_lt_succ _)
      cases h
theorem Rd.dropN {α : Type} {e : Enc α} {w : World} {b off : Nat} {p} {xs : List α} (h : Rd e w (some ⟨b, off, p⟩) xs) (n : Nat) : Rd e w (some ⟨b, off + n * e.sz, p⟩) (xs.drop n) := fun k hk => by
  have hk2 : n + k < xs.length := by rw [List.length_drop] at hk; omega
  obtain ⟨b', off', hA, hlt, hc⟩ := h (n + k) hk2
  simp only [Option.some.injEq, Addr.mk.injEq] at hA
  obtain ⟨rfl, rfl, rfl⟩ := hA
  refine ⟨_, _, rfl, hlt, fun j u hu => ?_⟩
  rw [List.getElem_drop] at hu
  have := hc j u hu
  rw [show off + n * e.sz + k * e.sz + j = off + (n + k) * e.sz + j by rw [Nat.add_mul]; omega]
  exact this
theorem Rd.dropA {w : World} {b off : Nat} {p} {xs : List Crd} (h : Rd encCrd w (some ⟨b, off, p⟩) xs) (n : Nat) : Rd encCrd w (some (Addr.add ⟨b, off, p⟩ (n * 3))) (xs.drop n) := by
  unfold Addr.add
  by_cases hn : n * 3 = 0
  · rw [if_pos hn]
    have h0 : n = 0 := by omega
    subst h0
    rw [List.drop_zero]
    exact h
  · rw [if_neg hn]
    intro k hk
    obtain ⟨b', off', hA, rest⟩ := h.dropN n k hk
    simp only [Option.some.injEq, Addr.mk.injEq] at hA
    obtain ⟨rfl, rfl, rfl⟩ := hA
    exact ⟨_, _, rfl, rest⟩
theorem Rd.noneDrop {w : World} {xs : List Crd} (h : Rd encCrd w none xs) (n : Nat) : Rd encCrd w none (xs.drop n) := fun k hk => by
  rw [List.length_drop] at hk
  obtain ⟨b, o, hA, _⟩ := h k (by omega)
  cases hA
theorem any_nm {c : Crd} {ds : List Crd} (h : c ∈ ds) : (ds.any fun y : Crd => y.nm.toList == c.nm.toList) = true := List.any_eq_true.2 ⟨c, h, by simp⟩
set_option maxHeartbeats 40000000 in
theorem laws_FnSorted (cs ds : List UInt8) (A B : Option Addr) (cap cap' : Nat) (w : World) (hn : cs.length ≤ 9223372036854775807) (hR : Rd encU8 w A cs) (hm : ds.length ≤ 9223372036854775807) (hS : Rd encU8 w B ds) :
    Calls Tryd.prog 6 #[.slice A cs.length cap, .slice B ds.length cap'] w fun e w' => e = .returned (.bool true) ∧ Ext w w' := by
  have hx := @ExtOf.cell
  have b1 := fun W => laws_a2Long cs ds A B cap cap' W
  by_cases h1 : 3000 < cs.length ∨ 3000 < ds.length
  · rw [decide_eq_true h1] at b1
    go_enter Tryd.func6, Tryd.ntmps6
    go_wp2_with fail
    refine Calls.mono (b1 _) ?_
    rintro e w1 ⟨rfl, hb1⟩
    go_wp2
    go_ret
    exact ⟨rfl, hb1⟩
  rw [decide_eq_false h1] at b1
  go_enter Tryd.func6, Tryd.ntmps6
  go_wp2_with fail
  refine Calls.mono (b1 _) ?_
  rintro e w1 ⟨rfl, hb1⟩
  clear b1
  go_wp2_with fail
  refine Calls.mono (spec_A2Scheme cs A cap _ (hR.ext hb1) (by omega)) ?_
  rintro e w2 ⟨xs, v2, rfl, hO, hD, l1, l5, hb2⟩
  obtain ⟨C, cc, rfl, hle, hRx⟩ := hO.slice
  have hw2 := hb1.trans hb2
  clear hO hb1 hb2
  go_wp2_with fail
  refine Calls.mono (spec_A2Deck ds B cap' xs C cc _ (hS.ext hw2) (by omega) hRx l1 l5 hD) ?_
  rintro e w3 ⟨dk, v3, rfl, hO, hDk, hb3⟩
  obtain ⟨D, dcap, rfl, hled, hRd⟩ := hO.slice
  have hw3 := hw2.trans hb3
  replace hRx := hRx.ext hb3
  clear hO hb3 hw2
  go_wp2_with fail
  refine Calls.mono (laws_a2At ds B cap' 0 xs.length (by omega) (by omega) _ (hS.ext hw3)) ?_
  rintro e w4 ⟨q, rfl, q0, q1, hb4⟩
  have hw4 := hw3.trans hb4
  replace hRx := hRx.ext hb4
  replace hRd := hRd.ext hb4
  obtain ⟨q, rfl⟩ := Int.eq_ofNat_of_zero_le q0
  have hq : q < xs.length := by omega
  clear hb4 hw3 q0 q1 hle
  obtain ⟨bF, oF, hAF, hltF, hrF⟩ := hRx q hq
  subst hAF
  clear hrF hltF
  obtain ⟨m0, m1, m2, m3, mb⟩ := hRx.fld q hq
  have hfd := hD _ (List.getElem_mem hq)
  have q1 : (q : Int) < xs.length := by omega
  have hin := drawn_in hfd
  generalize xs[q] = f at m0 m1 m2 m3 hfd hin
  have hf := hfd.1
  have hdd := hDk.deck
  have hdl := hDk.len
  have hds := hDk.small
  obtain ⟨due, hsd, hpm, hud, hso, hul, hmem, hadj, hmd, hff⟩ := sorted_law hdd hf
  have hus : ∀ c ∈ due, CrdIn c := fun c hc => hds c (hmem c hc)
  have huk : ∀ c ∈ due, isMaskB c.m = true := fun c hc => hDk.masks c (hmem c hc)
  have hu8 : due.length ≤ 8 := by omega
  replace hul := hd hul
  replace hus := hd hus
  replace huk := hd huk
  replace hds := hd hds
  replace hadj := hd hadj
  replace hmd := hd hmd
  replace hff := hd hff
  replace hmem := hd hmem
  skip
  have c1 := fun W h => impl_SortDeck dk D dcap f W h hled (by omega) hds.out hin
  have c2 := fun W h => spec_SortDeck dk D dcap f W h (by omega) hds.out hin
  rw [hsd] at c1 c2
  try dsimp only at c1 c2
  have c3 := fun W => impl_HolesToSort f hf hin W
  have c4 := fun BB cb W h hS => impl_PassManyS dk D dcap f hf hdd BB cb W h hled (by omega) hds.out hS
  rw [hpm] at c4
  clear hsd hpm
  go_wp2_with fail
  refine intro_world (R := fun W => Calls _ _ _ W _) (fun W10 hN => ?_)
  have dW10 : Ext w4 W10 := by rw [hN]; exact (Ext.refl _).alloc _
  have eW10 := hw4.trans dW10
  replace hRx := hRx.ext dW10
  replace hRd := hRd.ext dW10
  have Xf : BoxAt W10 w4.heap.size #[.string f.nm, .int .i8 f.kd, .int .i16 f.st, .int .i16 f.sz] 33 := by rw [hN]; exact (BoxAt.new' rfl)
  clear hN
  refine Calls.mono (c1 W10 hRd) ?_
  rintro e w11 ⟨v11, rfl, hO11, hb11⟩
  obtain ⟨A11, cap11, rfl, hle11, hR1⟩ := hO11.slice
  have hw11 := eW10.trans hb11
  replace Xf := Xf.ext hb11
  replace hRx := hRx.ext hb11
  replace hRd := hRd.ext hb11
  clear hb11 dW10 eW10 hO11
  clear m0 m1 m2 m3 mb q1 c1
  have ul11 := hle11
  have yf0 : w11.cell? ⟨w4.heap.size, 0, none⟩ = some (.string f.nm) := Xf.cell 0
  have yf1 : w11.cell? ⟨w4.heap.size, 1, none⟩ = some (.int .i8 f.kd) := Xf.cell 1
  have yf2 : w11.cell? ⟨w4.heap.size, 2, none⟩ = some (.int .i16 f.st) := Xf.cell 2
  have yf3 : w11.cell? ⟨w4.heap.size, 3, none⟩ = some (.int .i16 f.sz) := Xf.cell 3
  have lf := Xf.lt
  go_wp2_with fail
  refine intro_world (R := fun W => Calls _ _ _ W _) (fun W11 hN => ?_)
  have dW11 : Ext w11 W11 := by rw [hN]; exact (Ext.refl _)
  have eW11 := hw11.trans dW11
  replace Xf := Xf.ext dW11
  replace hRx := hRx.ext dW11
  replace hRd := hRd.ext dW11
  replace hR1 := hR1.ext dW11
  clear hN
  clear yf0 yf1 yf2 yf3 lf
  refine Calls.mono (c2 W11 hRd) ?_
  rintro e w12 ⟨v12, rfl, hO12, hb12⟩
  obtain ⟨A12, cap12, rfl, hle12, hR2⟩ := hO12.slice
  have hw12 := eW11.trans hb12
  replace Xf := Xf.ext hb12
  replace hRx := hRx.ext hb12
  replace hRd := hRd.ext hb12
  replace hR1 := hR1.ext hb12
  clear hb12 dW11 eW11 hO12
  clear c2
  have yf0 : w12.cell? ⟨w4.heap.size, 0, none⟩ = some (.string f.nm) := Xf.cell 0
  have yf1 : w12.cell? ⟨w4.heap.size, 1, none⟩ = some (.int .i8 f.kd) := Xf.cell 1
  have yf2 : w12.cell? ⟨w4.heap.size, 2, none⟩ = some (.int .i16 f.st) := Xf.cell 2
  have yf3 : w12.cell? ⟨w4.heap.size, 3, none⟩ = some (.int .i16 f.sz) := Xf.cell 3
  have lf := Xf.lt
  go_wp2_with fail
  refine intro_world (R := fun W => Calls _ _ _ W _) (fun W12 hN => ?_)
  have dW12 : Ext w12 W12 := by rw [hN]; exact (Ext.refl _)
  have eW12 := hw12.trans dW12
  replace Xf := Xf.ext dW12
  replace hRx := hRx.ext dW12
  replace hRd := hRd.ext dW12
  replace hR1 := hR1.ext dW12
  replace hR2 := hR2.ext dW12
  clear hN
  clear yf0 yf1 yf2 yf3 lf
  refine Calls.mono (c3 W12) ?_
  rintro e w13 ⟨Ah, caph, rfl, hRh, hb13⟩
  have hw13 := eW12.trans hb13
  replace Xf := Xf.ext hb13
  replace hRx := hRx.ext hb13
  replace hRd := hRd.ext hb13
  replace hR1 := hR1.ext hb13
  replace hR2 := hR2.ext hb13
  clear hb13 dW12 eW12
  go_wp2_with fail
  refine intro_world (R := fun W => Calls _ _ _ W _) (fun W13 hN => ?_)
  have dW13 : Ext w13 W13 := by rw [hN]; exact (Ext.refl _)
  have eW13 := hw13.trans dW13
  replace Xf := Xf.ext dW13
  replace hRx := hRx.ext dW13
  replace hRd := hRd.ext dW13
  replace hR1 := hR1.ext dW13
  replace hR2 := hR2.ext dW13
  replace hRh := hRh.ext dW13
  clear hN
  refine Calls.mono (c4 Ah caph W13 hRd hRh) ?_
  rintro e w14 ⟨v14, rfl, hO14, hb14⟩
  obtain ⟨A14, cap14, rfl, hle14, hR3⟩ := hO14.slice
  have hw14 := eW13.trans hb14
  replace Xf := Xf.ext hb14
  replace hRx := hRx.ext hb14
  replace hRd := hRd.ext hb14
  replace hR1 := hR1.ext hb14
  replace hR2 := hR2.ext hb14
  replace hRh := hRh.ext hb14
  clear hb14 dW13 eW13 hO14
  clear hRh
  clear c3 c4
  have c5 := fun W h => impl_IsSortedS due A11 cap11 f hf hin hud W h hle11 (by omega) hus.out
  rw [hso] at c5
  have yf0 : w14.cell? ⟨w4.heap.size, 0, none⟩ = some (.string f.nm) := Xf.cell 0
  have yf1 : w14.cell? ⟨w4.heap.size, 1, none⟩ = some (.int .i8 f.kd) := Xf.cell 1
  have yf2 : w14.cell? ⟨w4.heap.size, 2, none⟩ = some (.int .i16 f.st) := Xf.cell 2
  have yf3 : w14.cell? ⟨w4.heap.size, 3, none⟩ = some (.int .i16 f.sz) := Xf.cell 3
  have lf := Xf.lt
  go_wp2_with fail
  refine intro_world (R := fun W => Calls _ _ _ W _) (fun W14 hN => ?_)
  have dW14 : Ext w14 W14 := by rw [hN]; exact (Ext.refl _)
  have eW14 := hw14.trans dW14
  replace Xf := Xf.ext dW14
  replace hRx := hRx.ext dW14
  replace hRd := hRd.ext dW14
  replace hR1 := hR1.ext dW14
  replace hR2 := hR2.ext dW14
  replace hR3 := hR3.ext dW14
  clear hN
  clear yf0 yf1 yf2 yf3 lf
  refine Calls.mono (c5 W14 hR1) ?_
  rintro e w15 ⟨rfl, hb15⟩
  have hw15 := eW14.trans hb15
  replace Xf := Xf.ext hb15
  replace hRx := hRx.ext hb15
  replace hRd := hRd.ext hb15
  replace hR1 := hR1.ext hb15
  replace hR2 := hR2.ext hb15
  replace hR3 := hR3.ext hb15
  clear hb15 dW14 eW14
  clear c5
  have c6 := fun W h1 h2 => spec_SameDeck due A11 A12 cap11 cap12 W h1 h2 (by omega)
  go_wp2_with fail
  refine intro_world (R := fun W => Calls _ _ _ W _) (fun W15 hN => ?_)
  have dW15 : Ext w15 W15 := by rw [hN]; exact (Ext.refl _)
  have eW15 := hw15.trans dW15
  replace Xf := Xf.ext dW15
  replace hRx := hRx.ext dW15
  replace hRd := hRd.ext dW15
  replace hR1 := hR1.ext dW15
  replace hR2 := hR2.ext dW15
  replace hR3 := hR3.ext dW15
  clear hN
  refine Calls.mono (c6 W15 hR1 hR2) ?_
  rintro e w16 ⟨rfl, hb16⟩
  have hw16 := eW15.trans hb16
  replace Xf := Xf.ext hb16
  replace hRx := hRx.ext hb16
  replace hRd := hRd.ext hb16
  replace hR1 := hR1.ext hb16
  replace hR2 := hR2.ext hb16
  replace hR3 := hR3.ext hb16
  clear hb16 dW15 eW15
  clear hR1
  clear c6
  have c7 := fun W h1 h2 => spec_SameDeck due A14 A12 cap14 cap12 W h1 h2 (by omega)
  go_wp2_with fail
  refine intro_world (R := fun W => Calls _ _ _ W _) (fun W16 hN => ?_)
  have dW16 : Ext w16 W16 := by rw [hN]; exact (Ext.refl _)
  have eW16 := hw16.trans dW16
  replace Xf := Xf.ext dW16
  replace hRx := hRx.ext dW16
  replace hRd := hRd.ext dW16
  replace hR2 := hR2.ext dW16
  replace hR3 := hR3.ext dW16
  clear hN
  refine Calls.mono (c7 W16 hR3 hR2) ?_
  rintro e w17 ⟨rfl, hb17⟩
  have hw17 := eW16.trans hb17
  replace Xf := Xf.ext hb17
  replace hRx := hRx.ext hb17
  replace hRd := hRd.ext hb17
  replace hR2 := hR2.ext hb17
  replace hR3 := hR3.ext hb17
  clear hb17 dW16 eW16
  clear hR3
  clear c7
  have ul : (due.length : Int) = dk.length := by have := hul.out; omega
  go_wp2
  clear ul
  go_loopg [18] (due.length + 1) (fun g iv wr => ∃ p : Nat, g = due.length + 1 - p ∧ p ≤ due.length ∧ iv = .int .i64 ((p + 1 : Nat) : Int) ∧ Ext w17 wr)
  case atStart => exact ⟨0, by omega, by omega, rfl, Ext.refl _⟩
  case round =>
    obtain ⟨p, hg, hpl, rfl, hr⟩ := hrel
    have hwr := hw17.trans hr
    replace Xf := Xf.ext hr
    replace hRx := hRx.ext hr
    replace hRd := hRd.ext hr
    replace hR2 := hR2.ext hr
    by_cases hpu : p + 1 < due.length
    · obtain ⟨bU, oU, hAU, hltU, hrU⟩ := hR2 (p + 1) hpu
      subst hAU
      clear hrU
      have hp0 : p < due.length := by omega
      obtain ⟨n0, n1, n2, n3⟩ := hR2.crd p hp0
      obtain ⟨s0, s1, s2, s3⟩ := hR2.crd (p + 1) hpu
      obtain ⟨ha1, ha2⟩ := hadj.out p hpu
      have ka := huk.out _ (List.getElem_mem hp0)
      have kb := huk.out _ (List.getElem_mem hpu)
      have ia := any_nm (hmem.out _ (List.getElem_mem hp0))
      have ib := any_nm (hmem.out _ (List.getElem_mem hpu))
      unfold kf at ha1 ha2
      unfold posF at ha2
      generalize due[p] = ca at n0 n1 n2 ha1 ha2 ka ia
      generalize due[p + 1] = cb at s0 s1 s2 ha1 ha2 kb ib
      have d1 := fun W => impl_KeyOf f hf hin ca.m ka W
      have d2 := fun W => impl_KeyOf f hf hin cb.m kb W
      have d3 := fun W h => impl_FindCard dk D dcap hdd ca.nm ia W h hled (by omega) hds.out
      have d4 := fun W h => impl_FindCard dk D dcap hdd cb.nm ib W h hled (by omega) hds.out
      generalize ((keyF f ca.m : Nat) : Int) = va at d1 ha1 ha2
      generalize ((keyF f cb.m : Nat) : Int) = vb at d2 ha1 ha2
      generalize fidx (fun y : Crd => y.nm.toList == ca.nm.toList) dk = za at d3 ha2
      generalize fidx (fun y : Crd => y.nm.toList == cb.nm.toList) dk = zb at d4 ha2
      have e1 : IntKind.i64.wrap (((p + 1 : Nat) : Int) - 1) = (p : Int) := (IntWalk.i64_in _ (by omega)).trans (by omega)
      have u1 : ((p + 1 : Nat) : Int) < due.length := by omega
      have u2 : (p : Int) < due.length := by omega
      clear ia ib ka kb
      have yf0 : wr.cell? ⟨w4.heap.size, 0, none⟩ = some (.string f.nm) := Xf.cell 0
      have yf1 : wr.cell? ⟨w4.heap.size, 1, none⟩ = some (.int .i8 f.kd) := Xf.cell 1
      have yf2 : wr.cell? ⟨w4.heap.size, 2, none⟩ = some (.int .i16 f.st) := Xf.cell 2
      have yf3 : wr.cell? ⟨w4.heap.size, 3, none⟩ = some (.int .i16 f.sz) := Xf.cell 3
      have lf := Xf.lt
      go_wp2
      refine wp_region_ext (by kernel_rfl) (by kernel_rfl) ?_
      repeat (first | go_big_quiet_step (((go_at_call 28; with_reducible exact Calls.ext_of (d1 _)))) | quiet_step (((go_at_call 28; with_reducible exact Calls.ext_of (d1 _)))))
      refine wpQuiet_nil ?_
      intro w71 hq71
      have hb71 := ext_of_class hq71
      clear hq71
      obtain ⟨hc71, hf71, hz71⟩ := bcell3 hb71
      try simp at hz71
      clear hc71 hf71 yf0 yf1 yf2 yf3 lf
      replace Xf := Xf.ext hb71
      replace hRx := hRx.ext hb71
      replace hRd := hRd.ext hb71
      replace hR2 := hR2.ext hb71
      replace n0 := hb71.cell n0
      replace n1 := hb71.cell n1
      replace n2 := hb71.cell n2
      replace s0 := hb71.cell s0
      replace s1 := hb71.cell s1
      replace s2 := hb71.cell s2
      replace n3 := Nat.lt_of_lt_of_le n3 hb71.size
      replace s3 := Nat.lt_of_lt_of_le s3 hb71.size
      have hw71 := hr.trans hb71
      clear hb71
      have yf0 : w71.cell? ⟨w4.heap.size, 0, none⟩ = some (.string f.nm) := Xf.cell 0
      have yf1 : w71.cell? ⟨w4.heap.size, 1, none⟩ = some (.int .i8 f.kd) := Xf.cell 1
      have yf2 : w71.cell? ⟨w4.heap.size, 2, none⟩ = some (.int .i16 f.st) := Xf.cell 2
      have yf3 : w71.cell? ⟨w4.heap.size, 3, none⟩ = some (.int .i16 f.sz) := Xf.cell 3
      have lf := Xf.lt
      go_wp2
      refine wp_region_ext (by kernel_rfl) (by kernel_rfl) ?_
      repeat (first | go_big_quiet_step (((go_at_call 28; with_reducible exact Calls.ext_of (d2 _)))) | quiet_step (((go_at_call 28; with_reducible exact Calls.ext_of (d2 _)))))
      refine wpQuiet_nil ?_
      intro w72 hq72
      have hb72 := ext_of_class hq72
      clear hq72
      obtain ⟨hc72, hf72, hz72⟩ := bcell3 hb72
      try simp at hz72
      clear hc72 hf72 yf0 yf1 yf2 yf3 lf
      replace Xf := Xf.ext hb72
      replace hRx := hRx.ext hb72
      replace hRd := hRd.ext hb72
      replace hR2 := hR2.ext hb72
      replace n0 := hb72.cell n0
      replace n1 := hb72.cell n1
      replace n2 := hb72.cell n2
      replace s0 := hb72.cell s0
      replace s1 := hb72.cell s1
      replace s2 := hb72.cell s2
      replace n3 := Nat.lt_of_lt_of_le n3 hb72.size
      replace s3 := Nat.lt_of_lt_of_le s3 hb72.size
      have hw72 := hw71.trans hb72
      clear hb72
      go_wp2_with fail
      refine Calls.mono (d3 _ hRd) ?_
      rintro e w73 ⟨rfl, hb73⟩
      have hw73 := hw72.trans hb73
      replace hRx := hRx.ext hb73
      replace hRd := hRd.ext hb73
      replace hR2 := hR2.ext hb73
      replace s0 := hb73.cell s0
      replace s1 := hb73.cell s1
      replace s2 := hb73.cell s2
      replace s3 := Nat.lt_of_lt_of_le s3 hb73.size
      clear hb73
      go_wp2_with fail
      refine Calls.mono (d4 _ hRd) ?_
      rintro e w74 ⟨rfl, hb74⟩
      have hw74 := hw73.trans hb74
      replace hRx := hRx.ext hb74
      replace hRd := hRd.ext hb74
      replace hR2 := hR2.ext hb74
      replace s0 := hb74.cell s0
      replace s1 := hb74.cell s1
      replace s2 := hb74.cell s2
      replace s3 := Nat.lt_of_lt_of_le s3 hb74.size
      clear hb74
      have e2 : IntKind.i64.wrap (((p + 1 : Nat) : Int) + 1) = ((p + 1 + 1 : Nat) : Int) := (IntWalk.i64_in _ (by omega)).trans (by omega)
      clear d1 d2 d3 d4 n0 n1 n2 n3 s0 s1 s2 s3 Xf
      by_cases hve : va = vb
      · subst hve
        have hz := ha2 rfl
        clear ha1 ha2
        go_wp2
        go_roundg (due.length + 1 - (p + 1))
        case rel => exact ⟨p + 1, rfl, by omega, by first | rfl | simp, hw74⟩
        case measure => omega
      · have hz : va < vb := by omega
        clear ha1 ha2 hve
        go_wp2
        go_roundg (due.length + 1 - (p + 1))
        case rel => exact ⟨p + 1, rfl, by omega, by first | rfl | simp, hw74⟩
        case measure => omega
    · have hpe : due.length ≤ p + 1 := by omega
      have e2 : IntKind.i64.wrap ((due.length : Int) + 1) = (due.length : Int) + 1 := IntWalk.i64_in _ (by omega)
      go_wp2_with fail
      refine intro_world (R := fun W => Calls _ _ _ W _) (fun W17 hN => ?_)
      have dW17 : Ext wr W17 := by rw [hN]; exact (Ext.refl _)
      have eW17 := hwr.trans dW17
      replace Xf := Xf.ext dW17
      replace hRx := hRx.ext dW17
      replace hRd := hRd.ext dW17
      replace hR2 := hR2.ext dW17
      clear hN
      refine Calls.mono (laws_a2At ds B cap' 1 ((due.length : Int) + 1) (by omega) (by omega) W17 (hS.ext eW17)) ?_
      rintro e w18 ⟨v, rfl, v0, v1, hb18⟩
      have hw18 := eW17.trans hb18
      replace Xf := Xf.ext hb18
      replace hRx := hRx.ext hb18
      replace hRd := hRd.ext hb18
      replace hR2 := hR2.ext hb18
      clear hb18 dW17 eW17
      obtain ⟨n, rfl⟩ := Int.eq_ofNat_of_zero_le v0
      have hnl : n ≤ due.length := by omega
      clear v0 v1 hg hpl hpe
      have c8 := fun (B1 B2 : Option Addr) (W : World) (h1 : Rd encCrd W B1 (due.take n)) (h2 : Rd encCrd W B2 (due.drop n)) => impl_MergeDecks (due.take n) (due.drop n) B1 B2 cap12 (cap12 - n) f W h1 (by rw [List.length_take]; omega) (by rw [List.length_take]; omega) (fun c hc => hus.out c (List.mem_of_mem_take hc)) h2 (by rw [List.length_drop]; omega) (by rw [List.length_drop]; omega) (fun c hc => hus.out c (List.mem_of_mem_drop hc)) hin
      rw [hmd.out n, List.length_take, List.length_drop, Nat.min_eq_left hnl] at c8
      try dsimp only at c8
      clear hmd
      have n0 : (0 : Int) ≤ (n : Int) := by omega
      have n1 : (n : Int) ≤ due.length := by omega
      have n2 : (n : Int) ≤ cap12 := by omega
      rcases rd_adr (hS := hR2) with ⟨gU, oU, pU, hAU⟩ | ⟨hAU, hAn⟩
      · subst hAU
        by_cases hcn : cap12 = n
        · subst hcn
          rw [Nat.sub_self, Nat.sub_eq_zero_of_le hle12] at c8
          have r1 := fun W (h : Rd encCrd W (some ⟨gU, oU, pU⟩) due) => c8 (some ⟨gU, oU, pU⟩) (some ⟨gU, oU, pU⟩) W (h.take cap12) (by rw [List.drop_eq_nil_of_le hle12]; exact Rd.nil _ _ _)
          clear c8
          go_wp2
          refine wp_region_any (by kernel_rfl) ?_
          change wpAny _ _ _ _ _ _ _ (World.drew _)
          refine intro_world (fun WD hWD => ?_)
          have eD : Ext w18 WD := by rw [hWD]; exact (Ext.refl _).drew
          clear hWD
          replace Xf := Xf.ext eD
          replace hRx := hRx.ext eD
          replace hRd := hRd.ext eD
          replace hR2 := hR2.ext eD
          have hwD := hw18.trans eD
          clear eD
          refine wpAny_take (i := 0) (v := ?_) rfl (by kernel_rfl) (by kernel_rfl) (by kernel_rfl) (fun _ _ _ h => h) (Or.inl ⟨by rfl, ?_⟩) ?_
          rotate_left
          · (intro W9; go_simp; try with_reducible rfl)
          refine wpAny_take (i := 1) (v := ?_) rfl (by kernel_rfl) (by kernel_rfl) (by kernel_rfl) (fun _ _ _ h => h) (Or.inl ⟨by rfl, ?_⟩) ?_
          rotate_left
          · (intro W9; go_simp; try with_reducible rfl)
          refine wpAny_take (i := 3) (v := ?_) rfl (by kernel_rfl) (by kernel_rfl) (by kernel_rfl) (fun _ _ _ h => h) (Or.inl ⟨by rfl, ?_⟩) ?_
          rotate_left
          · (intro W9; go_simp; try with_reducible rfl)
          refine wpAny_take (i := 4) (v := ?_) rfl (by kernel_rfl) (by kernel_rfl) (by kernel_rfl) (fun _ _ _ h => h) (Or.inl ⟨by rfl, ?_⟩) ?_
          rotate_left
          · (intro W9; go_simp; try with_reducible rfl)
          refine wpAny_take (i := 2) (v := ?_) rfl (by kernel_rfl) (by kernel_rfl) (by kernel_rfl) (fun _ _ _ h => h) (Or.inl ⟨by rfl, ?_⟩) ?_
          rotate_left
          · (intro W9; go_simp; try with_reducible rfl)
          refine wpAny_take (i := 5) (v := ?_) rfl (by kernel_rfl) (by kernel_rfl) (by kernel_rfl) (fun _ _ _ h => h) (Or.inl ⟨by rfl, ?_⟩) ?_
          rotate_left
          · (intro W9; go_simp; try with_reducible rfl)
          have yf0 : WD.cell? ⟨w4.heap.size, 0, none⟩ = some (.string f.nm) := Xf.cell 0
          have yf1 : WD.cell? ⟨w4.heap.size, 1, none⟩ = some (.int .i8 f.kd) := Xf.cell 1
          have yf2 : WD.cell? ⟨w4.heap.size, 2, none⟩ = some (.int .i16 f.st) := Xf.cell 2
          have yf3 : WD.cell? ⟨w4.heap.size, 3, none⟩ = some (.int .i16 f.sz) := Xf.cell 3
          have lf := Xf.lt
          refine wpAny_ready (rs := [6]) (by kernel_rfl) (by simp) ?_
          refine AllReady.cons rfl (fun K hK => ?_) ?_
          rotate_left
          · exact AllReady.nil
          go_simp
          refine hK _ _ ?_
          clear hK K
          clear yf0 yf1 yf2 yf3 lf
          refine wpAny_ready (rs := [7]) (by kernel_rfl) (by simp) ?_
          refine AllReady.cons rfl (fun K hK => ?_) ?_
          rotate_left
          · exact AllReady.nil
          go_simp
          go_wp2_with fail
          refine Calls.mono (r1 WD hR2) ?_
          rintro e w82 ⟨v82, rfl, hO82, hb82⟩
          obtain ⟨A82, cap82, rfl, hle82, hR4⟩ := hO82.slice
          have hw82 := hwD.trans hb82
          replace Xf := Xf.ext hb82
          replace hRx := hRx.ext hb82
          replace hRd := hRd.ext hb82
          replace hR2 := hR2.ext hb82
          clear hb82 hO82 r1
          go_wp2_with fail
          refine wpAny_take (i := 8) (v := ?_) rfl (by kernel_rfl) (by kernel_rfl) (by kernel_rfl) (fun _ _ _ h => h) (Or.inl ⟨by rfl, ?_⟩) ?_
          rotate_left
          · (intro W9; go_simp; try with_reducible rfl)
          refine wpAny_take (i := 9) (v := ?_) rfl (by kernel_rfl) (by kernel_rfl) (by kernel_rfl) (fun _ _ _ h => h) (Or.inl ⟨by rfl, ?_⟩) ?_
          rotate_left
          · (intro W9; go_simp; try with_reducible rfl)
          refine wpAny_take (i := 10) (v := ?_) rfl (by kernel_rfl) (by kernel_rfl) (by kernel_rfl) (fun _ _ _ h => h) (Or.inl ⟨by rfl, ?_⟩) ?_
          rotate_left
          · (intro W9; go_simp; try with_reducible rfl)
          refine wpAny_ready (rs := [11]) (by kernel_rfl) (by simp) ?_
          refine AllReady.cons rfl (fun K hK => ?_) ?_
          rotate_left
          · exact AllReady.nil
          go_simp
          refine hK _ _ ?_
          clear hK K
          refine wpAny_ready (rs := [12]) (by kernel_rfl) (by simp) ?_
          refine AllReady.cons rfl (fun K hK => ?_) ?_
          rotate_left
          · exact AllReady.nil
          go_simp
          refine hK _ _ ?_
          clear hK K
          refine wpAny_done (by kernel_rfl) ?_ _
          have c9 := fun W h1 h2 => spec_SameDeck due A82 (some ⟨gU, oU, pU⟩) cap82 cap12 W h1 h2 (by omega)
          go_wp2_with fail
          refine intro_world (R := fun W => Calls _ _ _ W _) (fun W82 hN => ?_)
          have dW82 : Ext w82 W82 := by rw [hN]; exact (Ext.refl _)
          have eW82 := hw82.trans dW82
          replace Xf := Xf.ext dW82
          replace hRx := hRx.ext dW82
          replace hRd := hRd.ext dW82
          replace hR2 := hR2.ext dW82
          replace hR4 := hR4.ext dW82
          clear hN
          refine Calls.mono (laws_a2At ds B cap' 2 40 (by omega) (by omega) W82 (hS.ext eW82)) ?_
          rintro e w83 ⟨y, rfl, y0, y1, hb83⟩
          have hw83 := eW82.trans hb83
          replace Xf := Xf.ext hb83
          replace hRx := hRx.ext hb83
          replace hRd := hRd.ext hb83
          replace hR2 := hR2.ext hb83
          replace hR4 := hR4.ext hb83
          clear hb83 dW82 eW82
          obtain ⟨hq1, hq2, hq3⟩ := hff.out y
          have c10 := fun W h => impl_FirstFrom due (some ⟨gU, oU, pU⟩) cap12 f y (by omega) (by omega) W h hle12 (by omega) hus.out hin
          have c11 := fun W h => spec_FirstFrom due (some ⟨gU, oU, pU⟩) cap12 f y (by omega) (by omega) W h (by omega) hus.out hin
          rw [hq1] at c10 c11
          try dsimp only at c10 c11
          generalize ffI f due y = at' at hq2 hq3 c10 c11
          clear hq1 hff
          replace hq3 := hd hq3
          have yf0 : w83.cell? ⟨w4.heap.size, 0, none⟩ = some (.string f.nm) := Xf.cell 0
          have yf1 : w83.cell? ⟨w4.heap.size, 1, none⟩ = some (.int .i8 f.kd) := Xf.cell 1
          have yf2 : w83.cell? ⟨w4.heap.size, 2, none⟩ = some (.int .i16 f.st) := Xf.cell 2
          have yf3 : w83.cell? ⟨w4.heap.size, 3, none⟩ = some (.int .i16 f.sz) := Xf.cell 3
          have lf := Xf.lt
          go_wp2_with fail
          refine intro_world (R := fun W => Calls _ _ _ W _) (fun W83 hN => ?_)
          have dW83 : Ext w83 W83 := by rw [hN]; exact (Ext.refl _)
          have eW83 := hw83.trans dW83
          replace Xf := Xf.ext dW83
          replace hRx := hRx.ext dW83
          replace hRd := hRd.ext dW83
          replace hR2 := hR2.ext dW83
          replace hR4 := hR4.ext dW83
          clear hN
          clear yf0 yf1 yf2 yf3 lf
          refine Calls.mono (c10 W83 hR2) ?_
          rintro e w84 ⟨rfl, hb84⟩
          have hw84 := eW83.trans hb84
          replace Xf := Xf.ext hb84
          replace hRx := hRx.ext hb84
          replace hRd := hRd.ext hb84
          replace hR2 := hR2.ext hb84
          replace hR4 := hR4.ext hb84
          clear hb84 dW83 eW83
          have yf0 : w84.cell? ⟨w4.heap.size, 0, none⟩ = some (.string f.nm) := Xf.cell 0
          have yf1 : w84.cell? ⟨w4.heap.size, 1, none⟩ = some (.int .i8 f.kd) := Xf.cell 1
          have yf2 : w84.cell? ⟨w4.heap.size, 2, none⟩ = some (.int .i16 f.st) := Xf.cell 2
          have yf3 : w84.cell? ⟨w4.heap.size, 3, none⟩ = some (.int .i16 f.sz) := Xf.cell 3
          have lf := Xf.lt
          go_wp2_with fail
          refine intro_world (R := fun W => Calls _ _ _ W _) (fun W84 hN => ?_)
          have dW84 : Ext w84 W84 := by rw [hN]; exact (Ext.refl _)
          have eW84 := hw84.trans dW84
          replace Xf := Xf.ext dW84
          replace hRx := hRx.ext dW84
          replace hRd := hRd.ext dW84
          replace hR2 := hR2.ext dW84
          replace hR4 := hR4.ext dW84
          clear hN
          clear yf0 yf1 yf2 yf3 lf
          refine Calls.mono (c11 W84 hR2) ?_
          rintro e w85 ⟨rfl, hb85⟩
          have hw85 := eW84.trans hb85
          replace Xf := Xf.ext hb85
          replace hRx := hRx.ext hb85
          replace hRd := hRd.ext hb85
          replace hR2 := hR2.ext hb85
          replace hR4 := hR4.ext hb85
          clear hb85 dW84 eW84
          go_wp2_with fail
          refine intro_world (R := fun W => Calls _ _ _ W _) (fun W85 hN => ?_)
          have dW85 : Ext w85 W85 := by rw [hN]; exact (Ext.refl _)
          have eW85 := hw85.trans dW85
          replace Xf := Xf.ext dW85
          replace hRx := hRx.ext dW85
          replace hRd := hRd.ext dW85
          replace hR2 := hR2.ext dW85
          replace hR4 := hR4.ext dW85
          clear hN
          refine Calls.mono (c9 W85 hR4 hR2) ?_
          rintro e w86 ⟨rfl, hb86⟩
          have hw86 := eW85.trans hb86
          replace Xf := Xf.ext hb86
          replace hRx := hRx.ext hb86
          replace hRd := hRd.ext hb86
          replace hR2 := hR2.ext hb86
          replace hR4 := hR4.ext hb86
          clear hb86 dW85 eW85
          clear hR4
          have p0 : (0 : Int) ≤ (at' : Int) := by omega
          have p1 : (at' : Int) ≤ due.length := by omega
          clear c9 c10 c11
          go_wp2
          go_loopg [35] (due.length + 1) (fun g iv wr => ∃ p : Nat, g = due.length + 1 - p ∧ p ≤ due.length ∧ iv = .int .i64 (p : Int) ∧ Ext w86 wr)
          case atStart => exact ⟨0, by omega, by omega, by first | rfl | simp, Ext.refl _⟩
          case round =>
            obtain ⟨p, hg, hpl, rfl, hr⟩ := hrel
            have hwr := hw86.trans hr
            replace Xf := Xf.ext hr
            replace hRx := hRx.ext hr
            replace hRd := hRd.ext hr
            replace hR2 := hR2.ext hr
            by_cases hpu : p < due.length
            · obtain ⟨bV, oV, hAV, hltV, hrV⟩ := hR2 p hpu
              cases hAV
              clear hrV
              obtain ⟨n0, n1, n2, n3⟩ := hR2.crd p hpu
              have ka := huk.out _ (List.getElem_mem hpu)
              have kk := hq3.out p hpu
              unfold kf at kk
              generalize due[p] = ca at n0 n1 n2 ka kk
              have d1 := fun W => impl_KeyOf f hf hin ca.m ka W
              generalize ((keyF f ca.m : Nat) : Int) = va at d1 kk
              have u1 : (p : Int) < due.length := by omega
              have yf0 : wr.cell? ⟨w4.heap.size, 0, none⟩ = some (.string f.nm) := Xf.cell 0
              have yf1 : wr.cell? ⟨w4.heap.size, 1, none⟩ = some (.int .i8 f.kd) := Xf.cell 1
              have yf2 : wr.cell? ⟨w4.heap.size, 2, none⟩ = some (.int .i16 f.st) := Xf.cell 2
              have yf3 : wr.cell? ⟨w4.heap.size, 3, none⟩ = some (.int .i16 f.sz) := Xf.cell 3
              have lf := Xf.lt
              go_wp2
              refine wp_region_ext (by kernel_rfl) (by kernel_rfl) ?_
              repeat (first | go_big_quiet_step (((go_at_call 28; with_reducible exact Calls.ext_of (d1 _)))) | quiet_step (((go_at_call 28; with_reducible exact Calls.ext_of (d1 _)))))
              refine wpQuiet_nil ?_
              intro w91 hq91
              have hb91 := ext_of_class hq91
              clear hq91
              obtain ⟨hc91, hf91, hz91⟩ := bcell3 hb91
              try simp at hz91
              clear hc91 hf91 d1 n0 n1 n2 n3 yf0 yf1 yf2 yf3 lf
              have hr2 := hr.trans hb91
              clear hb91 Xf
              by_cases hk : va < y
              · have hi2 : ((p : Int) < (at' : Int)) = True := eq_true (by have := kk.1 hk; omega)
                replace hk : (va < y) = True := eq_true hk
                clear kk
                go_wp2
                go_roundg (due.length + 1 - (p + 1))
                case rel => exact ⟨p + 1, rfl, by omega, by first | rfl | simp, hr2⟩
                case measure => omega
              · have hi2 : ((p : Int) < (at' : Int)) = False := eq_false (by have := fun h => hk (kk.2 h); omega)
                replace hk : (va < y) = False := eq_false hk
                clear kk
                go_wp2
                go_roundg (due.length + 1 - (p + 1))
                case rel => exact ⟨p + 1, rfl, by omega, by first | rfl | simp, hr2⟩
                case measure => omega
            · have hpe : due.length ≤ p := by omega
              have u2 : (due.length : Int) ≤ (p : Int) := by omega
              go_wp2
              go_ret
              exact ⟨rfl, hwr⟩
        · skip
          have r1 := fun W (h : Rd encCrd W (some ⟨gU, oU, pU⟩) due) => c8 (some ⟨gU, oU, pU⟩) (some (Addr.add ⟨gU, oU, pU⟩ (n * 3))) W (h.take n) (h.dropA n)
          clear c8
          go_wp2
          refine wp_region_any (by kernel_rfl) ?_
          change wpAny _ _ _ _ _ _ _ (World.drew _)
          refine intro_world (fun WD hWD => ?_)
          have eD : Ext w18 WD := by rw [hWD]; exact (Ext.refl _).drew
          clear hWD
          replace Xf := Xf.ext eD
          replace hRx := hRx.ext eD
          replace hRd := hRd.ext eD
          replace hR2 := hR2.ext eD
          have hwD := hw18.trans eD
          clear eD
          refine wpAny_take (i := 0) (v := ?_) rfl (by kernel_rfl) (by kernel_rfl) (by kernel_rfl) (fun _ _ _ h => h) (Or.inl ⟨by rfl, ?_⟩) ?_
          rotate_left
          · (intro W9; go_simp; try with_reducible rfl)
          refine wpAny_take (i := 1) (v := ?_) rfl (by kernel_rfl) (by kernel_rfl) (by kernel_rfl) (fun _ _ _ h => h) (Or.inl ⟨by rfl, ?_⟩) ?_
          rotate_left
          · (intro W9; go_simp; try with_reducible rfl)
          refine wpAny_take (i := 3) (v := ?_) rfl (by kernel_rfl) (by kernel_rfl) (by kernel_rfl) (fun _ _ _ h => h) (Or.inl ⟨by rfl, ?_⟩) ?_
          rotate_left
          · (intro W9; go_simp; try with_reducible rfl)
          refine wpAny_take (i := 4) (v := ?_) rfl (by kernel_rfl) (by kernel_rfl) (by kernel_rfl) (fun _ _ _ h => h) (Or.inl ⟨by rfl, ?_⟩) ?_
          rotate_left
          · (intro W9; go_simp; try with_reducible rfl)
          refine wpAny_take (i := 2) (v := ?_) rfl (by kernel_rfl) (by kernel_rfl) (by kernel_rfl) (fun _ _ _ h => h) (Or.inl ⟨by rfl, ?_⟩) ?_
          rotate_left
          · (intro W9; go_simp; try with_reducible rfl)
          refine wpAny_take (i := 5) (v := ?_) rfl (by kernel_rfl) (by kernel_rfl) (by kernel_rfl) (fun _ _ _ h => h) (Or.inl ⟨by rfl, ?_⟩) ?_
          rotate_left
          · (intro W9; go_simp; try with_reducible rfl)
          have yf0 : WD.cell? ⟨w4.heap.size, 0, none⟩ = some (.string f.nm) := Xf.cell 0
          have yf1 : WD.cell? ⟨w4.heap.size, 1, none⟩ = some (.int .i8 f.kd) := Xf.cell 1
          have yf2 : WD.cell? ⟨w4.heap.size, 2, none⟩ = some (.int .i16 f.st) := Xf.cell 2
          have yf3 : WD.cell? ⟨w4.heap.size, 3, none⟩ = some (.int .i16 f.sz) := Xf.cell 3
          have lf := Xf.lt
          refine wpAny_ready (rs := [6]) (by kernel_rfl) (by simp) ?_
          refine AllReady.cons rfl (fun K hK => ?_) ?_
          rotate_left
          · exact AllReady.nil
          go_simp
          refine hK _ _ ?_
          clear hK K
          clear yf0 yf1 yf2 yf3 lf
          refine wpAny_ready (rs := [7]) (by kernel_rfl) (by simp) ?_
          refine AllReady.cons rfl (fun K hK => ?_) ?_
          rotate_left
          · exact AllReady.nil
          go_simp
          go_wp2_with fail
          refine Calls.mono (r1 WD hR2) ?_
          rintro e w82 ⟨v82, rfl, hO82, hb82⟩
          obtain ⟨A82, cap82, rfl, hle82, hR4⟩ := hO82.slice
          have hw82 := hwD.trans hb82
          replace Xf := Xf.ext hb82
          replace hRx := hRx.ext hb82
          replace hRd := hRd.ext hb82
          replace hR2 := hR2.ext hb82
          clear hb82 hO82 r1
          go_wp2_with fail
          refine wpAny_take (i := 8) (v := ?_) rfl (by kernel_rfl) (by kernel_rfl) (by kernel_rfl) (fun _ _ _ h => h) (Or.inl ⟨by rfl, ?_⟩) ?_
          rotate_left
          · (intro W9; go_simp; try with_reducible rfl)
          refine wpAny_take (i := 9) (v := ?_) rfl (by kernel_rfl) (by kernel_rfl) (by kernel_rfl) (fun _ _ _ h => h) (Or.inl ⟨by rfl, ?_⟩) ?_
          rotate_left
          · (intro W9; go_simp; try with_reducible rfl)
          refine wpAny_take (i := 10) (v := ?_) rfl (by kernel_rfl) (by kernel_rfl) (by kernel_rfl) (fun _ _ _ h => h) (Or.inl ⟨by rfl, ?_⟩) ?_
          rotate_left
          · (intro W9; go_simp; try with_reducible rfl)
          refine wpAny_ready (rs := [11]) (by kernel_rfl) (by simp) ?_
          refine AllReady.cons rfl (fun K hK => ?_) ?_
          rotate_left
          · exact AllReady.nil
          go_simp
          refine hK _ _ ?_
          clear hK K
          refine wpAny_ready (rs := [12]) (by kernel_rfl) (by simp) ?_
          refine AllReady.cons rfl (fun K hK => ?_) ?_
          rotate_left
          · exact AllReady.nil
          go_simp
          refine hK _ _ ?_
          clear hK K
          refine wpAny_done (by kernel_rfl) ?_ _
          have c9 := fun W h1 h2 => spec_SameDeck due A82 (some ⟨gU, oU, pU⟩) cap82 cap12 W h1 h2 (by omega)
          go_wp2_with fail
          refine intro_world (R := fun W => Calls _ _ _ W _) (fun W82 hN => ?_)
          have dW82 : Ext w82 W82 := by rw [hN]; exact (Ext.refl _)
          have eW82 := hw82.trans dW82
          replace Xf := Xf.ext dW82
          replace hRx := hRx.ext dW82
          replace hRd := hRd.ext dW82
          replace hR2 := hR2.ext dW82
          replace hR4 := hR4.ext dW82
          clear hN
          refine Calls.mono (laws_a2At ds B cap' 2 40 (by omega) (by omega) W82 (hS.ext eW82)) ?_
          rintro e w83 ⟨y, rfl, y0, y1, hb83⟩
          have hw83 := eW82.trans hb83
          replace Xf := Xf.ext hb83
          replace hRx := hRx.ext hb83
          replace hRd := hRd.ext hb83
          replace hR2 := hR2.ext hb83
          replace hR4 := hR4.ext hb83
          clear hb83 dW82 eW82
          obtain ⟨hq1, hq2, hq3⟩ := hff.out y
          have c10 := fun W h => impl_FirstFrom due (some ⟨gU, oU, pU⟩) cap12 f y (by omega) (by omega) W h hle12 (by omega) hus.out hin
          have c11 := fun W h => spec_FirstFrom due (some ⟨gU, oU, pU⟩) cap12 f y (by omega) (by omega) W h (by omega) hus.out hin
          rw [hq1] at c10 c11
          try dsimp only at c10 c11
          generalize ffI f due y = at' at hq2 hq3 c10 c11
          clear hq1 hff
          replace hq3 := hd hq3
          have yf0 : w83.cell? ⟨w4.heap.size, 0, none⟩ = some (.string f.nm) := Xf.cell 0
          have yf1 : w83.cell? ⟨w4.heap.size, 1, none⟩ = some (.int .i8 f.kd) := Xf.cell 1
          have yf2 : w83.cell? ⟨w4.heap.size, 2, none⟩ = some (.int .i16 f.st) := Xf.cell 2
          have yf3 : w83.cell? ⟨w4.heap.size, 3, none⟩ = some (.int .i16 f.sz) := Xf.cell 3
          have lf := Xf.lt
          go_wp2_with fail
          refine intro_world (R := fun W => Calls _ _ _ W _) (fun W83 hN => ?_)
          have dW83 : Ext w83 W83 := by rw [hN]; exact (Ext.refl _)
          have eW83 := hw83.trans dW83
          replace Xf := Xf.ext dW83
          replace hRx := hRx.ext dW83
          replace hRd := hRd.ext dW83
          replace hR2 := hR2.ext dW83
          replace hR4 := hR4.ext dW83
          clear hN
          clear yf0 yf1 yf2 yf3 lf
          refine Calls.mono (c10 W83 hR2) ?_
          rintro e w84 ⟨rfl, hb84⟩
          have hw84 := eW83.trans hb84
          replace Xf := Xf.ext hb84
          replace hRx := hRx.ext hb84
          replace hRd := hRd.ext hb84
          replace hR2 := hR2.ext hb84
          replace hR4 := hR4.ext hb84
          clear hb84 dW83 eW83
          have yf0 : w84.cell? ⟨w4.heap.size, 0, none⟩ = some (.string f.nm) := Xf.cell 0
          have yf1 : w84.cell? ⟨w4.heap.size, 1, none⟩ = some (.int .i8 f.kd) := Xf.cell 1
          have yf2 : w84.cell? ⟨w4.heap.size, 2, none⟩ = some (.int .i16 f.st) := Xf.cell 2
          have yf3 : w84.cell? ⟨w4.heap.size, 3, none⟩ = some (.int .i16 f.sz) := Xf.cell 3
          have lf := Xf.lt
          go_wp2_with fail
          refine intro_world (R := fun W => Calls _ _ _ W _) (fun W84 hN => ?_)
          have dW84 : Ext w84 W84 := by rw [hN]; exact (Ext.refl _)
          have eW84 := hw84.trans dW84
          replace Xf := Xf.ext dW84
          replace hRx := hRx.ext dW84
          replace hRd := hRd.ext dW84
          replace hR2 := hR2.ext dW84
          replace hR4 := hR4.ext dW84
          clear hN
          clear yf0 yf1 yf2 yf3 lf
          refine Calls.mono (c11 W84 hR2) ?_
          rintro e w85 ⟨rfl, hb85⟩
          have hw85 := eW84.trans hb85
          replace Xf := Xf.ext hb85
          replace hRx := hRx.ext hb85
          replace hRd := hRd.ext hb85
          replace hR2 := hR2.ext hb85
          replace hR4 := hR4.ext hb85
          clear hb85 dW84 eW84
          go_wp2_with fail
          refine intro_world (R := fun W => Calls _ _ _ W _) (fun W85 hN => ?_)
          have dW85 : Ext w85 W85 := by rw [hN]; exact (Ext.refl _)
          have eW85 := hw85.trans dW85
          replace Xf := Xf.ext dW85
          replace hRx := hRx.ext dW85
          replace hRd := hRd.ext dW85
          replace hR2 := hR2.ext dW85
          replace hR4 := hR4.ext dW85
          clear hN
          refine Calls.mono (c9 W85 hR4 hR2) ?_
          rintro e w86 ⟨rfl, hb86⟩
          have hw86 := eW85.trans hb86
          replace Xf := Xf.ext hb86
          replace hRx := hRx.ext hb86
          replace hRd := hRd.ext hb86
          replace hR2 := hR2.ext hb86
          replace hR4 := hR4.ext hb86
          clear hb86 dW85 eW85
          clear hR4
          have p0 : (0 : Int) ≤ (at' : Int) := by omega
          have p1 : (at' : Int) ≤ due.length := by omega
          clear c9 c10 c11
          go_wp2
          go_loopg [35] (due.length + 1) (fun g iv wr => ∃ p : Nat, g = due.length + 1 - p ∧ p ≤ due.length ∧ iv = .int .i64 (p : Int) ∧ Ext w86 wr)
          case atStart => exact ⟨0, by omega, by omega, by first | rfl | simp, Ext.refl _⟩
          case round =>
            obtain ⟨p, hg, hpl, rfl, hr⟩ := hrel
            have hwr := hw86.trans hr
            replace Xf := Xf.ext hr
            replace hRx := hRx.ext hr
            replace hRd := hRd.ext hr
            replace hR2 := hR2.ext hr
            by_cases hpu : p < due.length
            · obtain ⟨bV, oV, hAV, hltV, hrV⟩ := hR2 p hpu
              cases hAV
              clear hrV
              obtain ⟨n0, n1, n2, n3⟩ := hR2.crd p hpu
              have ka := huk.out _ (List.getElem_mem hpu)
              have kk := hq3.out p hpu
              unfold kf at kk
              generalize due[p] = ca at n0 n1 n2 ka kk
              have d1 := fun W => impl_KeyOf f hf hin ca.m ka W
              generalize ((keyF f ca.m : Nat) : Int) = va at d1 kk
              have u1 : (p : Int) < due.length := by omega
              have yf0 : wr.cell? ⟨w4.heap.size, 0, none⟩ = some (.string f.nm) := Xf.cell 0
              have yf1 : wr.cell? ⟨w4.heap.size, 1, none⟩ = some (.int .i8 f.kd) := Xf.cell 1
              have yf2 : wr.cell? ⟨w4.heap.size, 2, none⟩ = some (.int .i16 f.st) := Xf.cell 2
              have yf3 : wr.cell? ⟨w4.heap.size, 3, none⟩ = some (.int .i16 f.sz) := Xf.cell 3
              have lf := Xf.lt
              go_wp2
              refine wp_region_ext (by kernel_rfl) (by kernel_rfl) ?_
              repeat (first | go_big_quiet_step (((go_at_call 28; with_reducible exact Calls.ext_of (d1 _)))) | quiet_step (((go_at_call 28; with_reducible exact Calls.ext_of (d1 _)))))
              refine wpQuiet_nil ?_
              intro w91 hq91
              have hb91 := ext_of_class hq91
              clear hq91
              obtain ⟨hc91, hf91, hz91⟩ := bcell3 hb91
              try simp at hz91
              clear hc91 hf91 d1 n0 n1 n2 n3 yf0 yf1 yf2 yf3 lf
              have hr2 := hr.trans hb91
              clear hb91 Xf
              by_cases hk : va < y
              · have hi2 : ((p : Int) < (at' : Int)) = True := eq_true (by have := kk.1 hk; omega)
                replace hk : (va < y) = True := eq_true hk
                clear kk
                go_wp2
                go_roundg (due.length + 1 - (p + 1))
                case rel => exact ⟨p + 1, rfl, by omega, by first | rfl | simp, hr2⟩
                case measure => omega
              · have hi2 : ((p : Int) < (at' : Int)) = False := eq_false (by have := fun h => hk (kk.2 h); omega)
                replace hk : (va < y) = False := eq_false hk
                clear kk
                go_wp2
                go_roundg (due.length + 1 - (p + 1))
                case rel => exact ⟨p + 1, rfl, by omega, by first | rfl | simp, hr2⟩
                case measure => omega
            · have hpe : due.length ≤ p := by omega
              have u2 : (due.length : Int) ≤ (p : Int) := by omega
              go_wp2
              go_ret
              exact ⟨rfl, hwr⟩
      · subst hAU
        clear hAn
        have r1 := fun W (h : Rd encCrd W none due) => c8 none none W (h.take n) (h.noneDrop n)
        clear c8
        go_wp2
        refine wp_region_any (by kernel_rfl) ?_
        change wpAny _ _ _ _ _ _ _ (World.drew _)
        refine intro_world (fun WD hWD => ?_)
        have eD : Ext w18 WD := by rw [hWD]; exact (Ext.refl _).drew
        clear hWD
        replace Xf := Xf.ext eD
        replace hRx := hRx.ext eD
        replace hRd := hRd.ext eD
        replace hR2 := hR2.ext eD
        have hwD := hw18.trans eD
        clear eD
        refine wpAny_take (i := 0) (v := ?_) rfl (by kernel_rfl) (by kernel_rfl) (by kernel_rfl) (fun _ _ _ h => h) (Or.inl ⟨by rfl, ?_⟩) ?_
        rotate_left
        · (intro W9; go_simp; try with_reducible rfl)
        refine wpAny_take (i := 1) (v := ?_) rfl (by kernel_rfl) (by kernel_rfl) (by kernel_rfl) (fun _ _ _ h => h) (Or.inl ⟨by rfl, ?_⟩) ?_
        rotate_left
        · (intro W9; go_simp; try with_reducible rfl)
        refine wpAny_take (i := 3) (v := ?_) rfl (by kernel_rfl) (by kernel_rfl) (by kernel_rfl) (fun _ _ _ h => h) (Or.inl ⟨by rfl, ?_⟩) ?_
        rotate_left
        · (intro W9; go_simp; try with_reducible rfl)
        refine wpAny_take (i := 4) (v := ?_) rfl (by kernel_rfl) (by kernel_rfl) (by kernel_rfl) (fun _ _ _ h => h) (Or.inl ⟨by rfl, ?_⟩) ?_
        rotate_left
        · (intro W9; go_simp; try with_reducible rfl)
        refine wpAny_take (i := 2) (v := ?_) rfl (by kernel_rfl) (by kernel_rfl) (by kernel_rfl) (fun _ _ _ h => h) (Or.inl ⟨by rfl, ?_⟩) ?_
        rotate_left
        · (intro W9; go_simp; try with_reducible rfl)
        refine wpAny_take (i := 5) (v := ?_) rfl (by kernel_rfl) (by kernel_rfl) (by kernel_rfl) (fun _ _ _ h => h) (Or.inl ⟨by rfl, ?_⟩) ?_
        rotate_left
        · (intro W9; go_simp; try with_reducible rfl)
        have yf0 : WD.cell? ⟨w4.heap.size, 0, none⟩ = some (.string f.nm) := Xf.cell 0
        have yf1 : WD.cell? ⟨w4.heap.size, 1, none⟩ = some (.int .i8 f.kd) := Xf.cell 1
        have yf2 : WD.cell? ⟨w4.heap.size, 2, none⟩ = some (.int .i16 f.st) := Xf.cell 2
        have yf3 : WD.cell? ⟨w4.heap.size, 3, none⟩ = some (.int .i16 f.sz) := Xf.cell 3
        have lf := Xf.lt
        refine wpAny_ready (rs := [6]) (by kernel_rfl) (by simp) ?_
        refine AllReady.cons rfl (fun K hK => ?_) ?_
        rotate_left
        · exact AllReady.nil
        go_simp
        refine hK _ _ ?_
        clear hK K
        clear yf0 yf1 yf2 yf3 lf
        refine wpAny_ready (rs := [7]) (by kernel_rfl) (by simp) ?_
        refine AllReady.cons rfl (fun K hK => ?_) ?_
        rotate_left
        · exact AllReady.nil
        go_simp
        go_wp2_with fail
        refine Calls.mono (r1 WD hR2) ?_
        rintro e w82 ⟨v82, rfl, hO82, hb82⟩
        obtain ⟨A82, cap82, rfl, hle82, hR4⟩ := hO82.slice
        have hw82 := hwD.trans hb82
        replace Xf := Xf.ext hb82
        replace hRx := hRx.ext hb82
        replace hRd := hRd.ext hb82
        replace hR2 := hR2.ext hb82
        clear hb82 hO82 r1
        go_wp2_with fail
        refine wpAny_take (i := 8) (v := ?_) rfl (by kernel_rfl) (by kernel_rfl) (by kernel_rfl) (fun _ _ _ h => h) (Or.inl ⟨by rfl, ?_⟩) ?_
        rotate_left
        · (intro W9; go_simp; try with_reducible rfl)
        refine wpAny_take (i := 9) (v := ?_) rfl (by kernel_rfl) (by kernel_rfl) (by kernel_rfl) (fun _ _ _ h => h) (Or.inl ⟨by rfl, ?_⟩) ?_
        rotate_left
        · (intro W9; go_simp; try with_reducible rfl)
        refine wpAny_take (i := 10) (v := ?_) rfl (by kernel_rfl) (by kernel_rfl) (by kernel_rfl) (fun _ _ _ h => h) (Or.inl ⟨by rfl, ?_⟩) ?_
        rotate_left
        · (intro W9; go_simp; try with_reducible rfl)
        refine wpAny_ready (rs := [11]) (by kernel_rfl) (by simp) ?_
        refine AllReady.cons rfl (fun K hK => ?_) ?_
        rotate_left
        · exact AllReady.nil
        go_simp
        refine hK _ _ ?_
        clear hK K
        refine wpAny_ready (rs := [12]) (by kernel_rfl) (by simp) ?_
        refine AllReady.cons rfl (fun K hK => ?_) ?_
        rotate_left
        · exact AllReady.nil
        go_simp
        refine hK _ _ ?_
        clear hK K
        refine wpAny_done (by kernel_rfl) ?_ _
        have c9 := fun W h1 h2 => spec_SameDeck due A82 none cap82 cap12 W h1 h2 (by omega)
        go_wp2_with fail
        refine intro_world (R := fun W => Calls _ _ _ W _) (fun W82 hN => ?_)
        have dW82 : Ext w82 W82 := by rw [hN]; exact (Ext.refl _)
        have eW82 := hw82.trans dW82
        replace Xf := Xf.ext dW82
        replace hRx := hRx.ext dW82
        replace hRd := hRd.ext dW82
        replace hR2 := hR2.ext dW82
        replace hR4 := hR4.ext dW82
        clear hN
        refine Calls.mono (laws_a2At ds B cap' 2 40 (by omega) (by omega) W82 (hS.ext eW82)) ?_
        rintro e w83 ⟨y, rfl, y0, y1, hb83⟩
        have hw83 := eW82.trans hb83
        replace Xf := Xf.ext hb83
        replace hRx := hRx.ext hb83
        replace hRd := hRd.ext hb83
        replace hR2 := hR2.ext hb83
        replace hR4 := hR4.ext hb83
        clear hb83 dW82 eW82
        obtain ⟨hq1, hq2, hq3⟩ := hff.out y
        have c10 := fun W h => impl_FirstFrom due none cap12 f y (by omega) (by omega) W h hle12 (by omega) hus.out hin
        have c11 := fun W h => spec_FirstFrom due none cap12 f y (by omega) (by omega) W h (by omega) hus.out hin
        rw [hq1] at c10 c11
        try dsimp only at c10 c11
        generalize ffI f due y = at' at hq2 hq3 c10 c11
        clear hq1 hff
        replace hq3 := hd hq3
        have yf0 : w83.cell? ⟨w4.heap.size, 0, none⟩ = some (.string f.nm) := Xf.cell 0
        have yf1 : w83.cell? ⟨w4.heap.size, 1, none⟩ = some (.int .i8 f.kd) := Xf.cell 1
        have yf2 : w83.cell? ⟨w4.heap.size, 2, none⟩ = some (.int .i16 f.st) := Xf.cell 2
        have yf3 : w83.cell? ⟨w4.heap.size, 3, none⟩ = some (.int .i16 f.sz) := Xf.cell 3
        have lf := Xf.lt
        go_wp2_with fail
        refine intro_world (R := fun W => Calls _ _ _ W _) (fun W83 hN => ?_)
        have dW83 : Ext w83 W83 := by rw [hN]; exact (Ext.refl _)
        have eW83 := hw83.trans dW83
        replace Xf := Xf.ext dW83
        replace hRx := hRx.ext dW83
        replace hRd := hRd.ext dW83
        replace hR2 := hR2.ext dW83
        replace hR4 := hR4.ext dW83
        clear hN
        clear yf0 yf1 yf2 yf3 lf
        refine Calls.mono (c10 W83 hR2) ?_
        rintro e w84 ⟨rfl, hb84⟩
        have hw84 := eW83.trans hb84
        replace Xf := Xf.ext hb84
        replace hRx := hRx.ext hb84
        replace hRd := hRd.ext hb84
        replace hR2 := hR2.ext hb84
        replace hR4 := hR4.ext hb84
        clear hb84 dW83 eW83
        have yf0 : w84.cell? ⟨w4.heap.size, 0, none⟩ = some (.string f.nm) := Xf.cell 0
        have yf1 : w84.cell? ⟨w4.heap.size, 1, none⟩ = some (.int .i8 f.kd) := Xf.cell 1
        have yf2 : w84.cell? ⟨w4.heap.size, 2, none⟩ = some (.int .i16 f.st) := Xf.cell 2
        have yf3 : w84.cell? ⟨w4.heap.size, 3, none⟩ = some (.int .i16 f.sz) := Xf.cell 3
        have lf := Xf.lt
        go_wp2_with fail
        refine intro_world (R := fun W => Calls _ _ _ W _) (fun W84 hN => ?_)
        have dW84 : Ext w84 W84 := by rw [hN]; exact (Ext.refl _)
        have eW84 := hw84.trans dW84
        replace Xf := Xf.ext dW84
        replace hRx := hRx.ext dW84
        replace hRd := hRd.ext dW84
        replace hR2 := hR2.ext dW84
        replace hR4 := hR4.ext dW84
        clear hN
        clear yf0 yf1 yf2 yf3 lf
        refine Calls.mono (c11 W84 hR2) ?_
        rintro e w85 ⟨rfl, hb85⟩
        have hw85 := eW84.trans hb85
        replace Xf := Xf.ext hb85
        replace hRx := hRx.ext hb85
        replace hRd := hRd.ext hb85
        replace hR2 := hR2.ext hb85
        replace hR4 := hR4.ext hb85
        clear hb85 dW84 eW84
        go_wp2_with fail
        refine intro_world (R := fun W => Calls _ _ _ W _) (fun W85 hN => ?_)
        have dW85 : Ext w85 W85 := by rw [hN]; exact (Ext.refl _)
        have eW85 := hw85.trans dW85
        replace Xf := Xf.ext dW85
        replace hRx := hRx.ext dW85
        replace hRd := hRd.ext dW85
        replace hR2 := hR2.ext dW85
        replace hR4 := hR4.ext dW85
        clear hN
        refine Calls.mono (c9 W85 hR4 hR2) ?_
        rintro e w86 ⟨rfl, hb86⟩
        have hw86 := eW85.trans hb86
        replace Xf := Xf.ext hb86
        replace hRx := hRx.ext hb86
        replace hRd := hRd.ext hb86
        replace hR2 := hR2.ext hb86
        replace hR4 := hR4.ext hb86
        clear hb86 dW85 eW85
        clear hR4
        have p0 : (0 : Int) ≤ (at' : Int) := by omega
        have p1 : (at' : Int) ≤ due.length := by omega
        clear c9 c10 c11
        go_wp2
        go_loopg [35] (due.length + 1) (fun g iv wr => ∃ p : Nat, g = due.length + 1 - p ∧ p ≤ due.length ∧ iv = .int .i64 (p : Int) ∧ Ext w86 wr)
        case atStart => exact ⟨0, by omega, by omega, by first | rfl | simp, Ext.refl _⟩
        case round =>
          obtain ⟨p, hg, hpl, rfl, hr⟩ := hrel
          have hwr := hw86.trans hr
          replace Xf := Xf.ext hr
          replace hRx := hRx.ext hr
          replace hRd := hRd.ext hr
          replace hR2 := hR2.ext hr
          by_cases hpu : p < due.length
          · obtain ⟨bV, oV, hAV, hltV, hrV⟩ := hR2 p hpu
            cases hAV
          · have hpe : due.length ≤ p := by omega
            have u2 : (due.length : Int) ≤ (p : Int) := by omega
            go_wp2
            go_ret
            exact ⟨rfl, hwr⟩
end Go.Proofs.YtdlpifgkponnmaaDoor
