/-
  The walk of the law FnMerged.
-/
import Derived.Test.YtmphnocgihegbaaDoorMG1
import Derived.Test.YtmphnocgihegbaaDoorE1
import Derived.Test.YtmphnocgihegbaaDoorE8
import Derived.Test.YtmphnocgihegbaaDoorE21
import Derived.Test.YtmphnocgihegbaaDoorE22
import Derived.Test.YtmphnocgihegbaaDoorE24
import Derived.Test.YtmphnocgihegbaaDoorE26
set_option linter.unusedVariables false
set_option linter.unusedSimpArgs false
set_option maxRecDepth 100000
namespace Go.Proofs.YtmphnocgihegbaaDoor
open Go.RowKit
theorem impl_ValidCat (xs : List Ent) (A : Option Addr) (cap : Nat) (w : World) (hC : CatArg w A cap xs) (hG : Glob w) :
    Calls Tryd.prog 32 #[.slice A xs.length cap] w fun e w' => e = .returned (.bool (catB xs)) ∧ Ext w w' := by
  go_enter Tryd.func32, Tryd.ntmps32
  go_wp2_with fail
  refine Calls.mono (impl_isCatalogue xs A cap _ hC.rd hC.cap hC.ok hG) ?_
  rintro e w1 ⟨rfl, hb1⟩
  go_wp2
  go_ret
  exact ⟨rfl, hb1⟩
set_option maxHeartbeats 40000000 in
theorem laws_FnMerged (cs ds : List UInt8) (A B : Option Addr) (cap cap' : Nat) (w : World) (hn : cs.length ≤ 9223372036854775807) (hR : Rd encU8 w A cs) (hm : ds.length ≤ 9223372036854775807) (hS : Rd encU8 w B ds) (hG : Glob w) :
    Calls Tryd.prog 8 #[.slice A cs.length cap, .slice B ds.length cap'] w fun e w' => e = .returned (.bool true) ∧ Ext w w' := by
  have b1 := fun W => laws_a2Long cs ds A B cap cap' W
  by_cases h1 : 3000 < cs.length ∨ 3000 < ds.length
  · rw [decide_eq_true h1] at b1
    go_enter Tryd.func8, Tryd.ntmps8
    go_wp2_with fail
    refine Calls.mono (b1 _) ?_
    rintro e w1 ⟨rfl, hb1⟩
    go_wp2
    go_ret
    exact ⟨rfl, hb1⟩
  rw [decide_eq_false h1] at b1
  go_enter Tryd.func8, Tryd.ntmps8
  go_wp2_with fail
  refine Calls.mono (b1 _) ?_
  rintro e w1 ⟨rfl, hb1⟩
  clear b1
  go_wp2_with fail
  refine Calls.mono (spec_A2Catalogue cs A cap _ (hR.ext hb1) (by omega)) ?_
  rintro e w2 ⟨xs, v2, rfl, hO, hD, l1, l9, hb2⟩
  obtain ⟨C, cc, rfl, hle, hRx⟩ := hO.slice
  have hC : CatArg w2 C cc xs := ⟨hRx, hle, by omega, hD.ok⟩
  have hw2 := hb1.trans hb2
  clear hO hRx hb1 hb2
  go_wp2_with fail
  refine Calls.mono (laws_a2At ds B cap' 0 xs.length (by omega) (by omega) _ (hS.ext hw2)) ?_
  rintro e w3 ⟨i, rfl, i0, i1, hb3⟩
  have hw3 := hw2.trans hb3
  go_wp2_with fail
  refine Calls.mono (laws_a2At ds B cap' 1 xs.length (by omega) (by omega) _ (hS.ext hw3)) ?_
  rintro e w4 ⟨k, rfl, k0, k1, hb4⟩
  have hw4 := hw3.trans hb4
  replace hC := (hC.ext hb3).ext hb4
  replace hG := hG.ext hw4
  clear hb3 hb4 hw3 hw2 hR hS h1
  obtain ⟨i, rfl⟩ := Int.eq_ofNat_of_zero_le i0
  obtain ⟨k, rfl⟩ := Int.eq_ofNat_of_zero_le k0
  have hi : i < xs.length := by omega
  have hk : k < xs.length := by omega
  clear i0 i1 k0 k1
  have hA := hd (added_law hD)
  obtain hF | ⟨ys, is, js, hF, hY⟩ := merged_law hD.cat i k hi hk
  · have c1 := fun W (h : CatArg W C cc xs) (g : Glob W) => impl_MergeEntries xs C cc i k W h g
    have c2 := fun W (h : CatArg W C cc xs) => spec_MergeEntries xs C cc i k W h
    rw [hF] at c1 c2
    clear hF
    go_wp2_with fail
    refine Calls.mono (c1 _ hC hG) ?_
    rintro e w11 ⟨v11, rfl, hO11, hb11⟩
    obtain ⟨A11, cap11, rfl, hle11, hRa⟩ := hO11.slice
    clear hO11
    have hw11 := hw4.trans hb11
    replace hC := hC.ext hb11
    replace hG := hG.ext hb11
    clear hb11
    go_wp2_with fail
    refine Calls.mono (c2 _ hC) ?_
    rintro e w12 ⟨v12, rfl, hO12, hb12⟩
    obtain ⟨A12, cap12, rfl, hle12, hRb⟩ := hO12.slice
    clear hO12
    have hw12 := hw11.trans hb12
    replace hC := hC.ext hb12
    replace hG := hG.ext hb12
    replace hRa := hRa.ext hb12
    clear hb12
    have c3 := fun W h1 h2 => spec_SameCatalogue ([] : List Ent) [] A11 A12 cap11 cap12 W h1 h2 (by simp) (by simp)
    rw [eqL_refl entB entB_refl] at c3
    go_wp2_with fail
    refine Calls.mono (c3 _ hRa hRb) ?_
    rintro e w13 ⟨rfl, hb13⟩
    have hw13 := hw12.trans hb13
    replace hC := hC.ext hb13
    replace hG := hG.ext hb13
    replace hRa := hRa.ext hb13
    replace hRb := hRb.ext hb13
    clear hb13
    clear c1 c2 c3 hRa
    clear hRb
    obtain hP | ⟨zs, ps, hP, hZ⟩ := put_law hD.cat i k hi hk
    · have c1 := fun W (h : CatArg W C cc xs) (g : Glob W) => impl_PutBelow xs C cc i k W h g
      have c2 := fun W (h : CatArg W C cc xs) => spec_PutBelow xs C cc i k W h
      rw [hP] at c1 c2
      clear hP
      go_wp2_with fail
      refine Calls.mono (c1 _ hC hG) ?_
      rintro e w14 ⟨v14, rfl, hO14, hb14⟩
      obtain ⟨A14, cap14, rfl, hle14, hRp⟩ := hO14.slice
      clear hO14
      have hw14 := hw13.trans hb14
      replace hC := hC.ext hb14
      replace hG := hG.ext hb14
      clear hb14
      go_wp2_with fail
      refine Calls.mono (c2 _ hC) ?_
      rintro e w15 ⟨v15, rfl, hO15, hb15⟩
      obtain ⟨A15, cap15, rfl, hle15, hRq⟩ := hO15.slice
      clear hO15
      have hw15 := hw14.trans hb15
      replace hC := hC.ext hb15
      replace hG := hG.ext hb15
      replace hRp := hRp.ext hb15
      clear hb15
      have c3 := fun W h1 h2 => spec_SameCatalogue ([] : List Ent) [] A14 A15 cap14 cap15 W h1 h2 (by simp) (by simp)
      rw [eqL_refl entB entB_refl] at c3
      go_wp2_with fail
      refine Calls.mono (c3 _ hRp hRq) ?_
      rintro e w16 ⟨rfl, hb16⟩
      have hw16 := hw15.trans hb16
      replace hC := hC.ext hb16
      replace hG := hG.ext hb16
      replace hRp := hRp.ext hb16
      replace hRq := hRq.ext hb16
      clear hb16
      clear c1 c2 c3
      clear hRp hRq
      obtain ⟨hA1, hA2, hA3⟩ := hA.out
      replace hA3 := hd hA3
      replace hA2 := hd hA2
      clear hA
      have c1 := fun W (h : CatArg W C cc xs) (g : Glob W) => impl_AddEntry xs ⟨zzzT, -1, -1⟩ (by decide) C cc W h g
      rw [hA1] at c1
      clear hA1
      go_wp2_with fail
      refine Calls.mono (c1 _ hC hG) ?_
      rintro e w17 ⟨v17, rfl, hO17, hb17⟩
      obtain ⟨A17, cap17, rfl, hle17, hRz⟩ := hO17.slice
      clear hO17
      have hw17 := hw16.trans hb17
      replace hC := hC.ext hb17
      replace hG := hG.ext hb17
      clear hb17
      have hzz : CatArg w17 A17 cap17 (xs ++ [⟨zzzT, -1, -1⟩]) := ⟨hRz, hle17, by rw [List.length_append, List.length_singleton]; omega, hA3.out⟩
      have hzl : Hd ((xs ++ [(⟨zzzT, -1, -1⟩ : Ent)]).length = xs.length + 1) := hd (by rw [List.length_append, List.length_singleton])
      generalize xs ++ [(⟨zzzT, -1, -1⟩ : Ent)] = zs at *
      have c2 := fun W (h : CatArg W A17 cap17 zs) (g : Glob W) => impl_FindEntry zs A17 cap17 zzzT W h g
      rw [hA2.out] at c2
      clear c1 hRz hA2 hA3
      go_wp2_with fail
      refine Calls.mono (c2 _ hzz hG) ?_
      rintro e w18 ⟨rfl, hb18⟩
      have hw18 := hw17.trans hb18
      replace hC := hC.ext hb18
      replace hG := hG.ext hb18
      clear hb18
      have q8 : IntKind.i64.wrap ((xs.length : Int) + 1) = (xs.length : Int) + 1 := IntWalk.i64_in _ (by omega)
      have q9 : ((zs.length : Int) == (xs.length : Int) + 1) = true := by have := hzl.out; simp; omega
      clear c2 hzz
      go_wp2
      go_ret
      exact ⟨rfl, hw18⟩
    · have c1 := fun W (h : CatArg W C cc xs) (g : Glob W) => impl_PutBelow xs C cc i k W h g
      have c2 := fun W (h : CatArg W C cc xs) => spec_PutBelow xs C cc i k W h
      rw [hP] at c1 c2
      clear hP
      replace hZ := hd hZ
      go_wp2_with fail
      refine Calls.mono (c1 _ hC hG) ?_
      rintro e w19 ⟨v19, rfl, hO19, hb19⟩
      obtain ⟨A19, cap19, rfl, hle19, hRp⟩ := hO19.slice
      clear hO19
      have hw19 := hw13.trans hb19
      replace hC := hC.ext hb19
      replace hG := hG.ext hb19
      clear hb19
      go_wp2_with fail
      refine Calls.mono (c2 _ hC) ?_
      rintro e w20 ⟨v20, rfl, hO20, hb20⟩
      obtain ⟨A20, cap20, rfl, hle20, hRq⟩ := hO20.slice
      clear hO20
      have hw20 := hw19.trans hb20
      replace hC := hC.ext hb20
      replace hG := hG.ext hb20
      replace hRp := hRp.ext hb20
      clear hb20
      have lz : zs.length ≤ 1048576 := by have := hZ.out.1; omega
      have c3 := fun W h1 h2 => spec_SameCatalogue (zs : List Ent) zs A19 A20 cap19 cap20 W h1 h2 lz lz
      rw [eqL_refl entB entB_refl] at c3
      go_wp2_with fail
      refine Calls.mono (c3 _ hRp hRq) ?_
      rintro e w21 ⟨rfl, hb21⟩
      have hw21 := hw20.trans hb21
      replace hC := hC.ext hb21
      replace hG := hG.ext hb21
      replace hRp := hRp.ext hb21
      replace hRq := hRq.ext hb21
      clear hb21
      clear c1 c2 c3
      obtain ⟨hzl, hzc, hzn, hpp, lp1, lp2, p0, p1⟩ := hZ.out
      have okz : ∀ x ∈ zs, x.nm.size ≤ 9223372036854775807 := fun x hx => by have := hD.small _ (hzn x hx); omega
      have hCz : CatArg w21 A20 cap20 zs := ⟨hRq, hle20, lz, okz⟩
      have c4 := fun W (h : CatArg W A20 cap20 zs) (g : Glob W) => impl_PathUp zs A20 cap20 i W h g
      rw [hpp] at c4
      clear hzl hzc hzn hpp lp1 lp2 p0 p1 okz
      go_wp2_with fail
      refine Calls.mono (c4 _ hCz hG) ?_
      rintro e w22 ⟨v22, rfl, hO22, hb22⟩
      obtain ⟨A22, cap22, rfl, hle22, hRs⟩ := hO22.slice
      clear hO22
      have hw22 := hw21.trans hb22
      replace hC := hC.ext hb22
      replace hG := hG.ext hb22
      replace hRp := hRp.ext hb22
      replace hRq := hRq.ext hb22
      clear hb22
      obtain ⟨hzl, hzc, hzn, hpp, lp1, lp2, p0, p1⟩ := hZ.out
      obtain ⟨bP, oP, hAP, hltP, hrs⟩ := hRs 0 (by omega)
      clear hrs
      subst hAP
      have y0 := hRs.i64 0 (by omega)
      have y1 := hRs.i64 1 (by omega)
      have e0 : ps[0]'(by omega) = (i : Int) := Option.some.inj ((List.getElem?_eq_getElem (by omega)).symm.trans p0)
      have e1 : ps[1]'(by omega) = (k : Int) := Option.some.inj ((List.getElem?_eq_getElem (by omega)).symm.trans p1)
      rw [e0, Nat.add_zero] at y0
      rw [e1] at y1
      have q0 : (0 : Int) < ps.length := by omega
      have q1 : (1 : Int) < ps.length := by omega
      have q2 : ((ps.length : Int) < 2) = False := eq_false (by omega)
      clear c4 hCz e0 e1 p0 p1 hpp hZ hzl hzc hzn lp1 lp2 lz
      clear hRp hRq
      obtain ⟨hA1, hA2, hA3⟩ := hA.out
      replace hA3 := hd hA3
      replace hA2 := hd hA2
      clear hA
      have c1 := fun W (h : CatArg W C cc xs) (g : Glob W) => impl_AddEntry xs ⟨zzzT, -1, -1⟩ (by decide) C cc W h g
      rw [hA1] at c1
      clear hA1
      go_wp2_with fail
      refine Calls.mono (c1 _ hC hG) ?_
      rintro e w23 ⟨v23, rfl, hO23, hb23⟩
      obtain ⟨A23, cap23, rfl, hle23, hRz⟩ := hO23.slice
      clear hO23
      have hw23 := hw22.trans hb23
      replace hC := hC.ext hb23
      replace hG := hG.ext hb23
      clear hb23
      have hzz : CatArg w23 A23 cap23 (xs ++ [⟨zzzT, -1, -1⟩]) := ⟨hRz, hle23, by rw [List.length_append, List.length_singleton]; omega, hA3.out⟩
      have hzl : Hd ((xs ++ [(⟨zzzT, -1, -1⟩ : Ent)]).length = xs.length + 1) := hd (by rw [List.length_append, List.length_singleton])
      generalize xs ++ [(⟨zzzT, -1, -1⟩ : Ent)] = zs at *
      have c2 := fun W (h : CatArg W A23 cap23 zs) (g : Glob W) => impl_FindEntry zs A23 cap23 zzzT W h g
      rw [hA2.out] at c2
      clear c1 hRz hA2 hA3
      go_wp2_with fail
      refine Calls.mono (c2 _ hzz hG) ?_
      rintro e w24 ⟨rfl, hb24⟩
      have hw24 := hw23.trans hb24
      replace hC := hC.ext hb24
      replace hG := hG.ext hb24
      clear hb24
      have q8 : IntKind.i64.wrap ((xs.length : Int) + 1) = (xs.length : Int) + 1 := IntWalk.i64_in _ (by omega)
      have q9 : ((zs.length : Int) == (xs.length : Int) + 1) = true := by have := hzl.out; simp; omega
      clear c2 hzz
      go_wp2
      go_ret
      exact ⟨rfl, hw24⟩
  · have c1 := fun W (h : CatArg W C cc xs) (g : Glob W) => impl_MergeEntries xs C cc i k W h g
    have c2 := fun W (h : CatArg W C cc xs) => spec_MergeEntries xs C cc i k W h
    rw [hF] at c1 c2
    clear hF
    replace hY := hd hY
    go_wp2_with fail
    refine Calls.mono (c1 _ hC hG) ?_
    rintro e w25 ⟨v25, rfl, hO25, hb25⟩
    obtain ⟨A25, cap25, rfl, hle25, hRa⟩ := hO25.slice
    clear hO25
    have hw25 := hw4.trans hb25
    replace hC := hC.ext hb25
    replace hG := hG.ext hb25
    clear hb25
    go_wp2_with fail
    refine Calls.mono (c2 _ hC) ?_
    rintro e w26 ⟨v26, rfl, hO26, hb26⟩
    obtain ⟨A26, cap26, rfl, hle26, hRb⟩ := hO26.slice
    clear hO26
    have hw26 := hw25.trans hb26
    replace hC := hC.ext hb26
    replace hG := hG.ext hb26
    replace hRa := hRa.ext hb26
    clear hb26
    have ly : ys.length ≤ 1048576 := by have := hY.out.1; omega
    have c3 := fun W h1 h2 => spec_SameCatalogue (ys : List Ent) ys A25 A26 cap25 cap26 W h1 h2 ly ly
    rw [eqL_refl entB entB_refl] at c3
    go_wp2_with fail
    refine Calls.mono (c3 _ hRa hRb) ?_
    rintro e w27 ⟨rfl, hb27⟩
    have hw27 := hw26.trans hb27
    replace hC := hC.ext hb27
    replace hG := hG.ext hb27
    replace hRa := hRa.ext hb27
    replace hRb := hRb.ext hb27
    clear hb27
    clear c1 c2 c3 hRa
    obtain ⟨hyl, hyc, hyn, hp1, hp2, hx1, hx2, hall, hil, hjl⟩ := hY.out
    clear hY
    replace hall := hd hall
    have oky : ∀ x ∈ ys, x.nm.size ≤ 9223372036854775807 := fun x hx => by have := hD.small _ (hyn x hx); omega
    have hCy : CatArg w27 A26 cap26 ys := ⟨hRb, hle26, ly, oky⟩
    clear hRb oky hyn
    have c4 := fun W (h : CatArg W A26 cap26 ys) (g : Glob W) => impl_PreferredOf ys A26 cap26 i W h g
    have c5 := fun W (h : CatArg W A26 cap26 ys) (g : Glob W) => impl_PreferredOf ys A26 cap26 k W h g
    have c6 := fun W (h : CatArg W C cc xs) => spec_ExpandEntry xs C cc i W h
    have c7 := fun W (h : CatArg W A26 cap26 ys) (g : Glob W) => impl_ExpandEntry ys A26 cap26 k W h g
    have c8 := fun W (h : CatArg W A26 cap26 ys) (g : Glob W) => impl_ValidCat ys A26 cap26 W h g
    rw [hp1] at c4
    rw [hp2] at c5
    rw [hx1] at c6
    rw [hx2] at c7
    rw [hyc] at c8
    have q3 : ((ys.length : Int) != (xs.length : Int)) = false := by simp [hyl]
    clear hp1 hp2 hx1 hx2 hyl hyc
    replace hjl := hd hjl
    go_wp2_with fail
    refine Calls.mono (c4 _ hCy hG) ?_
    rintro e w28 ⟨rfl, hb28⟩
    have hw28 := hw27.trans hb28
    replace hC := hC.ext hb28
    replace hG := hG.ext hb28
    replace hCy := hCy.ext hb28
    clear hb28
    go_wp2_with fail
    refine Calls.mono (c5 _ hCy hG) ?_
    rintro e w29 ⟨rfl, hb29⟩
    have hw29 := hw28.trans hb29
    replace hC := hC.ext hb29
    replace hG := hG.ext hb29
    replace hCy := hCy.ext hb29
    clear hb29
    go_wp2_with fail
    refine Calls.mono (c6 _ hC) ?_
    rintro e w30 ⟨v30, rfl, hO30, hb30⟩
    obtain ⟨A30, cap30, rfl, hle30, hRi⟩ := hO30.slice
    clear hO30
    have hw30 := hw29.trans hb30
    replace hC := hC.ext hb30
    replace hG := hG.ext hb30
    replace hCy := hCy.ext hb30
    clear hb30
    go_wp2_with fail
    refine Calls.mono (c7 _ hCy hG) ?_
    rintro e w31 ⟨v31, rfl, hO31, hb31⟩
    obtain ⟨A31, cap31, rfl, hle31, hRj⟩ := hO31.slice
    clear hO31
    have hw31 := hw30.trans hb31
    replace hC := hC.ext hb31
    replace hG := hG.ext hb31
    replace hCy := hCy.ext hb31
    replace hRi := hRi.ext hb31
    clear hb31
    go_wp2_with fail
    refine Calls.mono (c8 _ hCy hG) ?_
    rintro e w32 ⟨rfl, hb32⟩
    have hw32 := hw31.trans hb32
    replace hC := hC.ext hb32
    replace hG := hG.ext hb32
    replace hCy := hCy.ext hb32
    replace hRi := hRi.ext hb32
    replace hRj := hRj.ext hb32
    clear hb32
    clear c4 c5 c6 c7 c8 hCy ly
    go_wp2
    go_loopg [21] is.length (fun g mv wr => ∃ q : Nat, g = is.length - q ∧ q ≤ is.length ∧ mv = .int .i64 q ∧ Ext w32 wr)
    case atStart => exact ⟨0, by omega, by omega, rfl, Ext.refl _⟩
    case round =>
      obtain ⟨q, hg, hq, rfl, hr⟩ := hrel
      by_cases hql : q < is.length
      · have hRir := hRi.ext hr
        obtain ⟨bI, oI, hAI, hltI, _⟩ := hRir q hql
        subst hAI
        have y0 := hRir.i64 q hql
        have c9 := fun W h => spec_A2Has js A31 cap31 is[q] W h (by have := hjl.out; omega)
        rw [hall.out _ (List.getElem_mem hql)] at c9
        have q4 : (q : Int) < is.length := by omega
        generalize is[q] = x at y0 c9
        clear hall
        go_wp2_with fail
        refine Calls.mono (c9 _ (hRj.ext hr)) ?_
        rintro e wq ⟨rfl, hbq⟩
        clear c9
        go_wp2
        go_roundg (is.length - (q + 1))
        case rel => exact ⟨q + 1, rfl, hql, rfl, hr.trans hbq⟩
        case measure => omega
      · obtain rfl : q = is.length := by omega
        have hwl := hw32.trans hr
        replace hC := hC.ext hr
        replace hG := hG.ext hr
        clear hr hRi hRj hall hg hq hql
        obtain hP | ⟨zs, ps, hP, hZ⟩ := put_law hD.cat i k hi hk
        · have c1 := fun W (h : CatArg W C cc xs) (g : Glob W) => impl_PutBelow xs C cc i k W h g
          have c2 := fun W (h : CatArg W C cc xs) => spec_PutBelow xs C cc i k W h
          rw [hP] at c1 c2
          clear hP
          go_wp2_with fail
          refine Calls.mono (c1 _ hC hG) ?_
          rintro e w33 ⟨v33, rfl, hO33, hb33⟩
          obtain ⟨A33, cap33, rfl, hle33, hRp⟩ := hO33.slice
          clear hO33
          have hw33 := hwl.trans hb33
          replace hC := hC.ext hb33
          replace hG := hG.ext hb33
          clear hb33
          go_wp2_with fail
          refine Calls.mono (c2 _ hC) ?_
          rintro e w34 ⟨v34, rfl, hO34, hb34⟩
          obtain ⟨A34, cap34, rfl, hle34, hRq⟩ := hO34.slice
          clear hO34
          have hw34 := hw33.trans hb34
          replace hC := hC.ext hb34
          replace hG := hG.ext hb34
          replace hRp := hRp.ext hb34
          clear hb34
          have c3 := fun W h1 h2 => spec_SameCatalogue ([] : List Ent) [] A33 A34 cap33 cap34 W h1 h2 (by simp) (by simp)
          rw [eqL_refl entB entB_refl] at c3
          go_wp2_with fail
          refine Calls.mono (c3 _ hRp hRq) ?_
          rintro e w35 ⟨rfl, hb35⟩
          have hw35 := hw34.trans hb35
          replace hC := hC.ext hb35
          replace hG := hG.ext hb35
          replace hRp := hRp.ext hb35
          replace hRq := hRq.ext hb35
          clear hb35
          clear c1 c2 c3
          clear hRp hRq
          obtain ⟨hA1, hA2, hA3⟩ := hA.out
          replace hA3 := hd hA3
          replace hA2 := hd hA2
          clear hA
          have c1 := fun W (h : CatArg W C cc xs) (g : Glob W) => impl_AddEntry xs ⟨zzzT, -1, -1⟩ (by decide) C cc W h g
          rw [hA1] at c1
          clear hA1
          go_wp2_with fail
          refine Calls.mono (c1 _ hC hG) ?_
          rintro e w36 ⟨v36, rfl, hO36, hb36⟩
          obtain ⟨A36, cap36, rfl, hle36, hRz⟩ := hO36.slice
          clear hO36
          have hw36 := hw35.trans hb36
          replace hC := hC.ext hb36
          replace hG := hG.ext hb36
          clear hb36
          have hzz : CatArg w36 A36 cap36 (xs ++ [⟨zzzT, -1, -1⟩]) := ⟨hRz, hle36, by rw [List.length_append, List.length_singleton]; omega, hA3.out⟩
          have hzl : Hd ((xs ++ [(⟨zzzT, -1, -1⟩ : Ent)]).length = xs.length + 1) := hd (by rw [List.length_append, List.length_singleton])
          generalize xs ++ [(⟨zzzT, -1, -1⟩ : Ent)] = zs at *
          have c2 := fun W (h : CatArg W A36 cap36 zs) (g : Glob W) => impl_FindEntry zs A36 cap36 zzzT W h g
          rw [hA2.out] at c2
          clear c1 hRz hA2 hA3
          go_wp2_with fail
          refine Calls.mono (c2 _ hzz hG) ?_
          rintro e w37 ⟨rfl, hb37⟩
          have hw37 := hw36.trans hb37
          replace hC := hC.ext hb37
          replace hG := hG.ext hb37
          clear hb37
          have q8 : IntKind.i64.wrap ((xs.length : Int) + 1) = (xs.length : Int) + 1 := IntWalk.i64_in _ (by omega)
          have q9 : ((zs.length : Int) == (xs.length : Int) + 1) = true := by have := hzl.out; simp; omega
          clear c2 hzz
          go_wp2
          go_ret
          exact ⟨rfl, hw37⟩
        · have c1 := fun W (h : CatArg W C cc xs) (g : Glob W) => impl_PutBelow xs C cc i k W h g
          have c2 := fun W (h : CatArg W C cc xs) => spec_PutBelow xs C cc i k W h
          rw [hP] at c1 c2
          clear hP
          replace hZ := hd hZ
          go_wp2_with fail
          refine Calls.mono (c1 _ hC hG) ?_
          rintro e w38 ⟨v38, rfl, hO38, hb38⟩
          obtain ⟨A38, cap38, rfl, hle38, hRp⟩ := hO38.slice
          clear hO38
          have hw38 := hwl.trans hb38
          replace hC := hC.ext hb38
          replace hG := hG.ext hb38
          clear hb38
          go_wp2_with fail
          refine Calls.mono (c2 _ hC) ?_
          rintro e w39 ⟨v39, rfl, hO39, hb39⟩
          obtain ⟨A39, cap39, rfl, hle39, hRq⟩ := hO39.slice
          clear hO39
          have hw39 := hw38.trans hb39
          replace hC := hC.ext hb39
          replace hG := hG.ext hb39
          replace hRp := hRp.ext hb39
          clear hb39
          have lz : zs.length ≤ 1048576 := by have := hZ.out.1; omega
          have c3 := fun W h1 h2 => spec_SameCatalogue (zs : List Ent) zs A38 A39 cap38 cap39 W h1 h2 lz lz
          rw [eqL_refl entB entB_refl] at c3
          go_wp2_with fail
          refine Calls.mono (c3 _ hRp hRq) ?_
          rintro e w40 ⟨rfl, hb40⟩
          have hw40 := hw39.trans hb40
          replace hC := hC.ext hb40
          replace hG := hG.ext hb40
          replace hRp := hRp.ext hb40
          replace hRq := hRq.ext hb40
          clear hb40
          clear c1 c2 c3
          obtain ⟨hzl, hzc, hzn, hpp, lp1, lp2, p0, p1⟩ := hZ.out
          have okz : ∀ x ∈ zs, x.nm.size ≤ 9223372036854775807 := fun x hx => by have := hD.small _ (hzn x hx); omega
          have hCz : CatArg w40 A39 cap39 zs := ⟨hRq, hle39, lz, okz⟩
          have c4 := fun W (h : CatArg W A39 cap39 zs) (g : Glob W) => impl_PathUp zs A39 cap39 i W h g
          rw [hpp] at c4
          clear hzl hzc hzn hpp lp1 lp2 p0 p1 okz
          go_wp2_with fail
          refine Calls.mono (c4 _ hCz hG) ?_
          rintro e w41 ⟨v41, rfl, hO41, hb41⟩
          obtain ⟨A41, cap41, rfl, hle41, hRs⟩ := hO41.slice
          clear hO41
          have hw41 := hw40.trans hb41
          replace hC := hC.ext hb41
          replace hG := hG.ext hb41
          replace hRp := hRp.ext hb41
          replace hRq := hRq.ext hb41
          clear hb41
          obtain ⟨hzl, hzc, hzn, hpp, lp1, lp2, p0, p1⟩ := hZ.out
          obtain ⟨bP, oP, hAP, hltP, hrs⟩ := hRs 0 (by omega)
          clear hrs
          subst hAP
          have y0 := hRs.i64 0 (by omega)
          have y1 := hRs.i64 1 (by omega)
          have e0 : ps[0]'(by omega) = (i : Int) := Option.some.inj ((List.getElem?_eq_getElem (by omega)).symm.trans p0)
          have e1 : ps[1]'(by omega) = (k : Int) := Option.some.inj ((List.getElem?_eq_getElem (by omega)).symm.trans p1)
          rw [e0, Nat.add_zero] at y0
          rw [e1] at y1
          have q0 : (0 : Int) < ps.length := by omega
          have q1 : (1 : Int) < ps.length := by omega
          have q2 : ((ps.length : Int) < 2) = False := eq_false (by omega)
          clear c4 hCz e0 e1 p0 p1 hpp hZ hzl hzc hzn lp1 lp2 lz
          clear hRp hRq
          obtain ⟨hA1, hA2, hA3⟩ := hA.out
          replace hA3 := hd hA3
          replace hA2 := hd hA2
          clear hA
          have c1 := fun W (h : CatArg W C cc xs) (g : Glob W) => impl_AddEntry xs ⟨zzzT, -1, -1⟩ (by decide) C cc W h g
          rw [hA1] at c1
          clear hA1
          go_wp2_with fail
          refine Calls.mono (c1 _ hC hG) ?_
          rintro e w42 ⟨v42, rfl, hO42, hb42⟩
          obtain ⟨A42, cap42, rfl, hle42, hRz⟩ := hO42.slice
          clear hO42
          have hw42 := hw41.trans hb42
          replace hC := hC.ext hb42
          replace hG := hG.ext hb42
          clear hb42
          have hzz : CatArg w42 A42 cap42 (xs ++ [⟨zzzT, -1, -1⟩]) := ⟨hRz, hle42, by rw [List.length_append, List.length_singleton]; omega, hA3.out⟩
          have hzl : Hd ((xs ++ [(⟨zzzT, -1, -1⟩ : Ent)]).length = xs.length + 1) := hd (by rw [List.length_append, List.length_singleton])
          generalize xs ++ [(⟨zzzT, -1, -1⟩ : Ent)] = zs at *
          have c2 := fun W (h : CatArg W A42 cap42 zs) (g : Glob W) => impl_FindEntry zs A42 cap42 zzzT W h g
          rw [hA2.out] at c2
          clear c1 hRz hA2 hA3
          go_wp2_with fail
          refine Calls.mono (c2 _ hzz hG) ?_
          rintro e w43 ⟨rfl, hb43⟩
          have hw43 := hw42.trans hb43
          replace hC := hC.ext hb43
          replace hG := hG.ext hb43
          clear hb43
          have q8 : IntKind.i64.wrap ((xs.length : Int) + 1) = (xs.length : Int) + 1 := IntWalk.i64_in _ (by omega)
          have q9 : ((zs.length : Int) == (xs.length : Int) + 1) = true := by have := hzl.out; simp; omega
          clear c2 hzz
          go_wp2
          go_ret
          exact ⟨rfl, hw43⟩
end Go.Proofs.YtmphnocgihegbaaDoor
