/-
  Contracts of ValuesOf, program's and reference's, and of the laws' marks on fields.
-/
import Derived.Test.YtknbebglabpegaaDoorF19
import Derived.Test.YtknbebglabpegaaDoorF20
import Derived.Test.YtknbebglabpegaaDoorK1
import Derived.Test.YtknbebglabpegaaDoorMA
import Derived.Test.YtknbebglabpegaaDoorL5
set_option linter.unusedVariables false
set_option linter.unusedSimpArgs false
set_option maxRecDepth 100000
namespace Go.Proofs.YtknbebglabpegaaDoor
open Go.RowKit
/-- A field's value in a mask, -1 if there is none. -/
def valF (m : Mask) (f : Fld) : Int := if (valueF f m).2 = 6 then -1 else (valueF f m).1
/-- Can a field be read? -/
def readsB (m : Mask) (f : Fld) : Bool := !decide ((valueF f m).2 = 8)
/-- What ValuesOf returns. -/
def valuesF (xs : List Fld) (c : Crd) : List Int × Int :=
  if (schB xs && isCardB c) = true then (if xs.all (readsB c.m) = true then (xs.map (valF c.m), 0) else ([], 8)) else ([], 1)
theorem values_bad {xs : List Fld} {c : Crd} (h : (schB xs && isCardB c) = false) : valuesF xs c = ([], 1) := by unfold valuesF; rw [h]; rfl
theorem values_err {xs : List Fld} {c : Crd} (h : (schB xs && isCardB c) = true) (k : Nat) (hk : k < xs.length) (h8 : (valueF xs[k] c.m).2 = 8) : valuesF xs c = ([], 8) := by
  unfold valuesF
  rw [if_pos h, all_miss (readsB c.m) xs k hk (by unfold readsB; rw [decide_eq_true h8]; rfl)]
  rfl
theorem values_good {xs : List Fld} {c : Crd} (h : (schB xs && isCardB c) = true) (ha : xs.all (readsB c.m) = true) : valuesF xs c = (xs.map (valF c.m), 0) := by unfold valuesF; rw [if_pos h, if_pos ha]
theorem values_len (xs : List Fld) (c : Crd) (h : xs.length ≤ 1048576) : (valuesF xs c).1.length ≤ 1048576 := by
  unfold valuesF
  split
  · split
    · simpa using h
    · simp
  · simp
theorem map_take_succ {α β : Type} (f : α → β) (xs : List α) (k : Nat) (hk : k < xs.length) : (xs.take (k + 1)).map f = (xs.take k).map f ++ [f xs[k]] := by rw [List.take_succ_eq_append_getElem hk, List.map_append]; rfl
attribute [irreducible] valuesF
set_option maxHeartbeats 1000000 in
theorem laws_markFieldS (xs : List Fld) (v : Value) (k base : Nat) (w : World) (hO : Ow encFld 31 w base v xs) (hn : xs.length ≤ 1048576) (hk : k ≤ 1048576) :
    Calls Tryd.prog 37 #[v, .int .i64 k] w fun e w' => e = .returned (.int .i64 ((k : Int) + 4 * xs.length)) ∧ w.grownBy w' v.ownBlock := by
  rcases hO.shape with ⟨rfl, rfl⟩ | ⟨g, cap, rfl, hg, hgl⟩
  · go_enter Tryd.func37, Tryd.ntmps37
    go_wp2
    refine wp_loop_rounds 1 ?_
    rw [rounds_succ]
    go_wp2
    go_ret
    exact ⟨by simp, grownBy_refl _ _⟩
  · go_enter Tryd.func37, Tryd.ntmps37
    go_wp2
    go_loopg [5, 1] xs.length (fun g' i m wr => ∃ (j q : Nat) (ys : List Fld), g' = xs.length - j ∧ j ≤ xs.length ∧ i = .int .i64 j ∧ m = .int .i64 q ∧ q = k + 4 * j ∧ ys.length = xs.length ∧ Ow encFld 31 wr base (.slice (some ⟨g, 0, none⟩) xs.length cap) ys ∧ w.grownBy wr (some g))
    case atStart => exact ⟨0, k, xs, by omega, by omega, rfl, rfl, rfl, rfl, hO, grownBy_refl _ _⟩
    case round =>
      obtain ⟨j, q, ys, hg', hj, rfl, rfl, hq, hys, hO', hgr⟩ := hrel
      have hq2 := hd hq
      have hqb : q ≤ 10000000 := by omega
      have hys2 := hd hys
      by_cases hjl : j < xs.length
      · have hjy : j < ys.length := by omega
        clear hq hys
        go_wp2_with fail
        refine Calls.mono (laws_markText q (by omega) _) ?_
        rintro e w1 ⟨rfl, hb1⟩
        have hO1 := hO'.ext hb1
        have hgr1 := grownBy_ext hgr hb1
        clear hO' hgr hb1
        obtain ⟨c0, c1, c2, c3, hbl⟩ := hO1.rd.fld j hjy
        simp only [Nat.zero_add] at c0 c1 c2 c3
        have f0 := hO1.frozen (j * 4)
        have f1 := hO1.frozen (j * 4 + 1)
        have f2 := hO1.frozen (j * 4 + 2)
        have f3 := hO1.frozen (j * 4 + 3)
        obtain ⟨a1, ha1⟩ : ∃ a, IntKind.i8.wrap ((q : Int) + 1) = a := ⟨_, rfl⟩
        obtain ⟨a2, ha2⟩ : ∃ a, IntKind.i16.wrap ((q : Int) + 1 + 1) = a := ⟨_, rfl⟩
        obtain ⟨a3, ha3⟩ : ∃ a, IntKind.i16.wrap ((q : Int) + 1 + 1 + 1) = a := ⟨_, rfl⟩
        have z0 := hO1.set1 j 0 (.string (markS q)) ⟨markS q, ys[j].kd, ys[j].st, ys[j].sz⟩ hjy (by decide) rfl
        have z1 := z0.set1 j 1 (.int .i8 a1) ⟨markS q, a1, ys[j].st, ys[j].sz⟩ (by rw [List.length_set]; exact hjy) (by decide) (by rw [List.getElem_set_self]; rfl)
        have z2 := z1.set1 j 2 (.int .i16 a2) ⟨markS q, a1, a2, ys[j].sz⟩ (by rw [List.length_set, List.length_set]; exact hjy) (by decide) (by rw [List.getElem_set_self]; rfl)
        have z3 := z2.set1 j 3 (.int .i16 a3) ⟨markS q, a1, a2, a3⟩ (by rw [List.length_set, List.length_set, List.length_set]; exact hjy) (by decide) (by rw [List.getElem_set_self]; rfl)
        rw [show j * encFld.sz + 0 = j * 4 from rfl, show j * encFld.sz + 1 = j * 4 + 1 from rfl, show j * encFld.sz + 2 = j * 4 + 2 from rfl, show j * encFld.sz + 3 = j * 4 + 3 from rfl] at z3
        have g2 := grownBy_set (grownBy_set (grownBy_set (grownBy_set hgr1 (j * 4) (.string (markS q))) (j * 4 + 1) (.int .i8 a1)) (j * 4 + 2) (.int .i16 a2)) (j * 4 + 3) (.int .i16 a3)
        clear z0 z1 z2 hO1 hgr1
        go_wp2
        go_roundg (xs.length - (j + 1))
        case rel => exact ⟨j + 1, q + 4, _, rfl, hjl, rfl, by rw [show ((q + 4 : Nat) : Int) = (q : Int) + 1 + 1 + 1 + 1 by omega], by rw [hq2.out]; omega, by simp only [List.length_set]; exact hys2.out, z3, g2⟩
        case measure => omega
      · obtain rfl : j = xs.length := by omega
        subst hq
        go_wp2
        go_ret
        exact ⟨by simp, hgr⟩
set_option maxHeartbeats 2000000 in
theorem impl_ValuesOf (xs : List Fld) (A : Option Addr) (cap : Nat) (c : Crd) (w : World) (hR : Rd encFld w A xs) (hcap : xs.length ≤ cap) (hn : xs.length ≤ 1048576) (hok : ∀ x ∈ xs, FldIn x) (hnm : c.nm.size ≤ 9223372036854775807) :
    Calls Tryd.prog 35 #[.slice A xs.length cap, .agg #[.string c.nm, .int .u64 (lo c.m), .int .u64 (hi c.m)]] w fun e w' => ∃ v, e = .returned (.tuple #[v, .int .i64 (valuesF xs c).2]) ∧ Ow encI64 2 w' w.heap.size v (valuesF xs c).1 ∧ Ext w w' := by
  have hx := @ExtOf.cell
  have his := fun (W : World) (h : Ext w W) => impl_isScheme xs A cap W (hR.ext h) hcap hn hok
  cases hs : schB xs with
  | false =>
    have hv := hd (values_bad (xs := xs) (c := c) (by rw [hs]; rfl))
    rw [hs] at his
    go_enter Tryd.func35, Tryd.ntmps35
    go_wp2_with fail
    refine Calls.mono (his _ (by ((repeat (first | with_reducible exact Ext.refl _ | with_reducible exact hw | with_reducible exact hb9 | with_reducible exact hb8 | with_reducible exact hb7 | with_reducible exact hb6 | with_reducible exact hb5 | with_reducible exact hb4 | with_reducible exact hb3 | with_reducible exact hb2 | with_reducible exact hb1 | with_reducible refine Ext.alloc ?_ _ | with_reducible refine Ext.drew ?_ | ((with_reducible refine Ext.set ?_ ?_ _); focus (dsimp only; omega)) | with_reducible refine Ext.trans ?_ hb9 | with_reducible refine Ext.trans ?_ hb8 | with_reducible refine Ext.trans ?_ hb7 | with_reducible refine Ext.trans ?_ hb6 | with_reducible refine Ext.trans ?_ hb5 | with_reducible refine Ext.trans ?_ hb4 | with_reducible refine Ext.trans ?_ hb3 | with_reducible refine Ext.trans ?_ hb2 | with_reducible refine Ext.trans ?_ hb1 | with_reducible refine Ext.trans ?_ hw))))) ?_
    rintro e w1 ⟨rfl, hb1⟩
    go_wp2
    refine bodyPost_ret (v := .tuple #[.slice none 0 0, .int .i64 1]) (by simp [results, Tryd.results35, go_sem]) rfl ⟨_, by rw [hv.out], by rw [hv.out]; exact Ow.nil _ _ _ _, by ((repeat (first | with_reducible exact Ext.refl _ | with_reducible exact hw | with_reducible exact hb9 | with_reducible exact hb8 | with_reducible exact hb7 | with_reducible exact hb6 | with_reducible exact hb5 | with_reducible exact hb4 | with_reducible exact hb3 | with_reducible exact hb2 | with_reducible exact hb1 | with_reducible refine Ext.alloc ?_ _ | with_reducible refine Ext.drew ?_ | ((with_reducible refine Ext.set ?_ ?_ _); focus (dsimp only; omega)) | with_reducible refine Ext.trans ?_ hb9 | with_reducible refine Ext.trans ?_ hb8 | with_reducible refine Ext.trans ?_ hb7 | with_reducible refine Ext.trans ?_ hb6 | with_reducible refine Ext.trans ?_ hb5 | with_reducible refine Ext.trans ?_ hb4 | with_reducible refine Ext.trans ?_ hb3 | with_reducible refine Ext.trans ?_ hb2 | with_reducible refine Ext.trans ?_ hb1 | with_reducible refine Ext.trans ?_ hw)))⟩
  | true =>
    rw [hs] at his
    have hic := fun W => impl_isCard c hnm W
    cases hc : isCardB c with
    | false =>
      have hv := hd (values_bad (xs := xs) (c := c) (by rw [hs, hc]; rfl))
      rw [hc] at hic
      go_enter Tryd.func35, Tryd.ntmps35
      go_wp2_with fail
      refine Calls.mono (his _ (by ((repeat (first | with_reducible exact Ext.refl _ | with_reducible exact hw | with_reducible exact hb9 | with_reducible exact hb8 | with_reducible exact hb7 | with_reducible exact hb6 | with_reducible exact hb5 | with_reducible exact hb4 | with_reducible exact hb3 | with_reducible exact hb2 | with_reducible exact hb1 | with_reducible refine Ext.alloc ?_ _ | with_reducible refine Ext.drew ?_ | ((with_reducible refine Ext.set ?_ ?_ _); focus (dsimp only; omega)) | with_reducible refine Ext.trans ?_ hb9 | with_reducible refine Ext.trans ?_ hb8 | with_reducible refine Ext.trans ?_ hb7 | with_reducible refine Ext.trans ?_ hb6 | with_reducible refine Ext.trans ?_ hb5 | with_reducible refine Ext.trans ?_ hb4 | with_reducible refine Ext.trans ?_ hb3 | with_reducible refine Ext.trans ?_ hb2 | with_reducible refine Ext.trans ?_ hb1 | with_reducible refine Ext.trans ?_ hw))))) ?_
      rintro e w1 ⟨rfl, hb1⟩
      obtain ⟨hc1, hf1, hz1⟩ := bcell3 hb1
      try simp at hz1
      have hz1_0 : w.heap.size < w1.heap.size := by omega
      go_wp2_with fail
      refine Calls.mono (hic _) ?_
      rintro e w2 ⟨rfl, hb2⟩
      go_wp2
      refine bodyPost_ret (v := .tuple #[.slice none 0 0, .int .i64 1]) (by simp [results, Tryd.results35, go_sem]) rfl ⟨_, by rw [hv.out], by rw [hv.out]; exact Ow.nil _ _ _ _, by ((repeat (first | with_reducible exact Ext.refl _ | with_reducible exact hw | with_reducible exact hb9 | with_reducible exact hb8 | with_reducible exact hb7 | with_reducible exact hb6 | with_reducible exact hb5 | with_reducible exact hb4 | with_reducible exact hb3 | with_reducible exact hb2 | with_reducible exact hb1 | with_reducible refine Ext.alloc ?_ _ | with_reducible refine Ext.drew ?_ | ((with_reducible refine Ext.set ?_ ?_ _); focus (dsimp only; omega)) | with_reducible refine Ext.trans ?_ hb9 | with_reducible refine Ext.trans ?_ hb8 | with_reducible refine Ext.trans ?_ hb7 | with_reducible refine Ext.trans ?_ hb6 | with_reducible refine Ext.trans ?_ hb5 | with_reducible refine Ext.trans ?_ hb4 | with_reducible refine Ext.trans ?_ hb3 | with_reducible refine Ext.trans ?_ hb2 | with_reducible refine Ext.trans ?_ hb1 | with_reducible refine Ext.trans ?_ hw)))⟩
    | true =>
      rw [hc] at hic
      have hsc : (schB xs && isCardB c) = true := by rw [hs, hc]; rfl
      have herr := fun k h1 h2 => hd (values_err hsc k h1 h2)
      have hgood := fun h => hd (values_good hsc h)
      go_enter Tryd.func35, Tryd.ntmps35
      go_wp2_with fail
      refine Calls.mono (his _ (by ((repeat (first | with_reducible exact Ext.refl _ | with_reducible exact hw | with_reducible exact hb9 | with_reducible exact hb8 | with_reducible exact hb7 | with_reducible exact hb6 | with_reducible exact hb5 | with_reducible exact hb4 | with_reducible exact hb3 | with_reducible exact hb2 | with_reducible exact hb1 | with_reducible refine Ext.alloc ?_ _ | with_reducible refine Ext.drew ?_ | ((with_reducible refine Ext.set ?_ ?_ _); focus (dsimp only; omega)) | with_reducible refine Ext.trans ?_ hb9 | with_reducible refine Ext.trans ?_ hb8 | with_reducible refine Ext.trans ?_ hb7 | with_reducible refine Ext.trans ?_ hb6 | with_reducible refine Ext.trans ?_ hb5 | with_reducible refine Ext.trans ?_ hb4 | with_reducible refine Ext.trans ?_ hb3 | with_reducible refine Ext.trans ?_ hb2 | with_reducible refine Ext.trans ?_ hb1 | with_reducible refine Ext.trans ?_ hw))))) ?_
      rintro e w1 ⟨rfl, hb1⟩
      obtain ⟨hc1, hf1, hz1⟩ := bcell3 hb1
      try simp at hz1
      have hz1_0 : w.heap.size < w1.heap.size := by omega
      go_wp2_with fail
      refine Calls.mono (hic _) ?_
      rintro e w2 ⟨rfl, hb2⟩
      have b0 : w2.cell? ⟨w.heap.size, 0, none⟩ = some (.string c.nm) := hb2.cell (by go_simp)
      have b1 : w2.cell? ⟨w.heap.size, 1, none⟩ = some (.int .u64 (lo c.m)) := hb2.cell (by go_simp)
      have b2 : w2.cell? ⟨w.heap.size, 2, none⟩ = some (.int .u64 (hi c.m)) := hb2.cell (by go_simp)
      have hw2 : Ext w w2 := by ((repeat (first | with_reducible exact Ext.refl _ | with_reducible exact hw | with_reducible exact hb9 | with_reducible exact hb8 | with_reducible exact hb7 | with_reducible exact hb6 | with_reducible exact hb5 | with_reducible exact hb4 | with_reducible exact hb3 | with_reducible exact hb2 | with_reducible exact hb1 | with_reducible refine Ext.alloc ?_ _ | with_reducible refine Ext.drew ?_ | ((with_reducible refine Ext.set ?_ ?_ _); focus (dsimp only; omega)) | with_reducible refine Ext.trans ?_ hb9 | with_reducible refine Ext.trans ?_ hb8 | with_reducible refine Ext.trans ?_ hb7 | with_reducible refine Ext.trans ?_ hb6 | with_reducible refine Ext.trans ?_ hb5 | with_reducible refine Ext.trans ?_ hb4 | with_reducible refine Ext.trans ?_ hb3 | with_reducible refine Ext.trans ?_ hb2 | with_reducible refine Ext.trans ?_ hb1 | with_reducible refine Ext.trans ?_ hw)))
      clear hc1 hf1 hb1 hb2 hz1 hz1_0 his hic
      go_wp2
      go_loopg [6, 22] xs.length (fun g v i wr => ∃ k : Nat, g = xs.length - k ∧ k ≤ xs.length ∧ i = .int .i64 k ∧ Ext w2 wr ∧ Hd ((xs.take k).all (readsB c.m) = true) ∧ Ow encI64 2 wr w2.heap.size v ((xs.take k).map (valF c.m)))
      case atStart => exact ⟨0, by omega, by omega, rfl, (Ext.refl _).alloc _, hd rfl, Ow.made0 rfl (Nat.le_refl _)⟩
      case round =>
        obtain ⟨k, hg, hk, rfl, hw, hQ, hO⟩ := hrel
        have b0 := hw.cell b0
        have b1 := hw.cell b1
        have b2 := hw.cell b2
        have lb := World.block_lt_of_cell? _ _ b0
        dsimp only at lb
        by_cases hkl : k < xs.length
        · obtain ⟨b, off, hA, hlt, _⟩ := hR k hkl
          subst hA
          obtain ⟨m0, m1, m2, m3, m4⟩ := (hR.ext (hw2.trans hw)).fld k hkl
          have hf := (sch_all hs).2 k hkl
          have hde := fun W => impl_decode xs[k].nm xs[k].kd xs[k].st xs[k].sz hf c.m W
          change ∀ W, Calls _ _ _ W fun e w' => e = .returned (.tuple #[.int .i64 (valueF xs[k] c.m).1, .int .i64 (valueF xs[k] c.m).2]) ∧ Ext W w' at hde
          have hms := hd (map_take_succ (valF c.m) xs k hkl)
          have hel := hd (show valF c.m xs[k] = if (valueF xs[k] c.m).2 = 6 then -1 else (valueF xs[k] c.m).1 from rfl)
          have her := herr k hkl
          have hall := all_take (readsB c.m) xs k hkl
          rw [hQ.out, Bool.true_and] at hall
          have hal2 := fun (h : ¬ (valueF xs[k] c.m).2 = 8) => hd (show (xs.take (k + 1)).all (readsB c.m) = true by rw [hall]; unfold readsB; rw [decide_eq_false h]; rfl)
          clear hall herr
          have hlen : ((xs.take k).map (valF c.m)).length = k := by rw [List.length_map, List.length_take]; omega
          have hlen2 := hd hlen
          clear hlen
          generalize (xs.take k).map (valF c.m) = ys at hO hms hlen2
          have hyl : ys.length ≤ 1048576 := by have := hlen2.out; omega
          generalize valueF xs[k] c.m = q at hde hel her hal2
          obtain ⟨n, code⟩ := q
          dsimp only at hde hel her hal2
          generalize valF c.m xs[k] = x at hms hel
          have bF : BoxAt (wr.alloc (.cells #[.string xs[k].nm, .int .i8 xs[k].kd, .int .i16 xs[k].st, .int .i16 xs[k].sz] 31)) wr.heap.size #[.string xs[k].nm, .int .i8 xs[k].kd, .int .i16 xs[k].st, .int .i16 xs[k].sz] 31 := BoxAt.new' rfl
          go_wp2_with fail
          refine Calls.mono (hde _) ?_
          rintro e w5 ⟨rfl, hb5⟩
          have hW5 : Ext w2 w5 := (hw.alloc (.cells #[.string xs[k].nm, .int .i8 xs[k].kd, .int .i16 xs[k].st, .int .i16 xs[k].sz] 31)).trans hb5
          have hO5 : Ow encI64 2 w5 w2.heap.size _ ys := (hO.ext ((Ext.refl wr).alloc _)).ext hb5
          clear hb5 hO bF
          by_cases q8 : code = 8
          · have hv := her q8
            subst q8
            go_wp2
            refine bodyPost_ret (v := .tuple #[.slice none 0 0, .int .i64 8]) (by simp [results, Tryd.results35, go_sem]) rfl ⟨_, by rw [hv.out], by rw [hv.out]; exact Ow.nil _ _ _ _, hw2.trans hW5⟩
          · have hQ2 := hal2 q8
            by_cases q6 : code = 6
            · have hx := hd (hel.out.trans (if_pos q6))
              subst q6
              clear hel her hal2
              go_wp2_with (at_builtin; refine wpList_push2 (w0 := w2) (base := w2.heap.size) (xs := ys) encI64 (by rfl) _ _ 44 (.int .i64 0) 8 (by rfl) Tryd.underlying44 info_i64 (by rfl) ((-1 : Int)) (by rfl) (by rfl) (by simp) (hO5) ((hW5 : Ext w2 _).size) (Nat.le_refl _) (hW5) (by omega) (by omega) ?_)
              intro v6 w6 hO6 hb6 hg6 _
              go_wp2
              go_roundg (xs.length - (k + 1))
              case rel => exact ⟨k + 1, rfl, hkl, by simp, hb6, hQ2, by rw [hms.out, hx.out]; exact hO6⟩
              case measure => omega
            · have hx := hd (hel.out.trans (if_neg q6))
              have e6 : (code == 6) = false := by simp [q6]
              have e8 : (code == 8) = false := by simp [q8]
              clear hel her hal2
              go_wp2_with (at_builtin; refine wpList_push2 (w0 := w2) (base := w2.heap.size) (xs := ys) encI64 (by rfl) _ _ 44 (.int .i64 0) 8 (by rfl) Tryd.underlying44 info_i64 (by rfl) (n) (by rfl) (by rfl) (by simp) (hO5) ((hW5 : Ext w2 _).size) (Nat.le_refl _) (hW5) (by omega) (by omega) ?_)
              intro v6 w6 hO6 hb6 hg6 _
              go_wp2
              go_roundg (xs.length - (k + 1))
              case rel => exact ⟨k + 1, rfl, hkl, by simp, hb6, hQ2, by rw [hms.out, hx.out]; exact hO6⟩
              case measure => omega
        · obtain rfl : k = xs.length := by omega
          have hQ2 := hQ.out
          rw [List.take_length] at hQ2 hO
          have hv := hgood hQ2
          clear hQ2 hQ hgood herr
          generalize xs.map (valF c.m) = ys at hO hv
          go_wp2
          refine bodyPost_ret (v := .tuple #[_, .int .i64 0]) (by simp [results, Tryd.results35, go_sem]; rfl) rfl ⟨_, by rw [hv.out], by rw [hv.out]; exact hO.lower hw2.size, hw2.trans hw⟩
set_option maxHeartbeats 2000000 in
theorem spec_ValuesOf (xs : List Fld) (A : Option Addr) (cap : Nat) (c : Crd) (w : World) (hR : Rd encFld w A xs) (hn : xs.length ≤ 1048576) (hok : ∀ x ∈ xs, FldIn x) (hnm : c.nm.size ≤ 9223372036854775807) :
    Calls Tryd.prog 32 #[.slice A xs.length cap, .agg #[.string c.nm, .int .u64 (lo c.m), .int .u64 (hi c.m)]] w fun e w' => ∃ v, e = .returned (.tuple #[v, .int .i64 (valuesF xs c).2]) ∧ Ow encI64 2 w' w.heap.size v (valuesF xs c).1 ∧ Ext w w' := by
  have hx := @ExtOf.cell
  have his := fun (W : World) (h : Ext w W) => spec_l01Scheme xs A cap W (hR.ext h) hn hok
  cases hs : schB xs with
  | false =>
    have hv := hd (values_bad (xs := xs) (c := c) (by rw [hs]; rfl))
    rw [hs] at his
    go_enter Tryd.func32, Tryd.ntmps32
    go_wp2_with fail
    refine Calls.mono (his _ (by ((repeat (first | with_reducible exact Ext.refl _ | with_reducible exact hw | with_reducible exact hb9 | with_reducible exact hb8 | with_reducible exact hb7 | with_reducible exact hb6 | with_reducible exact hb5 | with_reducible exact hb4 | with_reducible exact hb3 | with_reducible exact hb2 | with_reducible exact hb1 | with_reducible refine Ext.alloc ?_ _ | with_reducible refine Ext.drew ?_ | ((with_reducible refine Ext.set ?_ ?_ _); focus (dsimp only; omega)) | with_reducible refine Ext.trans ?_ hb9 | with_reducible refine Ext.trans ?_ hb8 | with_reducible refine Ext.trans ?_ hb7 | with_reducible refine Ext.trans ?_ hb6 | with_reducible refine Ext.trans ?_ hb5 | with_reducible refine Ext.trans ?_ hb4 | with_reducible refine Ext.trans ?_ hb3 | with_reducible refine Ext.trans ?_ hb2 | with_reducible refine Ext.trans ?_ hb1 | with_reducible refine Ext.trans ?_ hw))))) ?_
    rintro e w1 ⟨rfl, hb1⟩
    have hw : Ext w w1 := by ((repeat (first | with_reducible exact Ext.refl _ | with_reducible exact hw | with_reducible exact hb9 | with_reducible exact hb8 | with_reducible exact hb7 | with_reducible exact hb6 | with_reducible exact hb5 | with_reducible exact hb4 | with_reducible exact hb3 | with_reducible exact hb2 | with_reducible exact hb1 | with_reducible refine Ext.alloc ?_ _ | with_reducible refine Ext.drew ?_ | ((with_reducible refine Ext.set ?_ ?_ _); focus (dsimp only; omega)) | with_reducible refine Ext.trans ?_ hb9 | with_reducible refine Ext.trans ?_ hb8 | with_reducible refine Ext.trans ?_ hb7 | with_reducible refine Ext.trans ?_ hb6 | with_reducible refine Ext.trans ?_ hb5 | with_reducible refine Ext.trans ?_ hb4 | with_reducible refine Ext.trans ?_ hb3 | with_reducible refine Ext.trans ?_ hb2 | with_reducible refine Ext.trans ?_ hb1 | with_reducible refine Ext.trans ?_ hw)))
    go_wp2
    refine bodyPost_ret (v := .tuple #[.slice (some ⟨w1.heap.size, 0, none⟩) 0 0, .int .i64 1]) (by simp [results, Tryd.results32, go_sem]) rfl ⟨_, by rw [hv.out], by rw [hv.out]; exact Ow.made0 rfl hw.size, hw.alloc _⟩
  | true =>
    rw [hs] at his
    go_enter Tryd.func32, Tryd.ntmps32
    go_wp2_with fail
    refine Calls.mono (his _ (by ((repeat (first | with_reducible exact Ext.refl _ | with_reducible exact hw | with_reducible exact hb9 | with_reducible exact hb8 | with_reducible exact hb7 | with_reducible exact hb6 | with_reducible exact hb5 | with_reducible exact hb4 | with_reducible exact hb3 | with_reducible exact hb2 | with_reducible exact hb1 | with_reducible refine Ext.alloc ?_ _ | with_reducible refine Ext.drew ?_ | ((with_reducible refine Ext.set ?_ ?_ _); focus (dsimp only; omega)) | with_reducible refine Ext.trans ?_ hb9 | with_reducible refine Ext.trans ?_ hb8 | with_reducible refine Ext.trans ?_ hb7 | with_reducible refine Ext.trans ?_ hb6 | with_reducible refine Ext.trans ?_ hb5 | with_reducible refine Ext.trans ?_ hb4 | with_reducible refine Ext.trans ?_ hb3 | with_reducible refine Ext.trans ?_ hb2 | with_reducible refine Ext.trans ?_ hb1 | with_reducible refine Ext.trans ?_ hw))))) ?_
    rintro e w1 ⟨rfl, hb1⟩
    have b0 : w1.cell? ⟨w.heap.size, 0, none⟩ = some (.string c.nm) := hb1.cell (by go_simp)
    have b1 : w1.cell? ⟨w.heap.size, 0 + 1, none⟩ = some (.int .u64 (lo c.m)) := hb1.cell (by go_simp)
    have b2 : w1.cell? ⟨w.heap.size, 0 + 1 + 1, none⟩ = some (.int .u64 (hi c.m)) := hb1.cell (by go_simp)
    have hw1 : Ext w w1 := by ((repeat (first | with_reducible exact Ext.refl _ | with_reducible exact hw | with_reducible exact hb9 | with_reducible exact hb8 | with_reducible exact hb7 | with_reducible exact hb6 | with_reducible exact hb5 | with_reducible exact hb4 | with_reducible exact hb3 | with_reducible exact hb2 | with_reducible exact hb1 | with_reducible refine Ext.alloc ?_ _ | with_reducible refine Ext.drew ?_ | ((with_reducible refine Ext.set ?_ ?_ _); focus (dsimp only; omega)) | with_reducible refine Ext.trans ?_ hb9 | with_reducible refine Ext.trans ?_ hb8 | with_reducible refine Ext.trans ?_ hb7 | with_reducible refine Ext.trans ?_ hb6 | with_reducible refine Ext.trans ?_ hb5 | with_reducible refine Ext.trans ?_ hb4 | with_reducible refine Ext.trans ?_ hb3 | with_reducible refine Ext.trans ?_ hb2 | with_reducible refine Ext.trans ?_ hb1 | with_reducible refine Ext.trans ?_ hw)))
    have hic := spec_l01Ok c hnm w.heap.size 0 w1 (World.block_lt_of_cell? _ _ b0) b0 b1 b2
    clear hb1 his
    cases hc : isCardB c with
    | false =>
      have hv := hd (values_bad (xs := xs) (c := c) (by rw [hs, hc]; rfl))
      rw [hc] at hic
      go_wp2_with fail
      refine Calls.mono (hic) ?_
      rintro e w2 ⟨rfl, hb2⟩
      have hw := hw1.trans hb2
      go_wp2
      refine bodyPost_ret (v := .tuple #[.slice (some ⟨w2.heap.size, 0, none⟩) 0 0, .int .i64 1]) (by simp [results, Tryd.results32, go_sem]) rfl ⟨_, by rw [hv.out], by rw [hv.out]; exact Ow.made0 rfl hw.size, hw.alloc _⟩
    | true =>
      rw [hc] at hic
      have hsc : (schB xs && isCardB c) = true := by rw [hs, hc]; rfl
      have herr := fun k h1 h2 => hd (values_err hsc k h1 h2)
      have hgood := fun h => hd (values_good hsc h)
      go_wp2_with fail
      refine Calls.mono (hic) ?_
      rintro e w2 ⟨rfl, hb2⟩
      have hw2 := hw1.trans hb2
      have b1 : w2.cell? ⟨w.heap.size, 1, none⟩ = some (.int .u64 (lo c.m)) := hb2.cell b1
      have b2 : w2.cell? ⟨w.heap.size, 2, none⟩ = some (.int .u64 (hi c.m)) := hb2.cell b2
      clear hb2 hw1 b0
      go_wp2
      go_loopg [6, 7] xs.length (fun g v i wr => ∃ k : Nat, g = xs.length - k ∧ k ≤ xs.length ∧ i = .int .i64 k ∧ Ext w2 wr ∧ Hd ((xs.take k).all (readsB c.m) = true) ∧ Ow encI64 2 wr w2.heap.size v ((xs.take k).map (valF c.m)))
      case atStart => exact ⟨0, by omega, by omega, rfl, (Ext.refl _).alloc _, hd rfl, Ow.made0 rfl (Nat.le_refl _)⟩
      case round =>
        obtain ⟨k, hg, hk, rfl, hw, hQ, hO⟩ := hrel
        have b1 := hw.cell b1
        have b2 := hw.cell b2
        have lb := World.block_lt_of_cell? _ _ b1
        dsimp only at lb
        by_cases hkl : k < xs.length
        · obtain ⟨b, off, hA, hlt, _⟩ := hR k hkl
          subst hA
          have hF := (hR.ext (hw2.trans hw)).fldAt k hkl
          have hf := (sch_all hs).2 k hkl
          have hde := fun (W : World) (h : Ext wr W) => spec_l01Value xs[k] hf c.m b (off + k * 4) W (hF.ext h)
          have hms := hd (map_take_succ (valF c.m) xs k hkl)
          have hel := hd (show valF c.m xs[k] = if (valueF xs[k] c.m).2 = 6 then -1 else (valueF xs[k] c.m).1 from rfl)
          have her := herr k hkl
          have hall := all_take (readsB c.m) xs k hkl
          rw [hQ.out, Bool.true_and] at hall
          have hal2 := fun (h : ¬ (valueF xs[k] c.m).2 = 8) => hd (show (xs.take (k + 1)).all (readsB c.m) = true by rw [hall]; unfold readsB; rw [decide_eq_false h]; rfl)
          clear hall herr
          have hlen : ((xs.take k).map (valF c.m)).length = k := by rw [List.length_map, List.length_take]; omega
          have hlen2 := hd hlen
          clear hlen
          generalize (xs.take k).map (valF c.m) = ys at hO hms hlen2
          have hyl : ys.length ≤ 1048576 := by have := hlen2.out; omega
          generalize valueF xs[k] c.m = q at hde hel her hal2
          obtain ⟨n, code⟩ := q
          dsimp only at hde hel her hal2
          generalize valF c.m xs[k] = x at hms hel
          by_cases q8 : code = 8
          · have hv := her q8
            subst q8
            go_wp2
            refine wp_region_ext (by kernel_rfl) (by kernel_rfl) ?_
            repeat (first | go_big_quiet_step ((go_at_call 68; with_reducible exact Calls.ext_all (fun W h => hde W h))) | quiet_step ((go_at_call 68; with_reducible exact Calls.ext_all (fun W h => hde W h))))
            refine wpQuiet_nil ?_
            intro w5 hq5
            have hb5 := ext_of_class hq5
            clear hq5
            obtain ⟨hc5, hf5, hz5⟩ := bcell3 hb5
            try simp at hz5
            have hW5 := hw.trans hb5
            have hww := hw2.trans hW5
            clear hc5 hf5 hz5
            go_wp2
            refine bodyPost_ret (v := .tuple #[.slice (some ⟨w5.heap.size, 0, none⟩) 0 0, .int .i64 8]) (by simp [results, Tryd.results32, go_sem]) rfl ⟨_, by rw [hv.out], by rw [hv.out]; exact Ow.made0 rfl hww.size, hww.alloc _⟩
          · have hQ2 := hal2 q8
            have e8 : (code == 8) = false := by simp [q8]
            by_cases q6 : code = 6
            · have hx := hd (hel.out.trans (if_pos q6))
              subst q6
              clear hel her hal2
              go_wp2
              refine wp_region_ext (by kernel_rfl) (by kernel_rfl) ?_
              repeat (first | go_big_quiet_step ((go_at_call 68; with_reducible exact Calls.ext_all (fun W h => hde W h))) | quiet_step ((go_at_call 68; with_reducible exact Calls.ext_all (fun W h => hde W h))))
              refine wpQuiet_nil ?_
              intro w5 hq5
              have hb5 := ext_of_class hq5
              clear hq5
              obtain ⟨hc5, hf5, hz5⟩ := bcell3 hb5
              try simp at hz5
              have hW5 := hw.trans hb5
              have hO5 := hO.ext hb5
              go_wp2_with (at_builtin; refine wpList_push2 (w0 := w2) (base := w2.heap.size) (xs := ys) encI64 (by rfl) _ _ 44 (.int .i64 0) 8 (by rfl) Tryd.underlying44 info_i64 (by rfl) ((-1 : Int)) (by rfl) (by rfl) (by simp) (hO5) ((hW5 : Ext w2 _).size) (Nat.le_refl _) (hW5) (by omega) (by omega) ?_)
              intro v6 w6 hO6 hb6 hg6 _
              go_wp2
              go_roundg (xs.length - (k + 1))
              case rel => exact ⟨k + 1, rfl, hkl, by simp, hb6, hQ2, by rw [hms.out, hx.out]; exact hO6⟩
              case measure => omega
            · have hx := hd (hel.out.trans (if_neg q6))
              have e6 : (code == 6) = false := by simp [q6]
              clear hel her hal2
              go_wp2
              refine wp_region_ext (by kernel_rfl) (by kernel_rfl) ?_
              repeat (first | go_big_quiet_step ((go_at_call 68; with_reducible exact Calls.ext_all (fun W h => hde W h))) | quiet_step ((go_at_call 68; with_reducible exact Calls.ext_all (fun W h => hde W h))))
              refine wpQuiet_nil ?_
              intro w5 hq5
              have hb5 := ext_of_class hq5
              clear hq5
              obtain ⟨hc5, hf5, hz5⟩ := bcell3 hb5
              try simp at hz5
              have hW5 := hw.trans hb5
              have hO5 := hO.ext hb5
              go_wp2_with (at_builtin; refine wpList_push2 (w0 := w2) (base := w2.heap.size) (xs := ys) encI64 (by rfl) _ _ 44 (.int .i64 0) 8 (by rfl) Tryd.underlying44 info_i64 (by rfl) (n) (by rfl) (by rfl) (by simp) (hO5) ((hW5 : Ext w2 _).size) (Nat.le_refl _) (hW5) (by omega) (by omega) ?_)
              intro v6 w6 hO6 hb6 hg6 _
              go_wp2
              go_roundg (xs.length - (k + 1))
              case rel => exact ⟨k + 1, rfl, hkl, by simp, hb6, hQ2, by rw [hms.out, hx.out]; exact hO6⟩
              case measure => omega
        · obtain rfl : k = xs.length := by omega
          have hQ2 := hQ.out
          rw [List.take_length] at hQ2 hO
          have hv := hgood hQ2
          clear hQ2 hQ hgood herr
          generalize xs.map (valF c.m) = ys at hO hv
          go_wp2
          refine bodyPost_ret (v := .tuple #[_, .int .i64 0]) (by simp [results, Tryd.results32, go_sem]; rfl) rfl ⟨_, by rw [hv.out], by rw [hv.out]; exact hO.lower hw2.size, hw2.trans hw⟩
end Go.Proofs.YtknbebglabpegaaDoor
