/-
  Contracts of the functions that put an entry below another one.
-/
import Derived.Test.YtmphnocgihegbaaDoorE14
set_option linter.unusedVariables false
set_option linter.unusedSimpArgs false
set_option maxRecDepth 100000
namespace Go.Proofs.YtmphnocgihegbaaDoor
open Go.RowKit
theorem putL_len (xs : List Ent) (i br : Int) : (putL xs i br).length = xs.length := by unfold putL; rw [List.length_set]
theorem putL_ok {xs : List Ent} (hok : ∀ x ∈ xs, x.nm.size ≤ 9223372036854775807) (n : Nat) (hn : n < xs.length) (br : Int) : ∀ x ∈ putL xs n br, x.nm.size ≤ 9223372036854775807 := by
  intro x hx
  unfold putL at hx
  rcases List.mem_or_eq_of_mem_set hx with h | h
  · exact hok x h
  · subst h
    rw [Int.toNat_natCast, getBang xs n hn]
    exact hok xs[n] (List.getElem_mem hn)
theorem putL_at {xs : List Ent} (n : Nat) (hn : n < xs.length) (br : Int) : putL xs n br = xs.set n ⟨xs[n].nm, xs[n].see, br⟩ := by
  unfold putL
  rw [Int.toNat_natCast, getBang xs n hn]
set_option maxHeartbeats 1000000 in
theorem spec_PutBelow (xs : List Ent) (A : Option Addr) (cap : Nat) (i br : Int) (w : World) (hC : CatArg w A cap xs) :
    Calls Tryd.prog 35 #[.slice A xs.length cap, .int .i64 i, .int .i64 br] w fun e w' => ∃ v, e = .returned (.tuple #[v, .int .i64 (putF xs i br).2]) ∧ Ow encEnt 49 w' w.heap.size v (putF xs i br).1 ∧ Ext w w' := by
  by_cases hz : atsF xs [i] = 0
  · obtain ⟨hc, h0, h1⟩ := atsF_one hz
    have hv := hd (show putF xs i br = madeF (putL xs i br) by unfold putF; rw [if_pos hz])
    have hlen := cat_len hc
    obtain ⟨n, rfl⟩ : ∃ n : Nat, i = n := ⟨i.toNat, by omega⟩
    have hnl : n < xs.length := by omega
    go_enter Tryd.func35, Tryd.ntmps35
    go_wp2_with fail
    refine Calls.mono (spec_l05At xs A cap n _ hC) ?_
    rintro e w1 ⟨rfl, hb1⟩
    rw [hz]
    go_wp2_with fail
    refine Calls.mono (spec_l05Copy xs A cap _ (hC.ext hb1)) ?_
    rintro e w2 ⟨v2, rfl, hO2, hb2⟩
    have hw2 := hb1.trans hb2
    have hs1 := hb1.size
    rcases hO2.shape with ⟨_, h⟩ | ⟨g, cap2, rfl, hg, hgl⟩
    · subst h
      simp at hnl
    obtain ⟨c0, c1, c2, hbl⟩ := hO2.rd.ent n hnl
    simp only [Nat.zero_add] at c0 c1 c2
    have f2 := hO2.frozen (n * 3 + 2)
    have z2 := hO2.set1 n 2 (.int .i64 br) ⟨xs[n].nm, xs[n].see, br⟩ hnl (by decide) rfl
    rw [show n * encEnt.sz + 2 = n * 3 + 2 from rfl, ← putL_at n hnl br] at z2
    have hw3 : Ext w (w2.setCell ⟨g, n * 3 + 2, none⟩ (.int .i64 br)) := Ext.set (by show w.heap.size ≤ g; omega) hw2 _
    go_wp2_with fail
    refine Calls.mono (spec_l05Made (putL xs n br) _ _ _ z2 (by have := hb2.size; simp; omega) (by rw [putL_len]; exact hC.len) (putL_ok hC.ok n hnl br)) ?_
    rintro e w4 ⟨v4, rfl, hO4, hb4⟩
    have hw4 := hw3.trans hb4
    have hO4' := hO4.lower (base' := w.heap.size) hs1
    rw [← hv.out] at hO4'
    rw [← hv.out]
    clear hO4 hO2 z2 hw3 hz hc
    go_wp2
    exact bodyPost_ret (v := .tuple #[v4, .int .i64 (putF xs n br).2]) (by simp [results, Tryd.results35, go_sem]) rfl ⟨_, rfl, hO4', hw4⟩
  · have hv := hd (show putF xs i br = ([], atsF xs [i]) by unfold putF; rw [if_neg hz])
    have hz2 : (atsF xs [i] != 0) = true := by simp [hz]
    go_enter Tryd.func35, Tryd.ntmps35
    go_wp2_with fail
    refine Calls.mono (spec_l05At xs A cap i _ hC) ?_
    rintro e w1 ⟨rfl, hb1⟩
    go_wp2
    refine bodyPost_ret (v := .tuple #[_, .int .i64 (atsF xs [i])]) (by simp [results, Tryd.results35, go_sem]; rfl) rfl ⟨_, by rw [hv.out], ?_, by ((repeat (first | with_reducible exact Ext.refl _ | with_reducible exact hw | with_reducible exact hb9 | with_reducible exact hb8 | with_reducible exact hb7 | with_reducible exact hb6 | with_reducible exact hb5 | with_reducible exact hb4 | with_reducible exact hb3 | with_reducible exact hb2 | with_reducible exact hb1 | with_reducible refine Ext.alloc ?_ _ | with_reducible refine Ext.drew ?_ | ((with_reducible refine Ext.set ?_ ?_ _); focus (dsimp only; omega)) | with_reducible refine Ext.trans ?_ hb9 | with_reducible refine Ext.trans ?_ hb8 | with_reducible refine Ext.trans ?_ hb7 | with_reducible refine Ext.trans ?_ hb6 | with_reducible refine Ext.trans ?_ hb5 | with_reducible refine Ext.trans ?_ hb4 | with_reducible refine Ext.trans ?_ hb3 | with_reducible refine Ext.trans ?_ hb2 | with_reducible refine Ext.trans ?_ hb1 | with_reducible refine Ext.trans ?_ hw)))⟩
    rw [hv.out]
    exact Ow.made0 rfl hb1.size
set_option maxHeartbeats 1000000 in
theorem impl_PutBelow (xs : List Ent) (A : Option Addr) (cap : Nat) (i br : Int) (w : World) (hC : CatArg w A cap xs) (hG : Glob w) :
    Calls Tryd.prog 34 #[.slice A xs.length cap, .int .i64 i, .int .i64 br] w fun e w' => ∃ v, e = .returned (.tuple #[v, .int .i64 (putF xs i br).2]) ∧ Ow encEnt 49 w' w.heap.size v (putF xs i br).1 ∧ Ext w w' := by
  by_cases hz : atsF xs [i] = 0
  · obtain ⟨hc, h0, h1⟩ := atsF_one hz
    have hv := hd (show putF xs i br = madeF (putL xs i br) by unfold putF; rw [if_pos hz])
    have hlen := cat_len hc
    obtain ⟨n, rfl⟩ : ∃ n : Nat, i = n := ⟨i.toNat, by omega⟩
    have hnl : n < xs.length := by omega
    obtain ⟨b, off, hA, hlt, _⟩ := hC.rd n hnl
    subst hA
    go_enter Tryd.func34, Tryd.ntmps34
    go_wp2_with fail
    refine Calls.mono (impl_checkEntries xs _ cap [(n : Int)] _ 1 _ (hC.ext (by ((repeat (first | with_reducible exact Ext.refl _ | with_reducible exact hw | with_reducible exact hb9 | with_reducible exact hb8 | with_reducible exact hb7 | with_reducible exact hb6 | with_reducible exact hb5 | with_reducible exact hb4 | with_reducible exact hb3 | with_reducible exact hb2 | with_reducible exact hb1 | with_reducible refine Ext.alloc ?_ _ | with_reducible refine Ext.drew ?_ | ((with_reducible refine Ext.set ?_ ?_ _); focus (dsimp only; omega)) | with_reducible refine Ext.trans ?_ hb9 | with_reducible refine Ext.trans ?_ hb8 | with_reducible refine Ext.trans ?_ hb7 | with_reducible refine Ext.trans ?_ hb6 | with_reducible refine Ext.trans ?_ hb5 | with_reducible refine Ext.trans ?_ hb4 | with_reducible refine Ext.trans ?_ hb3 | with_reducible refine Ext.trans ?_ hb2 | with_reducible refine Ext.trans ?_ hb1 | with_reducible refine Ext.trans ?_ hw))))) Rd.lit1 (by simp) (hG.ext (by ((repeat (first | with_reducible exact Ext.refl _ | with_reducible exact hw | with_reducible exact hb9 | with_reducible exact hb8 | with_reducible exact hb7 | with_reducible exact hb6 | with_reducible exact hb5 | with_reducible exact hb4 | with_reducible exact hb3 | with_reducible exact hb2 | with_reducible exact hb1 | with_reducible refine Ext.alloc ?_ _ | with_reducible refine Ext.drew ?_ | ((with_reducible refine Ext.set ?_ ?_ _); focus (dsimp only; omega)) | with_reducible refine Ext.trans ?_ hb9 | with_reducible refine Ext.trans ?_ hb8 | with_reducible refine Ext.trans ?_ hb7 | with_reducible refine Ext.trans ?_ hb6 | with_reducible refine Ext.trans ?_ hb5 | with_reducible refine Ext.trans ?_ hb4 | with_reducible refine Ext.trans ?_ hb3 | with_reducible refine Ext.trans ?_ hb2 | with_reducible refine Ext.trans ?_ hb1 | with_reducible refine Ext.trans ?_ hw)))))) ?_
    rintro e w1 ⟨rfl, hb1⟩
    rw [hz]
    have hw1 : Ext w w1 := by ((repeat (first | with_reducible exact Ext.refl _ | with_reducible exact hw | with_reducible exact hb9 | with_reducible exact hb8 | with_reducible exact hb7 | with_reducible exact hb6 | with_reducible exact hb5 | with_reducible exact hb4 | with_reducible exact hb3 | with_reducible exact hb2 | with_reducible exact hb1 | with_reducible refine Ext.alloc ?_ _ | with_reducible refine Ext.drew ?_ | ((with_reducible refine Ext.set ?_ ?_ _); focus (dsimp only; omega)) | with_reducible refine Ext.trans ?_ hb9 | with_reducible refine Ext.trans ?_ hb8 | with_reducible refine Ext.trans ?_ hb7 | with_reducible refine Ext.trans ?_ hb6 | with_reducible refine Ext.trans ?_ hb5 | with_reducible refine Ext.trans ?_ hb4 | with_reducible refine Ext.trans ?_ hb3 | with_reducible refine Ext.trans ?_ hb2 | with_reducible refine Ext.trans ?_ hb1 | with_reducible refine Ext.trans ?_ hw)))
    clear hb1
    go_wp2_with (at_builtin; refine wpList_addAll (w0 := w) (base := w.heap.size) (xs := []) encEnt (by rfl) _ _ 27 (.agg #[.string ⟨#[]⟩, .int .i64 0, .int .i64 0]) 32 (by rfl) Tryd.underlying27 info_ent (by rfl) xs _ cap (by rfl) (by rfl) (hC.rd.ext (hw1.alloc _)) (Ow.made0 rfl hw1.size) (by have := hw1.size; simp; omega) (Nat.le_refl _) (hw1.alloc _) (by simp; omega) (by simp; omega) ?_)
    intro v2 w2 hO2 hw2 hg2
    try rw [List.nil_append] at hO2
    clear hg2
    rcases hO2.shape with ⟨_, h⟩ | ⟨g, cap2, rfl, hg, hgl⟩
    · subst h
      simp at hnl
    obtain ⟨c0, c1, c2, hbl⟩ := hO2.rd.ent n hnl
    simp only [Nat.zero_add] at c0 c1 c2
    have f2 := hO2.frozen (n * 3 + 2)
    have z2 := hO2.set1 n 2 (.int .i64 br) ⟨xs[n].nm, xs[n].see, br⟩ hnl (by decide) rfl
    rw [show n * encEnt.sz + 2 = n * 3 + 2 from rfl, ← putL_at n hnl br] at z2
    have hw3 : Ext w (w2.setCell ⟨g, n * 3 + 2, none⟩ (.int .i64 br)) := Ext.set (by show w.heap.size ≤ g; omega) hw2 _
    have hpl := putL_len xs n br
    obtain ⟨A3, cap3, hA3, hC3⟩ := CatArg.ofOw z2 (by rw [putL_len]; exact hC.len) (putL_ok hC.ok n hnl br)
    rw [hpl] at hA3
    simp only [Value.slice.injEq, true_and] at hA3
    obtain ⟨rfl, rfl⟩ := hA3
    have hic := impl_isCatalogue (putL xs n br) _ _ _ hC3.rd hC3.cap hC3.ok (hG.ext hw3)
    rw [hpl] at hic
    cases hm : catB (putL xs n br) with
    | false =>
      have hv2 := hd (hv.out.trans (show madeF (putL xs n br) = ([], 4) by unfold madeF; rw [hm]; rfl))
      rw [hm] at hic
      clear hO2 z2 hC3
      go_wp2_with fail
      refine Calls.mono (hic) ?_
      rintro e w4 ⟨rfl, hb4⟩
      go_wp2
      refine bodyPost_ret (v := .tuple #[.slice none 0 0, .int .i64 4]) (by simp [results, Tryd.results34, go_sem]) rfl ⟨_, by rw [hv2.out], ?_, hw3.trans hb4⟩
      rw [hv2.out]
      exact Ow.nil _ _ _ _
    | true =>
      have hv2 := hd (hv.out.trans (show madeF (putL xs n br) = (putL xs n br, 0) by unfold madeF; rw [hm]; rfl))
      rw [hm] at hic
      clear hO2 hC3
      go_wp2_with fail
      refine Calls.mono (hic) ?_
      rintro e w4 ⟨rfl, hb4⟩
      go_wp2
      refine bodyPost_ret (v := .tuple #[.slice (some ⟨g, 0, none⟩) xs.length cap2, .int .i64 0]) (by simp [results, Tryd.results34, go_sem]) rfl ⟨_, by rw [hv2.out], ?_, hw3.trans hb4⟩
      rw [hv2.out]
      exact z2.ext hb4
  · have hv := hd (show putF xs i br = ([], atsF xs [i]) by unfold putF; rw [if_neg hz])
    have hz2 : (atsF xs [i] != 0) = true := by simp [hz]
    go_enter Tryd.func34, Tryd.ntmps34
    go_wp2_with fail
    refine Calls.mono (impl_checkEntries xs A cap [i] _ 1 _ (hC.ext (by ((repeat (first | with_reducible exact Ext.refl _ | with_reducible exact hw | with_reducible exact hb9 | with_reducible exact hb8 | with_reducible exact hb7 | with_reducible exact hb6 | with_reducible exact hb5 | with_reducible exact hb4 | with_reducible exact hb3 | with_reducible exact hb2 | with_reducible exact hb1 | with_reducible refine Ext.alloc ?_ _ | with_reducible refine Ext.drew ?_ | ((with_reducible refine Ext.set ?_ ?_ _); focus (dsimp only; omega)) | with_reducible refine Ext.trans ?_ hb9 | with_reducible refine Ext.trans ?_ hb8 | with_reducible refine Ext.trans ?_ hb7 | with_reducible refine Ext.trans ?_ hb6 | with_reducible refine Ext.trans ?_ hb5 | with_reducible refine Ext.trans ?_ hb4 | with_reducible refine Ext.trans ?_ hb3 | with_reducible refine Ext.trans ?_ hb2 | with_reducible refine Ext.trans ?_ hb1 | with_reducible refine Ext.trans ?_ hw))))) Rd.lit1 (by simp) (hG.ext (by ((repeat (first | with_reducible exact Ext.refl _ | with_reducible exact hw | with_reducible exact hb9 | with_reducible exact hb8 | with_reducible exact hb7 | with_reducible exact hb6 | with_reducible exact hb5 | with_reducible exact hb4 | with_reducible exact hb3 | with_reducible exact hb2 | with_reducible exact hb1 | with_reducible refine Ext.alloc ?_ _ | with_reducible refine Ext.drew ?_ | ((with_reducible refine Ext.set ?_ ?_ _); focus (dsimp only; omega)) | with_reducible refine Ext.trans ?_ hb9 | with_reducible refine Ext.trans ?_ hb8 | with_reducible refine Ext.trans ?_ hb7 | with_reducible refine Ext.trans ?_ hb6 | with_reducible refine Ext.trans ?_ hb5 | with_reducible refine Ext.trans ?_ hb4 | with_reducible refine Ext.trans ?_ hb3 | with_reducible refine Ext.trans ?_ hb2 | with_reducible refine Ext.trans ?_ hb1 | with_reducible refine Ext.trans ?_ hw)))))) ?_
    rintro e w1 ⟨rfl, hb1⟩
    go_wp2
    refine bodyPost_ret (v := .tuple #[.slice none 0 0, .int .i64 (atsF xs [i])]) (by simp [results, Tryd.results34, go_sem]) rfl ⟨_, by rw [hv.out], ?_, by ((repeat (first | with_reducible exact Ext.refl _ | with_reducible exact hw | with_reducible exact hb9 | with_reducible exact hb8 | with_reducible exact hb7 | with_reducible exact hb6 | with_reducible exact hb5 | with_reducible exact hb4 | with_reducible exact hb3 | with_reducible exact hb2 | with_reducible exact hb1 | with_reducible refine Ext.alloc ?_ _ | with_reducible refine Ext.drew ?_ | ((with_reducible refine Ext.set ?_ ?_ _); focus (dsimp only; omega)) | with_reducible refine Ext.trans ?_ hb9 | with_reducible refine Ext.trans ?_ hb8 | with_reducible refine Ext.trans ?_ hb7 | with_reducible refine Ext.trans ?_ hb6 | with_reducible refine Ext.trans ?_ hb5 | with_reducible refine Ext.trans ?_ hb4 | with_reducible refine Ext.trans ?_ hb3 | with_reducible refine Ext.trans ?_ hb2 | with_reducible refine Ext.trans ?_ hb1 | with_reducible refine Ext.trans ?_ hw)))⟩
    rw [hv.out]
    exact Ow.nil _ _ _ _
