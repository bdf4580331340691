/-
  Contracts of the functions that make an entry a synonym of another one.
-/
import Derived.Test.YtmphnocgihegbaaDoorE23
import Derived.Test.YtmphnocgihegbaaDoorE15
import Derived.Test.YtmphnocgihegbaaDoorM3
set_option linter.unusedVariables false
set_option linter.unusedSimpArgs false
set_option maxRecDepth 100000
namespace Go.Proofs.YtmphnocgihegbaaDoor
open Go.RowKit
def mergeF (xs : List Ent) (i k : Int) : List Ent × Int :=
  if atsF xs [i, k] = 0 then (if xs[i.toNat]!.see = -1 ∧ xs[k.toNat]!.see = -1 ∧ hasI (pathL xs k) i = false then (mergeL xs i.toNat k, 0) else ([], 4)) else ([], atsF xs [i, k])
def mTo (xs : List Ent) (i k : Int) (j : Nat) : List Ent := (xs.map (mE i k)).take j ++ xs.drop j
theorem mTo_zero (xs : List Ent) (i k : Int) : mTo xs i k 0 = xs := by unfold mTo; rw [List.take_zero, List.drop_zero]; rfl
theorem mTo_end (xs : List Ent) (i k : Int) : mTo xs i k xs.length = xs.map (mE i k) := by
  unfold mTo
  rw [List.drop_length, List.append_nil, List.take_of_length_le (by simp)]
theorem mTo_len (xs : List Ent) (i k : Int) (j : Nat) (h : j ≤ xs.length) : (mTo xs i k j).length = xs.length := by
  unfold mTo
  rw [List.length_append, List.length_take, List.length_map, List.length_drop]
  omega
theorem mTo_at? (xs : List Ent) (i k : Int) (j : Nat) (h : j < xs.length) : (mTo xs i k j)[j]? = some xs[j] := by
  unfold mTo
  have hl : ((xs.map (mE i k)).take j).length = j := by rw [List.length_take, List.length_map]; omega
  rw [List.getElem?_append_right (by omega), hl, Nat.sub_self, List.getElem?_drop, Nat.add_zero, List.getElem?_eq_getElem h]
theorem mTo_at (xs : List Ent) (i k : Int) (j : Nat) (h : j < xs.length) (h2 : j < (mTo xs i k j).length) : (mTo xs i k j)[j] = xs[j] :=
  Option.some.inj ((List.getElem?_eq_getElem h2).symm.trans (mTo_at? xs i k j h))
theorem mTo_set (xs : List Ent) (i k : Int) (j : Nat) (h : j < xs.length) : (mTo xs i k j).set j (mE i k xs[j]) = mTo xs i k (j + 1) := by
  unfold mTo
  have hl : ((xs.map (mE i k)).take j).length = j := by rw [List.length_take, List.length_map]; omega
  rw [List.set_append_right _ _ (by omega), hl, Nat.sub_self, List.drop_eq_getElem_cons h, List.set_cons_zero, List.take_succ_eq_append_getElem (by rw [List.length_map]; exact h), List.getElem_map, List.append_assoc]
  rfl
theorem map_step (xs : List Ent) (i k : Int) (j : Nat) (h : j < xs.length) : (xs.map (mE i k)).take (j + 1) = (xs.map (mE i k)).take j ++ [mE i k xs[j]] := by
  rw [List.take_succ_eq_append_getElem (by rw [List.length_map]; exact h), List.getElem_map]
theorem merge_final (xs : List Ent) (i : Nat) (k : Int) (hi : i < xs.length) (y z : Ent) : ((xs.map (mE i k)).set i y).set i ⟨xs[i].nm, k, -1⟩ = mergeL xs i k := by
  unfold mergeL
  rw [List.set_set, getBang xs i hi]
theorem mergeL_ok {xs : List Ent} (hok : ∀ x ∈ xs, x.nm.size ≤ 9223372036854775807) (i : Nat) (k : Int) (hi : i < xs.length) : ∀ x ∈ mergeL xs i k, x.nm.size ≤ 9223372036854775807 := by
  intro x hx
  unfold mergeL at hx
  rcases List.mem_or_eq_of_mem_set hx with h | h
  · obtain ⟨y, hy, rfl⟩ := List.mem_map.1 h
    exact hok y hy
  · subst h
    rw [getBang xs i hi]
    exact hok xs[i] (List.getElem_mem hi)
set_option maxHeartbeats 2000000 in
theorem impl_MergeEntries (xs : List Ent) (A : Option Addr) (cap : Nat) (i k : Int) (w : World) (hC : CatArg w A cap xs) (hG : Glob w) :
    Calls Tryd.prog 26 #[.slice A xs.length cap, .int .i64 i, .int .i64 k] w fun e w' => ∃ v, e = .returned (.tuple #[v, .int .i64 (mergeF xs i k).2]) ∧ Ow encEnt 49 w' w.heap.size v (mergeF xs i k).1 ∧ Ext w w' := by
  by_cases hz : atsF xs [i, k] = 0
  · obtain ⟨hc, ⟨h0, h1⟩, ⟨h2, h3⟩⟩ := atsF_two hz
    have hlen := cat_len hc
    obtain ⟨n, rfl⟩ : ∃ n : Nat, i = n := ⟨i.toNat, by omega⟩
    obtain ⟨m, rfl⟩ : ∃ m : Nat, k = m := ⟨k.toNat, by omega⟩
    have hnl : n < xs.length := by omega
    have hml : m < xs.length := by omega
    have hv := hd (show mergeF xs n m = if xs[n].see = -1 ∧ xs[m].see = -1 ∧ hasI (pathL xs m) n = false then (mergeL xs n m, 0) else ([], 4) by unfold mergeF; rw [if_pos hz, Int.toNat_natCast, Int.toNat_natCast, getBang xs n hnl, getBang xs m hml])
    obtain ⟨b, off, hA, hlt, _⟩ := hC.rd n hnl
    subst hA
    have hpl := pathL_len xs m
    go_enter Tryd.func26, Tryd.ntmps26
    go_wp2_with fail
    refine Calls.mono (impl_checkEntries xs _ cap [(n : Int), (m : Int)] _ 2 _ (hC.ext (by ((repeat (first | with_reducible exact Ext.refl _ | with_reducible exact hw | with_reducible exact hb9 | with_reducible exact hb8 | with_reducible exact hb7 | with_reducible exact hb6 | with_reducible exact hb5 | with_reducible exact hb4 | with_reducible exact hb3 | with_reducible exact hb2 | with_reducible exact hb1 | with_reducible refine Ext.alloc ?_ _ | with_reducible refine Ext.drew ?_ | ((with_reducible refine Ext.set ?_ ?_ _); focus (dsimp only; omega)) | with_reducible refine Ext.trans ?_ hb9 | with_reducible refine Ext.trans ?_ hb8 | with_reducible refine Ext.trans ?_ hb7 | with_reducible refine Ext.trans ?_ hb6 | with_reducible refine Ext.trans ?_ hb5 | with_reducible refine Ext.trans ?_ hb4 | with_reducible refine Ext.trans ?_ hb3 | with_reducible refine Ext.trans ?_ hb2 | with_reducible refine Ext.trans ?_ hb1 | with_reducible refine Ext.trans ?_ hw))))) Rd.lit2 (by simp) (hG.ext (by ((repeat (first | with_reducible exact Ext.refl _ | with_reducible exact hw | with_reducible exact hb9 | with_reducible exact hb8 | with_reducible exact hb7 | with_reducible exact hb6 | with_reducible exact hb5 | with_reducible exact hb4 | with_reducible exact hb3 | with_reducible exact hb2 | with_reducible exact hb1 | with_reducible refine Ext.alloc ?_ _ | with_reducible refine Ext.drew ?_ | ((with_reducible refine Ext.set ?_ ?_ _); focus (dsimp only; omega)) | with_reducible refine Ext.trans ?_ hb9 | with_reducible refine Ext.trans ?_ hb8 | with_reducible refine Ext.trans ?_ hb7 | with_reducible refine Ext.trans ?_ hb6 | with_reducible refine Ext.trans ?_ hb5 | with_reducible refine Ext.trans ?_ hb4 | with_reducible refine Ext.trans ?_ hb3 | with_reducible refine Ext.trans ?_ hb2 | with_reducible refine Ext.trans ?_ hb1 | with_reducible refine Ext.trans ?_ hw)))))) ?_
    rintro e w1 ⟨rfl, hb1⟩
    rw [hz]
    have hw1 : Ext w w1 := by ((repeat (first | with_reducible exact Ext.refl _ | with_reducible exact hw | with_reducible exact hb9 | with_reducible exact hb8 | with_reducible exact hb7 | with_reducible exact hb6 | with_reducible exact hb5 | with_reducible exact hb4 | with_reducible exact hb3 | with_reducible exact hb2 | with_reducible exact hb1 | with_reducible refine Ext.alloc ?_ _ | with_reducible refine Ext.drew ?_ | ((with_reducible refine Ext.set ?_ ?_ _); focus (dsimp only; omega)) | with_reducible refine Ext.trans ?_ hb9 | with_reducible refine Ext.trans ?_ hb8 | with_reducible refine Ext.trans ?_ hb7 | with_reducible refine Ext.trans ?_ hb6 | with_reducible refine Ext.trans ?_ hb5 | with_reducible refine Ext.trans ?_ hb4 | with_reducible refine Ext.trans ?_ hb3 | with_reducible refine Ext.trans ?_ hb2 | with_reducible refine Ext.trans ?_ hb1 | with_reducible refine Ext.trans ?_ hw)))
    clear hb1
    obtain ⟨n0, n1, n2, n3⟩ := (hC.rd.ext hw1).ent n hnl
    obtain ⟨k0, k1, k2, k3⟩ := (hC.rd.ext hw1).ent m hml
    by_cases q1 : xs[n].see = -1
    · have b1 : (xs[n].see != -1) = false := by simp [q1]
      by_cases q2 : xs[m].see = -1
      · have b2 : (xs[m].see != -1) = false := by simp [q2]
        go_wp2_with fail
        refine Calls.mono (impl_pathUp xs _ cap m _ (hC.rd.ext hw1) hc (by omega) (by omega)) ?_
        rintro e w2 ⟨v2, rfl, hO2, hb2⟩
        obtain ⟨A2, c2, rfl, hle2, hR2⟩ := hO2.slice
        have hw2 := hw1.trans hb2
        go_wp2_with fail
        refine Calls.mono (slices_Contains_i64 (pathL xs m) _ _ _ n _ rfl hR2 (by omega)) ?_
        rintro e w3 ⟨rfl, hb3⟩
        have hw3 := hw2.trans hb3
        clear hO2 hR2 hb2 hb3 hw1 hw2 n0 n1 n2 n3 k0 k1 k2 k3
        cases q3 : hasI (pathL xs m) n with
        | true =>
          have hv2 := hd (hv.out.trans (if_neg (by rw [q3]; simp)))
          go_wp2
          refine bodyPost_ret (v := .tuple #[.slice none 0 0, .int .i64 4]) (by simp [results, Tryd.results26, go_sem]) rfl ⟨_, by rw [hv2.out], ?_, hw3⟩
          rw [hv2.out]
          exact Ow.nil _ _ _ _
        | false =>
          have hv2 := hd (hv.out.trans (if_pos ⟨q1, q2, q3⟩))
          clear hv
          go_wp2
          go_loopg [44, 9] xs.length (fun g i v wr => ∃ j : Nat, g = xs.length - j ∧ j ≤ xs.length ∧ i = .int .i64 j ∧ Ext w wr ∧ Ow encEnt 49 wr w.heap.size v ((xs.map (mE n m)).take j))
          case atStart => exact ⟨0, by omega, by omega, rfl, hw3.alloc _, by rw [List.take_zero]; exact Ow.made0 rfl hw3.size⟩
          case round =>
            obtain ⟨j, hg, hj, rfl, hw, hO⟩ := hrel
            by_cases hjl : j < xs.length
            · obtain ⟨m0, m1, m2, m3⟩ := (hC.rd.ext hw).ent j hjl
              have both := (stand_parts (stands_at (cat_stands hc) j hjl)).2.2.2.2
              rw [getBang xs j hjl] at both
              have hstep := map_step xs n m j hjl
              have htl : ((xs.map (mE n m)).take j).length ≤ 40 := by rw [List.length_take, List.length_map]; omega
              have hws := hw.size
              generalize (xs.map (mE n m)).take j = ts at hO hstep htl
              by_cases r1 : xs[j].br = n
              · have r2 : ¬ xs[j].see = n := by
                  intro h
                  rcases both with h5 | h5 <;> omega
                have hmE := hd (hstep.trans (show ts ++ [mE n m xs[j]] = ts ++ [⟨xs[j].nm, xs[j].see, m⟩] by unfold mE; rw [r1, redir_hit, redir_miss r2]))
                clear both hstep
                go_wp2_with (at_builtin; refine wpList_push2 (w0 := w) (base := w.heap.size) (xs := ts) encEnt (by rfl) _ _ 27 (.agg #[.string ⟨#[]⟩, .int .i64 0, .int .i64 0]) 32 (by rfl) Tryd.underlying27 info_ent (by rfl) (⟨xs[j].nm, xs[j].see, m⟩) (by rfl) (by rfl) (by simp) (hO.ext (by ((repeat (first | with_reducible exact Ext.refl _ | with_reducible exact hw | with_reducible exact hb9 | with_reducible exact hb8 | with_reducible exact hb7 | with_reducible exact hb6 | with_reducible exact hb5 | with_reducible exact hb4 | with_reducible exact hb3 | with_reducible exact hb2 | with_reducible exact hb1 | with_reducible refine Ext.alloc ?_ _ | with_reducible refine Ext.drew ?_ | ((with_reducible refine Ext.set ?_ ?_ _); focus (dsimp only; omega)) | with_reducible refine Ext.trans ?_ hb9 | with_reducible refine Ext.trans ?_ hb8 | with_reducible refine Ext.trans ?_ hb7 | with_reducible refine Ext.trans ?_ hb6 | with_reducible refine Ext.trans ?_ hb5 | with_reducible refine Ext.trans ?_ hb4 | with_reducible refine Ext.trans ?_ hb3 | with_reducible refine Ext.trans ?_ hb2 | with_reducible refine Ext.trans ?_ hb1 | with_reducible refine Ext.trans ?_ hw))))) ((by ((repeat (first | with_reducible exact Ext.refl _ | with_reducible exact hw | with_reducible exact hb9 | with_reducible exact hb8 | with_reducible exact hb7 | with_reducible exact hb6 | with_reducible exact hb5 | with_reducible exact hb4 | with_reducible exact hb3 | with_reducible exact hb2 | with_reducible exact hb1 | with_reducible refine Ext.alloc ?_ _ | with_reducible refine Ext.drew ?_ | ((with_reducible refine Ext.set ?_ ?_ _); focus (dsimp only; omega)) | with_reducible refine Ext.trans ?_ hb9 | with_reducible refine Ext.trans ?_ hb8 | with_reducible refine Ext.trans ?_ hb7 | with_reducible refine Ext.trans ?_ hb6 | with_reducible refine Ext.trans ?_ hb5 | with_reducible refine Ext.trans ?_ hb4 | with_reducible refine Ext.trans ?_ hb3 | with_reducible refine Ext.trans ?_ hb2 | with_reducible refine Ext.trans ?_ hb1 | with_reducible refine Ext.trans ?_ hw))) : Ext w _).size) (Nat.le_refl _) (by ((repeat (first | with_reducible exact Ext.refl _ | with_reducible exact hw | with_reducible exact hb9 | with_reducible exact hb8 | with_reducible exact hb7 | with_reducible exact hb6 | with_reducible exact hb5 | with_reducible exact hb4 | with_reducible exact hb3 | with_reducible exact hb2 | with_reducible exact hb1 | with_reducible refine Ext.alloc ?_ _ | with_reducible refine Ext.drew ?_ | ((with_reducible refine Ext.set ?_ ?_ _); focus (dsimp only; omega)) | with_reducible refine Ext.trans ?_ hb9 | with_reducible refine Ext.trans ?_ hb8 | with_reducible refine Ext.trans ?_ hb7 | with_reducible refine Ext.trans ?_ hb6 | with_reducible refine Ext.trans ?_ hb5 | with_reducible refine Ext.trans ?_ hb4 | with_reducible refine Ext.trans ?_ hb3 | with_reducible refine Ext.trans ?_ hb2 | with_reducible refine Ext.trans ?_ hb1 | with_reducible refine Ext.trans ?_ hw)))) (by omega) (by omega) ?_)
                intro v5 w5 hO5 hb5 hg5 _
                go_wp2
                go_roundg (xs.length - (j + 1))
                case rel => exact ⟨j + 1, rfl, hjl, rfl, hb5, by rw [hmE.out]; exact hO5⟩
                case measure => omega
              · by_cases r2 : xs[j].see = n
                · have hmE := hd (hstep.trans (show ts ++ [mE n m xs[j]] = ts ++ [⟨xs[j].nm, m, xs[j].br⟩] by unfold mE; rw [r2, redir_hit, redir_miss r1]))
                  clear both hstep
                  go_wp2_with (at_builtin; refine wpList_push2 (w0 := w) (base := w.heap.size) (xs := ts) encEnt (by rfl) _ _ 27 (.agg #[.string ⟨#[]⟩, .int .i64 0, .int .i64 0]) 32 (by rfl) Tryd.underlying27 info_ent (by rfl) (⟨xs[j].nm, m, xs[j].br⟩) (by rfl) (by rfl) (by simp) (hO.ext (by ((repeat (first | with_reducible exact Ext.refl _ | with_reducible exact hw | with_reducible exact hb9 | with_reducible exact hb8 | with_reducible exact hb7 | with_reducible exact hb6 | with_reducible exact hb5 | with_reducible exact hb4 | with_reducible exact hb3 | with_reducible exact hb2 | with_reducible exact hb1 | with_reducible refine Ext.alloc ?_ _ | with_reducible refine Ext.drew ?_ | ((with_reducible refine Ext.set ?_ ?_ _); focus (dsimp only; omega)) | with_reducible refine Ext.trans ?_ hb9 | with_reducible refine Ext.trans ?_ hb8 | with_reducible refine Ext.trans ?_ hb7 | with_reducible refine Ext.trans ?_ hb6 | with_reducible refine Ext.trans ?_ hb5 | with_reducible refine Ext.trans ?_ hb4 | with_reducible refine Ext.trans ?_ hb3 | with_reducible refine Ext.trans ?_ hb2 | with_reducible refine Ext.trans ?_ hb1 | with_reducible refine Ext.trans ?_ hw))))) ((by ((repeat (first | with_reducible exact Ext.refl _ | with_reducible exact hw | with_reducible exact hb9 | with_reducible exact hb8 | with_reducible exact hb7 | with_reducible exact hb6 | with_reducible exact hb5 | with_reducible exact hb4 | with_reducible exact hb3 | with_reducible exact hb2 | with_reducible exact hb1 | with_reducible refine Ext.alloc ?_ _ | with_reducible refine Ext.drew ?_ | ((with_reducible refine Ext.set ?_ ?_ _); focus (dsimp only; omega)) | with_reducible refine Ext.trans ?_ hb9 | with_reducible refine Ext.trans ?_ hb8 | with_reducible refine Ext.trans ?_ hb7 | with_reducible refine Ext.trans ?_ hb6 | with_reducible refine Ext.trans ?_ hb5 | with_reducible refine Ext.trans ?_ hb4 | with_reducible refine Ext.trans ?_ hb3 | with_reducible refine Ext.trans ?_ hb2 | with_reducible refine Ext.trans ?_ hb1 | with_reducible refine Ext.trans ?_ hw))) : Ext w _).size) (Nat.le_refl _) (by ((repeat (first | with_reducible exact Ext.refl _ | with_reducible exact hw | with_reducible exact hb9 | with_reducible exact hb8 | with_reducible exact hb7 | with_reducible exact hb6 | with_reducible exact hb5 | with_reducible exact hb4 | with_reducible exact hb3 | with_reducible exact hb2 | with_reducible exact hb1 | with_reducible refine Ext.alloc ?_ _ | with_reducible refine Ext.drew ?_ | ((with_reducible refine Ext.set ?_ ?_ _); focus (dsimp only; omega)) | with_reducible refine Ext.trans ?_ hb9 | with_reducible refine Ext.trans ?_ hb8 | with_reducible refine Ext.trans ?_ hb7 | with_reducible refine Ext.trans ?_ hb6 | with_reducible refine Ext.trans ?_ hb5 | with_reducible refine Ext.trans ?_ hb4 | with_reducible refine Ext.trans ?_ hb3 | with_reducible refine Ext.trans ?_ hb2 | with_reducible refine Ext.trans ?_ hb1 | with_reducible refine Ext.trans ?_ hw)))) (by omega) (by omega) ?_)
                  intro v5 w5 hO5 hb5 hg5 _
                  go_wp2
                  go_roundg (xs.length - (j + 1))
                  case rel => exact ⟨j + 1, rfl, hjl, rfl, hb5, by rw [hmE.out]; exact hO5⟩
                  case measure => omega
                · have hmE := hd (hstep.trans (show ts ++ [mE n m xs[j]] = ts ++ [⟨xs[j].nm, xs[j].see, xs[j].br⟩] by unfold mE; rw [redir_miss r2, redir_miss r1]))
                  clear both hstep
                  go_wp2_with (at_builtin; refine wpList_push2 (w0 := w) (base := w.heap.size) (xs := ts) encEnt (by rfl) _ _ 27 (.agg #[.string ⟨#[]⟩, .int .i64 0, .int .i64 0]) 32 (by rfl) Tryd.underlying27 info_ent (by rfl) (⟨xs[j].nm, xs[j].see, xs[j].br⟩) (by rfl) (by rfl) (by simp) (hO.ext (by ((repeat (first | with_reducible exact Ext.refl _ | with_reducible exact hw | with_reducible exact hb9 | with_reducible exact hb8 | with_reducible exact hb7 | with_reducible exact hb6 | with_reducible exact hb5 | with_reducible exact hb4 | with_reducible exact hb3 | with_reducible exact hb2 | with_reducible exact hb1 | with_reducible refine Ext.alloc ?_ _ | with_reducible refine Ext.drew ?_ | ((with_reducible refine Ext.set ?_ ?_ _); focus (dsimp only; omega)) | with_reducible refine Ext.trans ?_ hb9 | with_reducible refine Ext.trans ?_ hb8 | with_reducible refine Ext.trans ?_ hb7 | with_reducible refine Ext.trans ?_ hb6 | with_reducible refine Ext.trans ?_ hb5 | with_reducible refine Ext.trans ?_ hb4 | with_reducible refine Ext.trans ?_ hb3 | with_reducible refine Ext.trans ?_ hb2 | with_reducible refine Ext.trans ?_ hb1 | with_reducible refine Ext.trans ?_ hw))))) ((by ((repeat (first | with_reducible exact Ext.refl _ | with_reducible exact hw | with_reducible exact hb9 | with_reducible exact hb8 | with_reducible exact hb7 | with_reducible exact hb6 | with_reducible exact hb5 | with_reducible exact hb4 | with_reducible exact hb3 | with_reducible exact hb2 | with_reducible exact hb1 | with_reducible refine Ext.alloc ?_ _ | with_reducible refine Ext.drew ?_ | ((with_reducible refine Ext.set ?_ ?_ _); focus (dsimp only; omega)) | with_reducible refine Ext.trans ?_ hb9 | with_reducible refine Ext.trans ?_ hb8 | with_reducible refine Ext.trans ?_ hb7 | with_reducible refine Ext.trans ?_ hb6 | with_reducible refine Ext.trans ?_ hb5 | with_reducible refine Ext.trans ?_ hb4 | with_reducible refine Ext.trans ?_ hb3 | with_reducible refine Ext.trans ?_ hb2 | with_reducible refine Ext.trans ?_ hb1 | with_reducible refine Ext.trans ?_ hw))) : Ext w _).size) (Nat.le_refl _) (by ((repeat (first | with_reducible exact Ext.refl _ | with_reducible exact hw | with_reducible exact hb9 | with_reducible exact hb8 | with_reducible exact hb7 | with_reducible exact hb6 | with_reducible exact hb5 | with_reducible exact hb4 | with_reducible exact hb3 | with_reducible exact hb2 | with_reducible exact hb1 | with_reducible refine Ext.alloc ?_ _ | with_reducible refine Ext.drew ?_ | ((with_reducible refine Ext.set ?_ ?_ _); focus (dsimp only; omega)) | with_reducible refine Ext.trans ?_ hb9 | with_reducible refine Ext.trans ?_ hb8 | with_reducible refine Ext.trans ?_ hb7 | with_reducible refine Ext.trans ?_ hb6 | with_reducible refine Ext.trans ?_ hb5 | with_reducible refine Ext.trans ?_ hb4 | with_reducible refine Ext.trans ?_ hb3 | with_reducible refine Ext.trans ?_ hb2 | with_reducible refine Ext.trans ?_ hb1 | with_reducible refine Ext.trans ?_ hw)))) (by omega) (by omega) ?_)
                  intro v5 w5 hO5 hb5 hg5 _
                  go_wp2
                  go_roundg (xs.length - (j + 1))
                  case rel => exact ⟨j + 1, rfl, hjl, rfl, hb5, by rw [hmE.out]; exact hO5⟩
                  case measure => omega
            · obtain rfl : j = xs.length := by omega
              rw [List.take_of_length_le (by simp)] at hO
              have hfin := fun y z => merge_final xs n (m : Int) hnl y z
              have hmap : ∀ (h : n < (xs.map (mE n m)).length), (xs.map (mE n m))[n]'h = mE n m xs[n] := fun h => List.getElem_map _
              have hlm : (xs.map (mE n m)).length = xs.length := List.length_map _
              generalize xs.map (mE n m) = zs at hO hfin hmap hlm
              have hnz : n < zs.length := by omega
              rcases hO.shape with ⟨_, h⟩ | ⟨g, c4, rfl, hg4, hgl⟩
              · subst h
                simp at hnz
              obtain ⟨c0, c1, c2', hbl⟩ := hO.rd.ent n hnz
              simp only [Nat.zero_add] at c0 c1 c2'
              have f1 := hO.frozen (n * 3 + 1)
              have f2 := hO.frozen (n * 3 + 2)
              have z1 := hO.set1 n 1 (.int .i64 m) ⟨zs[n].nm, m, zs[n].br⟩ hnz (by decide) rfl
              have z2 := z1.set1 n 2 (.int .i64 (-1)) ⟨xs[n].nm, m, -1⟩ (by rw [List.length_set]; exact hnz) (by decide) (by rw [List.getElem_set_self, hmap hnz]; rfl)
              rw [hfin _ zs[n], show n * encEnt.sz + 1 = n * 3 + 1 from rfl, show n * encEnt.sz + 2 = n * 3 + 2 from rfl] at z2
              have hw9 : Ext w ((wr.setCell ⟨g, n * 3 + 1, none⟩ (.int .i64 m)).setCell ⟨g, n * 3 + 2, none⟩ (.int .i64 (-1))) := Ext.set hg4 (Ext.set hg4 hw _) _
              rw [hlm] at z2
              clear z1 hO hfin hmap
              go_wp2
              refine bodyPost_ret (v := .tuple #[.slice (some ⟨g, 0, none⟩) zs.length c4, .int .i64 0]) (by simp [results, Tryd.results26, go_sem]) rfl ⟨_, by rw [hv2.out], ?_, hw9⟩
              rw [hv2.out, hlm]
              exact z2
      · have b2 : (xs[m].see != -1) = true := by simp [q2]
        have hv2 := hd (hv.out.trans (if_neg (fun h => q2 h.2.1)))
        go_wp2
        refine bodyPost_ret (v := .tuple #[.slice none 0 0, .int .i64 4]) (by simp [results, Tryd.results26, go_sem]) rfl ⟨_, by rw [hv2.out], ?_, hw1⟩
        rw [hv2.out]
        exact Ow.nil _ _ _ _
    · have b1 : (xs[n].see != -1) = true := by simp [q1]
      have hv2 := hd (hv.out.trans (if_neg (fun h => q1 h.1)))
      go_wp2
      refine bodyPost_ret (v := .tuple #[.slice none 0 0, .int .i64 4]) (by simp [results, Tryd.results26, go_sem]) rfl ⟨_, by rw [hv2.out], ?_, hw1⟩
      rw [hv2.out]
      exact Ow.nil _ _ _ _
  · have hv := hd (show mergeF xs i k = ([], atsF xs [i, k]) by unfold mergeF; rw [if_neg hz])
    have hz2 : (atsF xs [i, k] != 0) = true := by simp [hz]
    go_enter Tryd.func26, Tryd.ntmps26
    go_wp2_with fail
    refine Calls.mono (impl_checkEntries xs A cap [i, k] _ 2 _ (hC.ext (by ((repeat (first | with_reducible exact Ext.refl _ | with_reducible exact hw | with_reducible exact hb9 | with_reducible exact hb8 | with_reducible exact hb7 | with_reducible exact hb6 | with_reducible exact hb5 | with_reducible exact hb4 | with_reducible exact hb3 | with_reducible exact hb2 | with_reducible exact hb1 | with_reducible refine Ext.alloc ?_ _ | with_reducible refine Ext.drew ?_ | ((with_reducible refine Ext.set ?_ ?_ _); focus (dsimp only; omega)) | with_reducible refine Ext.trans ?_ hb9 | with_reducible refine Ext.trans ?_ hb8 | with_reducible refine Ext.trans ?_ hb7 | with_reducible refine Ext.trans ?_ hb6 | with_reducible refine Ext.trans ?_ hb5 | with_reducible refine Ext.trans ?_ hb4 | with_reducible refine Ext.trans ?_ hb3 | with_reducible refine Ext.trans ?_ hb2 | with_reducible refine Ext.trans ?_ hb1 | with_reducible refine Ext.trans ?_ hw))))) Rd.lit2 (by simp) (hG.ext (by ((repeat (first | with_reducible exact Ext.refl _ | with_reducible exact hw | with_reducible exact hb9 | with_reducible exact hb8 | with_reducible exact hb7 | with_reducible exact hb6 | with_reducible exact hb5 | with_reducible exact hb4 | with_reducible exact hb3 | with_reducible exact hb2 | with_reducible exact hb1 | with_reducible refine Ext.alloc ?_ _ | with_reducible refine Ext.drew ?_ | ((with_reducible refine Ext.set ?_ ?_ _); focus (dsimp only; omega)) | with_reducible refine Ext.trans ?_ hb9 | with_reducible refine Ext.trans ?_ hb8 | with_reducible refine Ext.trans ?_ hb7 | with_reducible refine Ext.trans ?_ hb6 | with_reducible refine Ext.trans ?_ hb5 | with_reducible refine Ext.trans ?_ hb4 | with_reducible refine Ext.trans ?_ hb3 | with_reducible refine Ext.trans ?_ hb2 | with_reducible refine Ext.trans ?_ hb1 | with_reducible refine Ext.trans ?_ hw)))))) ?_
    rintro e w1 ⟨rfl, hb1⟩
    go_wp2
    refine bodyPost_ret (v := .tuple #[.slice none 0 0, .int .i64 (atsF xs [i, k])]) (by simp [results, Tryd.results26, go_sem]) rfl ⟨_, by rw [hv.out], ?_, by ((repeat (first | with_reducible exact Ext.refl _ | with_reducible exact hw | with_reducible exact hb9 | with_reducible exact hb8 | with_reducible exact hb7 | with_reducible exact hb6 | with_reducible exact hb5 | with_reducible exact hb4 | with_reducible exact hb3 | with_reducible exact hb2 | with_reducible exact hb1 | with_reducible refine Ext.alloc ?_ _ | with_reducible refine Ext.drew ?_ | ((with_reducible refine Ext.set ?_ ?_ _); focus (dsimp only; omega)) | with_reducible refine Ext.trans ?_ hb9 | with_reducible refine Ext.trans ?_ hb8 | with_reducible refine Ext.trans ?_ hb7 | with_reducible refine Ext.trans ?_ hb6 | with_reducible refine Ext.trans ?_ hb5 | with_reducible refine Ext.trans ?_ hb4 | with_reducible refine Ext.trans ?_ hb3 | with_reducible refine Ext.trans ?_ hb2 | with_reducible refine Ext.trans ?_ hb1 | with_reducible refine Ext.trans ?_ hw)))⟩
    rw [hv.out]
    exact Ow.nil _ _ _ _
set_option maxHeartbeats 2000000 in
theorem spec_MergeEntries (xs : List Ent) (A : Option Addr) (cap : Nat) (i k : Int) (w : World) (hC : CatArg w A cap xs) :
    Calls Tryd.prog 25 #[.slice A xs.length cap, .int .i64 i, .int .i64 k] w fun e w' => ∃ v, e = .returned (.tuple #[v, .int .i64 (mergeF xs i k).2]) ∧ Ow encEnt 49 w' w.heap.size v (mergeF xs i k).1 ∧ Ext w w' := by
  have hlen0 := hC.len
  have hpair := atsF_pair xs i k
  by_cases hi : atsF xs [i] = 0
  · rw [if_pos hi] at hpair
    by_cases hk : atsF xs [k] = 0
    · have hz : atsF xs [i, k] = 0 := hpair.trans hk
      obtain ⟨hc, ⟨h0, h1⟩, ⟨h2, h3⟩⟩ := atsF_two hz
      have hlen := cat_len hc
      obtain ⟨n, rfl⟩ : ∃ n : Nat, i = n := ⟨i.toNat, by omega⟩
      obtain ⟨m, rfl⟩ : ∃ m : Nat, k = m := ⟨k.toNat, by omega⟩
      have hnl : n < xs.length := by omega
      have hml : m < xs.length := by omega
      have hv := hd (show mergeF xs n m = if xs[n].see = -1 ∧ xs[m].see = -1 ∧ hasI (pathL xs m) n = false then (mergeL xs n m, 0) else ([], 4) by unfold mergeF; rw [if_pos hz, Int.toNat_natCast, Int.toNat_natCast, getBang xs n hnl, getBang xs m hml])
      obtain ⟨b, off, hA, hlt, _⟩ := hC.rd n hnl
      subst hA
      have hpl := pathL_len xs m
      clear hpair hz
      go_enter Tryd.func25, Tryd.ntmps25
      go_wp2_with fail
      refine Calls.mono (spec_l05At xs _ cap n _ hC) ?_
      rintro e w1 ⟨rfl, hb1⟩
      rw [hi]
      go_wp2_with fail
      refine Calls.mono (spec_l05At xs _ cap m _ (hC.ext hb1)) ?_
      rintro e w2 ⟨rfl, hb2⟩
      rw [hk]
      have hw1 : Ext w w2 := hb1.trans hb2
      clear hb1 hb2
      obtain ⟨n0, n1, n2, n3⟩ := (hC.rd.ext hw1).ent n hnl
      obtain ⟨k0, k1, k2, k3⟩ := (hC.rd.ext hw1).ent m hml
      by_cases q1 : xs[n].see = -1
      · have b1 : (xs[n].see != -1) = false := by simp [q1]
        by_cases q2 : xs[m].see = -1
        · have b2 : (xs[m].see != -1) = false := by simp [q2]
          go_wp2_with fail
          refine Calls.mono (spec_l05Path xs _ cap m _ (hC.rd.ext hw1) hc (by omega) (by omega)) ?_
          rintro e w3 ⟨v3, rfl, hO3, hb3⟩
          obtain ⟨A3, c3, rfl, hle3, hR3⟩ := hO3.slice
          have hw3 := hw1.trans hb3
          go_wp2_with fail
          refine Calls.mono (spec_l05In (pathL xs m) _ _ n _ hR3 (by omega)) ?_
          rintro e w4 ⟨rfl, hb4⟩
          have hw4 := hw3.trans hb4
          clear hO3 hR3 hb3 hb4 hw1 hw3 n0 n1 n2 n3 k0 k1 k2 k3
          cases q3 : hasI (pathL xs m) n with
          | true =>
            have hv2 := hd (hv.out.trans (if_neg (by rw [q3]; simp)))
            go_wp2
            refine bodyPost_ret (v := .tuple #[_, .int .i64 4]) (by simp [results, Tryd.results25, go_sem]; rfl) rfl ⟨_, by rw [hv2.out], ?_, hw4.alloc _⟩
            rw [hv2.out]
            exact Ow.made0 rfl hw4.size
          | false =>
            have hv2 := hd (hv.out.trans (if_pos ⟨q1, q2, q3⟩))
            have hcat : catB (mergeL xs n m) = true := merge_cat hc n m hnl hml (by rw [getBang xs n hnl]; exact q1) (by rw [getBang xs m hml]; exact q2) (fun h => by rw [(hasI_mem _ _).2 h] at q3; cases q3)
            clear hv
            go_wp2_with fail
            refine Calls.mono (spec_l05Copy xs _ cap _ (hC.ext hw4)) ?_
            rintro e w5 ⟨v5, rfl, hO5, hb5⟩
            have hw5 := hw4.trans hb5
            have hO5' := hO5.lower (base' := w.heap.size) hw4.size
            rcases hO5'.shape with ⟨_, h⟩ | ⟨g, c5, rfl, hg5, hgl⟩
            · subst h
              simp at hnl
            clear hO5 hb5 hw4
            go_wp2
            go_loopg [10] xs.length (fun g' i wr => ∃ j : Nat, g' = xs.length - j ∧ j ≤ xs.length ∧ i = .int .i64 j ∧ Ext w wr ∧ Ow encEnt 49 wr w.heap.size (.slice (some ⟨g, 0, none⟩) xs.length c5) (mTo xs n m j))
            case atStart => exact ⟨0, by omega, by omega, rfl, hw5, by rw [mTo_zero]; exact hO5'⟩
            case round =>
              obtain ⟨j, hg', hj, rfl, hw, hO⟩ := hrel
              have hml2 := mTo_len xs n m j hj
              by_cases hjl : j < xs.length
              · have both := (stand_parts (stands_at (cat_stands hc) j hjl)).2.2.2.2
                rw [getBang xs j hjl] at both
                have hset := mTo_set xs n m j hjl
                have hatj := fun h => mTo_at xs n m j hjl h
                generalize mTo xs n m j = zs at hO hml2 hset hatj
                have hjz : j < zs.length := by omega
                have hzj := hatj hjz
                obtain ⟨c0, c1, c2, hbl⟩ := hO.rd.ent j hjz
                rw [hzj] at c0 c1 c2
                simp only [Nat.zero_add] at c0 c1 c2
                have f1 := hO.frozen (j * 3 + 1)
                have f2 := hO.frozen (j * 3 + 2)
                by_cases r1 : xs[j].br = n
                · have r2 : ¬ xs[j].see = n := by
                    intro h
                    rcases both with h5 | h5 <;> omega
                  have z2 := hO.set1 j 2 (.int .i64 m) (mE n m xs[j]) hjz (by decide) (by rw [hzj]; unfold mE; rw [r1, redir_hit, redir_miss r2]; rfl)
                  rw [hset, show j * encEnt.sz + 2 = j * 3 + 2 from rfl] at z2
                  have hw9 : Ext w (wr.setCell ⟨g, j * 3 + 2, none⟩ (.int .i64 m)) := Ext.set hg5 hw _
                  clear hO hset hatj both
                  go_wp2
                  go_roundg (xs.length - (j + 1))
                  case rel => exact ⟨j + 1, rfl, hjl, rfl, hw9, z2⟩
                  case measure => omega
                · by_cases r2 : xs[j].see = n
                  · have z2 := hO.set1 j 1 (.int .i64 m) (mE n m xs[j]) hjz (by decide) (by rw [hzj]; unfold mE; rw [r2, redir_hit, redir_miss r1]; rfl)
                    rw [hset, show j * encEnt.sz + 1 = j * 3 + 1 from rfl] at z2
                    have hw9 : Ext w (wr.setCell ⟨g, j * 3 + 1, none⟩ (.int .i64 m)) := Ext.set hg5 hw _
                    clear hO hset hatj both
                    go_wp2
                    go_roundg (xs.length - (j + 1))
                    case rel => exact ⟨j + 1, rfl, hjl, rfl, hw9, z2⟩
                    case measure => omega
                  · have hsame : zs.set j (mE n m xs[j]) = zs := by
                      rw [show mE n m xs[j] = zs[j] from by rw [hzj]; unfold mE; rw [redir_miss r2, redir_miss r1]]
                      exact List.set_getElem_self hjz
                    rw [hsame] at hset
                    rw [hset] at hO
                    clear hset hatj both hsame
                    go_wp2
                    go_roundg (xs.length - (j + 1))
                    case rel => exact ⟨j + 1, rfl, hjl, rfl, hw, hO⟩
                    case measure => omega
              · obtain rfl : j = xs.length := by omega
                rw [mTo_end] at hO
                have hfin := fun y z => merge_final xs n (m : Int) hnl y z
                have hmap : ∀ (h : n < (xs.map (mE n m)).length), (xs.map (mE n m))[n]'h = mE n m xs[n] := fun h => List.getElem_map _
                have hlm : (xs.map (mE n m)).length = xs.length := List.length_map _
                generalize xs.map (mE n m) = zs at hO hfin hmap hlm
                have hnz : n < zs.length := by omega
                obtain ⟨c0, c1, c2', hbl⟩ := hO.rd.ent n hnz
                simp only [Nat.zero_add] at c0 c1 c2'
                have f1 := hO.frozen (n * 3 + 1)
                have f2 := hO.frozen (n * 3 + 2)
                have z1 := hO.set1 n 1 (.int .i64 m) ⟨zs[n].nm, m, zs[n].br⟩ hnz (by decide) rfl
                have z2 := z1.set1 n 2 (.int .i64 (-1)) ⟨xs[n].nm, m, -1⟩ (by rw [List.length_set]; exact hnz) (by decide) (by rw [List.getElem_set_self, hmap hnz]; rfl)
                rw [hfin _ zs[n], show n * encEnt.sz + 1 = n * 3 + 1 from rfl, show n * encEnt.sz + 2 = n * 3 + 2 from rfl] at z2
                have hw9 : Ext w ((wr.setCell ⟨g, n * 3 + 1, none⟩ (.int .i64 m)).setCell ⟨g, n * 3 + 2, none⟩ (.int .i64 (-1))) := Ext.set hg5 (Ext.set hg5 hw _) _
                have hmd : madeF (mergeL xs n m) = (mergeL xs n m, 0) := by unfold madeF; rw [hcat]; rfl
                have hms := fun W hO hb => spec_l05Made (mergeL xs n m) (.slice (some ⟨g, 0, none⟩) xs.length c5) w.heap.size W hO hb (by rw [mergeL_len]; exact hC.len) (mergeL_ok hC.ok n m hnl)
                rw [hmd] at hms
                clear z1 hO hfin hmap hmd
                go_wp2_with fail
                refine Calls.mono (hms _ z2 (by have := hw.size; simp; omega)) ?_
                rintro e w10 ⟨v10, rfl, hO10, hb10⟩
                go_wp2
                refine bodyPost_ret (v := .tuple #[v10, .int .i64 0]) (by simp [results, Tryd.results25, go_sem]) rfl ⟨_, by rw [hv2.out], ?_, hw9.trans hb10⟩
                rw [hv2.out]
                exact hO10
        · have b2 : (xs[m].see != -1) = true := by simp [q2]
          have hv2 := hd (hv.out.trans (if_neg (fun h => q2 h.2.1)))
          go_wp2
          refine bodyPost_ret (v := .tuple #[_, .int .i64 4]) (by simp [results, Tryd.results25, go_sem]; rfl) rfl ⟨_, by rw [hv2.out], ?_, hw1.alloc _⟩
          rw [hv2.out]
          exact Ow.made0 rfl hw1.size
      · have b1 : (xs[n].see != -1) = true := by simp [q1]
        have hv2 := hd (hv.out.trans (if_neg (fun h => q1 h.1)))
        go_wp2
        refine bodyPost_ret (v := .tuple #[_, .int .i64 4]) (by simp [results, Tryd.results25, go_sem]; rfl) rfl ⟨_, by rw [hv2.out], ?_, hw1.alloc _⟩
        rw [hv2.out]
        exact Ow.made0 rfl hw1.size
    · have hz : ¬ atsF xs [i, k] = 0 := fun h => hk (hpair.symm.trans h)
      have hv := hd (show mergeF xs i k = ([], atsF xs [k]) by unfold mergeF; rw [if_neg hz, hpair])
      have hk2 : (atsF xs [k] != 0) = true := by simp [hk]
      clear hz hpair
      go_enter Tryd.func25, Tryd.ntmps25
      go_wp2_with fail
      refine Calls.mono (spec_l05At xs A cap i _ hC) ?_
      rintro e w1 ⟨rfl, hb1⟩
      rw [hi]
      go_wp2_with fail
      refine Calls.mono (spec_l05At xs A cap k _ (hC.ext hb1)) ?_
      rintro e w2 ⟨rfl, hb2⟩
      have hw2 := hb1.trans hb2
      go_wp2
      refine bodyPost_ret (v := .tuple #[_, .int .i64 (atsF xs [k])]) (by simp [results, Tryd.results25, go_sem]; rfl) rfl ⟨_, by rw [hv.out], ?_, hw2.alloc _⟩
      rw [hv.out]
      exact Ow.made0 rfl hw2.size
  · rw [if_neg hi] at hpair
    have hz : ¬ atsF xs [i, k] = 0 := fun h => hi (hpair.symm.trans h)
    have hv := hd (show mergeF xs i k = ([], atsF xs [i]) by unfold mergeF; rw [if_neg hz, hpair])
    have hi2 : (atsF xs [i] != 0) = true := by simp [hi]
    have hi3 : (atsF xs [i] = 0) = False := by simp [hi]
    clear hz hpair
    go_enter Tryd.func25, Tryd.ntmps25
    go_wp2_with fail
    refine Calls.mono (spec_l05At xs A cap i _ hC) ?_
    rintro e w1 ⟨rfl, hb1⟩
    go_wp2
    refine bodyPost_ret (v := .tuple #[_, .int .i64 (atsF xs [i])]) (by simp [results, Tryd.results25, go_sem]; rfl) rfl ⟨_, by rw [hv.out], ?_, by ((repeat (first | with_reducible exact Ext.refl _ | with_reducible exact hw | with_reducible exact hb9 | with_reducible exact hb8 | with_reducible exact hb7 | with_reducible exact hb6 | with_reducible exact hb5 | with_reducible exact hb4 | with_reducible exact hb3 | with_reducible exact hb2 | with_reducible exact hb1 | with_reducible refine Ext.alloc ?_ _ | with_reducible refine Ext.drew ?_ | ((with_reducible refine Ext.set ?_ ?_ _); focus (dsimp only; omega)) | with_reducible refine Ext.trans ?_ hb9 | with_reducible refine Ext.trans ?_ hb8 | with_reducible refine Ext.trans ?_ hb7 | with_reducible refine Ext.trans ?_ hb6 | with_reducible refine Ext.trans ?_ hb5 | with_reducible refine Ext.trans ?_ hb4 | with_reducible refine Ext.trans ?_ hb3 | with_reducible refine Ext.trans ?_ hb2 | with_reducible refine Ext.trans ?_ hb1 | with_reducible refine Ext.trans ?_ hw)))⟩
    rw [hv.out]
    exact Ow.made0 rfl hb1.size
