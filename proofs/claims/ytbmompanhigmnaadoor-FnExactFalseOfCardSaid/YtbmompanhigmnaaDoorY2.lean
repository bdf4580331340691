/-
  Contracts of the functions that look for false drops, and of FalseOf, program's and reference's.
-/
import Derived.Test.YtbmompanhigmnaaDoorY1
import Derived.Test.YtbmompanhigmnaaDoorShelf
set_option linter.unusedVariables false
set_option linter.unusedSimpArgs false
set_option maxRecDepth 100000
namespace Go.Proofs.YtbmompanhigmnaaDoor
open Go.RowKit
theorem getL (lot : List (List ByteArray)) (k : Nat) (hk : k < lot.length) : lot.getD k [] = lot[k] := by rw [List.getD, List.getElem?_eq_getElem hk]; rfl
theorem ba_beq (a b : ByteArray) : (a == b) = (a.data == b.data) := by cases a; cases b; rfl
instance : LawfulBEq ByteArray where
  eq_of_beq {a b} h := by
    rw [ba_beq] at h
    cases a; cases b
    simp at h
    rw [h]
  rfl {a} := by rw [ba_beq]; simp
theorem contains_any (ws : List ByteArray) (s : ByteArray) : ws.contains s = ws.any (fun t => strB t s) := by
  rw [Bool.eq_iff_iff, List.contains_iff_mem, List.any_eq_true]
  constructor
  · intro h; exact ⟨s, h, strB_refl s⟩
  · rintro ⟨t, h1, h2⟩; rw [← (strB_iff t s).1 h2]; exact h1
/-- The lists that have all words. -/
def trueL (lot : List (List ByteArray)) (ws : List ByteArray) (n : Nat) : List Int := idxTo (fun i => hasAllB (lot.getD i []) ws) n
theorem trueL_zero (lot : List (List ByteArray)) (ws : List ByteArray) : trueL lot ws 0 = [] := rfl
theorem trueL_hit {lot : List (List ByteArray)} {ws : List ByteArray} {k : Nat} (hk : k < lot.length) (hq : hasAllB lot[k] ws = true) : trueL lot ws (k + 1) = trueL lot ws k ++ [(k : Int)] := idxTo_hit _ k (by rw [getL lot k hk]; exact hq)
theorem trueL_miss {lot : List (List ByteArray)} {ws : List ByteArray} {k : Nat} (hk : k < lot.length) (hq : hasAllB lot[k] ws = false) : trueL lot ws (k + 1) = trueL lot ws k := idxTo_miss _ k (by rw [getL lot k hk]; exact hq)
theorem trueL_len (lot : List (List ByteArray)) (ws : List ByteArray) (n : Nat) : (trueL lot ws n).length ≤ n := idxTo_len _ n
theorem false_spec (x : Mx) (lot : List (List ByteArray)) (ws : List ByteArray) : (droppedL (wallM x ws) (masksL x lot) lot.length).filter (fun v => !(trueL lot ws lot.length).contains v) = falseL x lot ws := by
  rw [← falseL_spec]
  congr 1
  unfold droppedL
  refine idxTo_congr _ fun i hi => ?_
  rw [getM _ i (by rw [masksL_len]; exact hi), getL lot i hi]
  unfold masksL
  rw [List.getElem_map]
/-- The false drops among the first n lists. -/
noncomputable def falseTo (x : Mx) (lot : List (List ByteArray)) (ws : List ByteArray) (n : Nat) : List Int := idxTo (fun i => mwin (wallM x ws) (wallM x (lot.getD i [])) && !hasAllB (lot.getD i []) ws) n
theorem falseTo_all (x : Mx) (lot : List (List ByteArray)) (ws : List ByteArray) : falseTo x lot ws lot.length = falseL x lot ws := rfl
theorem falseTo_zero (x : Mx) (lot : List (List ByteArray)) (ws : List ByteArray) : falseTo x lot ws 0 = [] := rfl
theorem falseTo_hit {x : Mx} {lot : List (List ByteArray)} {ws : List ByteArray} {k : Nat} (hk : k < lot.length) (h1 : mwin (wallM x ws) (wallM x lot[k]) = true) (h2 : hasAllB lot[k] ws = false) : falseTo x lot ws (k + 1) = falseTo x lot ws k ++ [(k : Int)] :=
  idxTo_hit _ k (by rw [getL lot k hk, h1, h2]; rfl)
theorem falseTo_miss1 {x : Mx} {lot : List (List ByteArray)} {ws : List ByteArray} {k : Nat} (hk : k < lot.length) (h1 : mwin (wallM x ws) (wallM x lot[k]) = false) : falseTo x lot ws (k + 1) = falseTo x lot ws k :=
  idxTo_miss _ k (by rw [getL lot k hk, h1]; rfl)
theorem falseTo_miss2 {x : Mx} {lot : List (List ByteArray)} {ws : List ByteArray} {k : Nat} (hk : k < lot.length) (h2 : hasAllB lot[k] ws = true) : falseTo x lot ws (k + 1) = falseTo x lot ws k :=
  idxTo_miss _ k (by rw [getL lot k hk, h2]; cases mwin (wallM x ws) (wallM x lot[k]) <;> rfl)
theorem falseTo_len (x : Mx) (lot : List (List ByteArray)) (ws : List ByteArray) (n : Nat) : (falseTo x lot ws n).length ≤ n := idxTo_len _ n
attribute [irreducible] trueL falseTo
noncomputable def falseF (x : Mx) (lot : List (List ByteArray)) (ws : List ByteArray) : List Int × Int :=
  if mixB x = true then (if (lotB lot && wordsB ws 12) = true then (falseL x lot ws, 0) else ([], 2)) else ([], 1)
theorem false_bad {x : Mx} {lot : List (List ByteArray)} {ws : List ByteArray} (h : mixB x = false) : falseF x lot ws = ([], 1) := by unfold falseF; rw [h]; rfl
theorem false_far {x : Mx} {lot : List (List ByteArray)} {ws : List ByteArray} (h : mixB x = true) (h2 : (lotB lot && wordsB ws 12) = false) : falseF x lot ws = ([], 2) := by unfold falseF; rw [h, h2]; rfl
theorem false_ok {x : Mx} {lot : List (List ByteArray)} {ws : List ByteArray} (h : mixB x = true) (h2 : (lotB lot && wordsB ws 12) = true) : falseF x lot ws = (falseL x lot ws, 0) := by unfold falseF; rw [h, h2]; rfl
theorem false_len (x : Mx) (lot : List (List ByteArray)) (ws : List ByteArray) : (falseF x lot ws).1.length ≤ 1048576 := by
  unfold falseF
  split
  · split
    · rename_i h
      rw [Bool.and_eq_true] at h
      have h1 := (lot_all h.1).1
      have h2 := falseTo_len x lot ws lot.length
      rw [falseTo_all] at h2
      show (falseL x lot ws).length ≤ _
      omega
    · simp
  · simp
set_option maxHeartbeats 400000 in
theorem slices_Contains_str (ls : List ByteArray) (A : Option Addr) (n cap : Nat) (hnx : n = ls.length) (s : ByteArray) (w : World) (hR : Rd encStr w A ls) (hn : ls.length ≤ 1048576) :
    Calls Tryd.prog 99 #[.slice A n cap, .string s] w fun e w' => e = .returned (.bool (ls.contains s)) ∧ Ext w w' := by
  subst hnx
  cases ls with
  | nil =>
    refine (Tryd.slices_Contains_string_empty A cap s w).mono ?_
    rintro e w' ⟨rfl, rfl⟩
    exact ⟨rfl, Ext.refl _⟩
  | cons l0 ls =>
    obtain ⟨b, off, rfl, hlt, _⟩ := hR 0 (by simp)
    refine (Tryd.slices_Contains_string b off (l0 :: ls).length cap (l0 :: ls) s w (Nat.le_refl _) (by omega) (fun j hj => by rw [hR.str j hj, List.getD, List.getElem?_eq_getElem hj]; rfl)).mono ?_
    rintro e w' ⟨rfl, rfl⟩
    refine ⟨?_, Ext.refl _⟩
    rw [List.take_length]
    congr 2
    rw [Bool.eq_iff_iff, Lib.containsS_iff, List.contains_iff_mem]
set_option maxHeartbeats 400000 in
theorem impl_hasAll1 (ls : List ByteArray) (B : Option Addr) (cap b : Nat) (s : ByteArray) (w : World) (hc : w.cell? ⟨b, 0, none⟩ = some (.slice B ls.length cap)) (hR : Rd encStr w B ls) (hn : ls.length ≤ 1048576) :
    Calls Tryd.prog 114 #[.string s, .pointer (some ⟨b, 0, none⟩)] w fun e w' => e = .returned (.bool (!ls.contains s)) ∧ Ext w w' := by
  have hlt := World.block_lt_of_cell? _ _ hc
  dsimp only at hlt
  have hcall := fun (W : World) (hE : Ext w W) => slices_Contains_str ls B _ cap rfl s W (hR.ext hE) hn
  generalize ls.contains s = q at hcall
  go_enter Tryd.func114, Tryd.ntmps114
  go_wp2_with fail
  refine Calls.mono (hcall _ (Ext.refl _)) ?_
  rintro e w1 ⟨rfl, hb1⟩
  go_wp2
  go_ret
  exact ⟨rfl, by ((repeat (first | with_reducible exact Ext.refl _ | with_reducible exact hw | with_reducible exact hb9 | with_reducible exact hb8 | with_reducible exact hb7 | with_reducible exact hb6 | with_reducible exact hb5 | with_reducible exact hb4 | with_reducible exact hb3 | with_reducible exact hb2 | with_reducible exact hb1 | with_reducible refine Ext.alloc ?_ _ | with_reducible refine Ext.drew ?_ | ((with_reducible refine Ext.set ?_ ?_ _); focus (dsimp only; omega)) | with_reducible refine Ext.trans ?_ hb9 | with_reducible refine Ext.trans ?_ hb8 | with_reducible refine Ext.trans ?_ hb7 | with_reducible refine Ext.trans ?_ hb6 | with_reducible refine Ext.trans ?_ hb5 | with_reducible refine Ext.trans ?_ hb4 | with_reducible refine Ext.trans ?_ hb3 | with_reducible refine Ext.trans ?_ hb2 | with_reducible refine Ext.trans ?_ hb1 | with_reducible refine Ext.trans ?_ hw)))⟩
set_option maxHeartbeats 400000 in
theorem slices_IndexFunc_hasAll (xs : List ByteArray) (A : Option Addr) (n cap : Nat) (w : World) (hnx : n = xs.length) (hR : Rd encStr w A xs) (hn : n ≤ 1048576) (ls : List ByteArray) (B : Option Addr) (cl bx : Nat) (hc : w.cell? ⟨bx, 0, none⟩ = some (.slice B ls.length cl)) (hL : Rd encStr w B ls) (hnl : ls.length ≤ 1048576) :
    Calls Tryd.prog 112 #[.slice A n cap, .func (.func 114) #[] #[.pointer (some ⟨bx, 0, none⟩)]] w fun e w' => e = .returned (.int .i64 (fidx (fun s : ByteArray => !ls.contains s) xs)) ∧ Ext w w' := by
  subst hnx
  go_enter Tryd.func112, Tryd.ntmps112
  go_wp2
  go_loopg [8] xs.length (fun g i wr => ∃ k : Nat, g = xs.length - k ∧ k ≤ xs.length ∧ i = .int .i64 k ∧ Ext w wr ∧ (xs.take k).any (fun s : ByteArray => !ls.contains s) = false)
  case atStart => exact ⟨0, by omega, by omega, rfl, Ext.refl _, by rw [List.take_zero]; rfl⟩
  case round =>
    obtain ⟨k, hg, hk, rfl, hw, hQ⟩ := hrel
    by_cases hkl : k < xs.length
    · obtain ⟨b, off, hA, hlt, _⟩ := hR k hkl
      subst hA
      obtain ⟨m0, m1⟩ := (hR.ext hw).strs k hkl
      have hs := any_take (fun s : ByteArray => !ls.contains s) xs k hkl
      rw [hQ, Bool.false_or] at hs
      cases hq : (fun s : ByteArray => !ls.contains s) xs[k] with
      | true =>
        have hM := fidx_hit (fun s : ByteArray => !ls.contains s) xs k hkl hq hQ
        try dsimp only at hq
        clear hs hQ
        go_wp2_with fail
        refine Calls.mono (impl_hasAll1 ls B cl bx xs[k] _ (hw.cell hc) (hL.ext hw) hnl) ?_
        rintro e w1 ⟨rfl, hb1⟩
        simp only [hq]
        go_wp2
        go_ret
        exact ⟨by rw [hM]; rfl, by ((repeat (first | with_reducible exact Ext.refl _ | with_reducible exact hw | with_reducible exact hb9 | with_reducible exact hb8 | with_reducible exact hb7 | with_reducible exact hb6 | with_reducible exact hb5 | with_reducible exact hb4 | with_reducible exact hb3 | with_reducible exact hb2 | with_reducible exact hb1 | with_reducible refine Ext.alloc ?_ _ | with_reducible refine Ext.drew ?_ | ((with_reducible refine Ext.set ?_ ?_ _); focus (dsimp only; omega)) | with_reducible refine Ext.trans ?_ hb9 | with_reducible refine Ext.trans ?_ hb8 | with_reducible refine Ext.trans ?_ hb7 | with_reducible refine Ext.trans ?_ hb6 | with_reducible refine Ext.trans ?_ hb5 | with_reducible refine Ext.trans ?_ hb4 | with_reducible refine Ext.trans ?_ hb3 | with_reducible refine Ext.trans ?_ hb2 | with_reducible refine Ext.trans ?_ hb1 | with_reducible refine Ext.trans ?_ hw)))⟩
      | false =>
        have hs2 := hd (hs.trans hq)
        try dsimp only at hq
        clear hs hQ
        go_wp2_with fail
        refine Calls.mono (impl_hasAll1 ls B cl bx xs[k] _ (hw.cell hc) (hL.ext hw) hnl) ?_
        rintro e w1 ⟨rfl, hb1⟩
        simp only [hq]
        go_wp2
        go_roundg (xs.length - (k + 1))
        case rel => exact ⟨k + 1, rfl, hkl, rfl, by ((repeat (first | with_reducible exact Ext.refl _ | with_reducible exact hw | with_reducible exact hb9 | with_reducible exact hb8 | with_reducible exact hb7 | with_reducible exact hb6 | with_reducible exact hb5 | with_reducible exact hb4 | with_reducible exact hb3 | with_reducible exact hb2 | with_reducible exact hb1 | with_reducible refine Ext.alloc ?_ _ | with_reducible refine Ext.drew ?_ | ((with_reducible refine Ext.set ?_ ?_ _); focus (dsimp only; omega)) | with_reducible refine Ext.trans ?_ hb9 | with_reducible refine Ext.trans ?_ hb8 | with_reducible refine Ext.trans ?_ hb7 | with_reducible refine Ext.trans ?_ hb6 | with_reducible refine Ext.trans ?_ hb5 | with_reducible refine Ext.trans ?_ hb4 | with_reducible refine Ext.trans ?_ hb3 | with_reducible refine Ext.trans ?_ hb2 | with_reducible refine Ext.trans ?_ hb1 | with_reducible refine Ext.trans ?_ hw))), hs2.out⟩
        case measure => omega
    · obtain rfl : k = xs.length := by omega
      rw [List.take_length] at hQ
      have hM := fidx_none (fun s : ByteArray => !ls.contains s) xs hQ
      go_wp2
      go_ret
      exact ⟨by rw [hM]; rfl, hw⟩

set_option maxHeartbeats 400000 in
theorem slices_ContainsFunc_hasAll (ws : List ByteArray) (A : Option Addr) (cap : Nat) (w : World) (hR : Rd encStr w A ws) (hn : ws.length ≤ 1048576) (ls : List ByteArray) (B : Option Addr) (cl bx : Nat) (hc : w.cell? ⟨bx, 0, none⟩ = some (.slice B ls.length cl)) (hL : Rd encStr w B ls) (hnl : ls.length ≤ 1048576) :
    Calls Tryd.prog 92 #[.slice A ws.length cap, .func (.func 114) #[] #[.pointer (some ⟨bx, 0, none⟩)]] w fun e w' => e = .returned (.bool (!hasAllB ls ws)) ∧ Ext w w' := by
  have hI := slices_IndexFunc_hasAll ws A _ cap w rfl hR hn ls B cl bx hc hL hnl
  have hv := fidx_ge (fun s : ByteArray => !ls.contains s) ws
  have hm : (!hasAllB ls ws) = decide (fidx (fun s : ByteArray => !ls.contains s) ws ≥ 0) := by
    unfold hasAllB
    rw [List.not_all_eq_any_not, Bool.eq_iff_iff, decide_eq_true_iff]
    exact hv.symm
  generalize fidx (fun s : ByteArray => !ls.contains s) ws = q at hm hI
  rw [hm]
  clear hm hv
  go_enter Tryd.func92, Tryd.ntmps92
  go_wp2_with fail
  refine Calls.mono (hI) ?_
  rintro e w1 ⟨rfl, hb1⟩
  go_wp2
  go_ret
  exact ⟨rfl, hb1⟩
set_option maxHeartbeats 400000 in
theorem impl_hasAll (ls : List ByteArray) (B : Option Addr) (cl : Nat) (ws : List ByteArray) (A : Option Addr) (cap : Nat) (w : World) (hL : Rd encStr w B ls) (hnl : ls.length ≤ 1048576) (hR : Rd encStr w A ws) (hn : ws.length ≤ 1048576) :
    Calls Tryd.prog 95 #[.slice B ls.length cl, .slice A ws.length cap] w fun e w' => e = .returned (.bool (hasAllB ls ws)) ∧ Ext w w' := by
  have hE0 : Ext w (w.alloc (.cells #[.slice B ls.length cl] 38)) := (Ext.refl _).alloc _
  have hX : BoxAt (w.alloc (.cells #[.slice B ls.length cl] 38)) w.heap.size #[.slice B ls.length cl] 38 := BoxAt.new' rfl
  have hcall := slices_ContainsFunc_hasAll ws A cap _ (hR.ext hE0) hn ls B cl w.heap.size (hX.cell 0) (hL.ext hE0) hnl
  generalize hasAllB ls ws = q at hcall
  clear hX
  go_enter Tryd.func95, Tryd.ntmps95
  go_wp2_with fail
  refine Calls.mono (hcall) ?_
  rintro e w1 ⟨rfl, hb1⟩
  go_wp2
  go_ret
  exact ⟨by first | rfl | rw [Bool.not_not], hE0.trans hb1⟩
set_option maxHeartbeats 400000 in
theorem spec_l03Has (ls : List ByteArray) (A : Option Addr) (n cap : Nat) (hnx : n = ls.length) (s : ByteArray) (w : World) (hR : Rd encStr w A ls) (hn : ls.length ≤ 1048576) :
    Calls Tryd.prog 111 #[.slice A n cap, .string s] w fun e w' => e = .returned (.bool (ls.contains s)) ∧ Ext w w' := by
  subst hnx
  rw [contains_any]
  go_enter Tryd.func111, Tryd.ntmps111
  go_wp2
  go_loopg [5] ls.length (fun g i wr => ∃ k : Nat, g = ls.length - k ∧ k ≤ ls.length ∧ i = .int .i64 k ∧ Hd ((ls.take k).any (fun t => strB t s) = false) ∧ Ext w wr)
  case atStart => exact ⟨0, by omega, by omega, rfl, hd (by rw [List.take_zero]; rfl), Ext.refl _⟩
  case round =>
    obtain ⟨k, hg, hk, rfl, hC, hw⟩ := hrel
    by_cases hkl : k < ls.length
    · obtain ⟨b, off, hA, hlt, _⟩ := hR k hkl
      subst hA
      obtain ⟨m0, m1⟩ := (hR.ext hw).strs k hkl
      have hs := any_take (fun t => strB t s) ls k hkl
      rw [hC.out, Bool.false_or] at hs
      have hs := hd hs
      have hit := fun h => hd (any_hit (fun t => strB t s) ls k hkl h)
      cases hq : strB ls[k] s with
      | true =>
        have hv := hit hq
        have hq2 : (ls[k].toList == s.toList) = true := hq
        clear hs hit hq hC
        go_wp2
        go_ret
        exact ⟨by rw [hv.out]; rfl, hw⟩
      | false =>
        have hs2 := hd (hs.out.trans hq)
        have hq2 : (ls[k].toList == s.toList) = false := hq
        clear hs hit hq hC
        go_wp2
        go_roundg (ls.length - (k + 1))
        case rel => exact ⟨k + 1, rfl, hkl, by simp, hs2, hw⟩
        case measure => omega
    · obtain rfl : k = ls.length := by omega
      have hC2 := hC.out
      rw [List.take_length] at hC2
      have hv := hd hC2
      clear hC hC2
      go_wp2
      go_ret
      exact ⟨by rw [hv.out]; rfl, hw⟩
set_option maxHeartbeats 400000 in
theorem spec_l00Has (ls : List Int) (A : Option Addr) (n cap : Nat) (hnx : n = ls.length) (x : Int) (w : World) (hR : Rd encI64 w A ls) (hn : ls.length ≤ 1048576) :
    Calls Tryd.prog 91 #[.slice A n cap, .int .i64 x] w fun e w' => e = .returned (.bool (ls.contains x)) ∧ Ext w w' := by
  subst hnx
  rw [show ls.contains x = ls.any (fun t => t == x) by rw [Bool.eq_iff_iff, List.contains_iff_mem, List.any_eq_true]; exact ⟨fun h => ⟨x, h, by simp⟩, fun ⟨t, h1, h2⟩ => by rw [beq_iff_eq] at h2; rw [← h2]; exact h1⟩]
  go_enter Tryd.func91, Tryd.ntmps91
  go_wp2
  go_loopg [5] ls.length (fun g i wr => ∃ k : Nat, g = ls.length - k ∧ k ≤ ls.length ∧ i = .int .i64 k ∧ Hd ((ls.take k).any (fun t => t == x) = false) ∧ Ext w wr)
  case atStart => exact ⟨0, by omega, by omega, rfl, hd (by rw [List.take_zero]; rfl), Ext.refl _⟩
  case round =>
    obtain ⟨k, hg, hk, rfl, hC, hw⟩ := hrel
    by_cases hkl : k < ls.length
    · obtain ⟨b, off, hA, hlt, _⟩ := hR k hkl
      subst hA
      have m0 := (hR.ext hw).i64 k hkl
      have m1 := World.block_lt_of_cell? _ _ m0
      dsimp only at m1
      have hs := any_take (fun t => t == x) ls k hkl
      rw [hC.out, Bool.false_or] at hs
      have hs := hd hs
      have hit := fun h => hd (any_hit (fun t => t == x) ls k hkl h)
      cases hq : (ls[k] == x) with
      | true =>
        have hv := hit hq
        clear hs hit hC
        go_wp2
        go_ret
        exact ⟨by rw [hv.out]; rfl, hw⟩
      | false =>
        have hs2 := hd (hs.out.trans hq)
        clear hs hit hC
        go_wp2
        go_roundg (ls.length - (k + 1))
        case rel => exact ⟨k + 1, rfl, hkl, by simp, hs2, hw⟩
        case measure => omega
    · obtain rfl : k = ls.length := by omega
      have hC2 := hC.out
      rw [List.take_length] at hC2
      have hv := hd hC2
      clear hC hC2
      go_wp2
      go_ret
      exact ⟨by rw [hv.out]; rfl, hw⟩
set_option maxHeartbeats 2000000 in
theorem spec_l03True (lot : List (List ByteArray)) (A : Option Addr) (cap : Nat) (ws : List ByteArray) (B : Option Addr) (capB : Nat) (w : World) (hR : RdL w A lot) (hn : lot.length ≤ 1048576) (hll : ∀ l ∈ lot, l.length ≤ 1048576) (hS : Rd encStr w B ws) (hm : ws.length ≤ 1048576) :
    Calls Tryd.prog 90 #[.slice A lot.length cap, .slice B ws.length capB] w fun e w' => ∃ v, e = .returned v ∧ Ow encI64 2 w' w.heap.size v (trueL lot ws lot.length) ∧ Ext w w' := by
  have hlen := trueL_len lot ws
  have hz := trueL_zero lot ws
  have hhit0 := fun k (h : k < lot.length) => trueL_hit (ws := ws) h
  have hmiss0 := fun k (h : k < lot.length) => trueL_miss (ws := ws) h
  have hx := @ExtOf.cell
  go_enter Tryd.func90, Tryd.ntmps90
  go_wp2
  go_loopg [5, 6] lot.length (fun g v i wr => ∃ k : Nat, g = lot.length - k ∧ k ≤ lot.length ∧ i = .int .i64 k ∧ Ext w wr ∧ Ow encI64 2 wr w.heap.size v (trueL lot ws k))
  case atStart => exact ⟨0, by omega, by omega, rfl, (Ext.refl _).alloc _, by rw [hz]; exact Ow.made0 rfl (Nat.le_refl _)⟩
  case round =>
    obtain ⟨k, hg, hk, rfl, hw, hO⟩ := hrel
    obtain ⟨wo, hwo⟩ : ∃ x, x = wr := ⟨_, rfl⟩
    subst hwo
    by_cases hkl : k < lot.length
    · obtain ⟨b, off, rfl, hlt1⟩ := hR.block k hkl
      have hl := hlen k
      have hllk := hll _ (List.getElem_mem hkl)
      go_wp2
      go_loopg [7, 8] ws.length (fun g q i wr2 => ∃ j : Nat, ∃ p : Bool, g = ws.length - j ∧ j ≤ ws.length ∧ i = .int .i64 j ∧ q = .bool p ∧ Hd ((ws.take j).all (fun s => lot[k].contains s) = p) ∧ Ext wo wr2)
      case atStart => exact ⟨0, true, by omega, by omega, rfl, rfl, hd (by rw [List.take_zero]; rfl), Ext.refl _⟩
      case round =>
        obtain ⟨j, p, hg2, hj, rfl, rfl, hP, hE⟩ := hrel
        have hWE := hw.trans hE
        by_cases hjl : j < ws.length
        · obtain ⟨bB, oB, hB, hltB, _⟩ := hS j hjl
          subst hB
          obtain ⟨n0, n1⟩ := (hS.ext hWE).strs j hjl
          obtain ⟨B1, c1, m0, hB1⟩ := (hR.ext hWE).at k hkl
          have l1 := World.block_lt_of_cell? _ _ m0
          dsimp only at l1
          have hs := all_take (fun s => lot[k].contains s) ws j hjl
          rw [hP.out] at hs
          have hs := hd hs
          have hcall := fun (W : World) (hE : Ext wr W) => spec_l03Has lot[k] B1 _ c1 rfl ws[j] W (hB1.ext hE) hllk
          cases p with
          | true =>
            generalize lot[k].contains ws[j] = q at hcall hs
            go_wp2
            refine wp_region_ext (by kernel_rfl) (by kernel_rfl) ?_
            repeat (first | go_big_quiet_step (((go_at_call 111; with_reducible exact Calls.ext_all (fun W hE => hcall W hE)))) | quiet_step (((go_at_call 111; with_reducible exact Calls.ext_all (fun W hE => hcall W hE)))))
            refine wpQuiet_nil ?_
            intro w5 hq5
            have hb5 := ext_of_class hq5
            clear hq5
            obtain ⟨hc5, hf5, hz5⟩ := bcell3 hb5
            try simp at hz5
            go_wp2
            go_roundg (ws.length - (j + 1))
            case rel => exact ⟨j + 1, q, rfl, hjl, by simp, rfl, hd (by rw [hs.out]; simp), hE.trans hb5⟩
            case measure => omega
          | false =>
            clear hcall
            go_wp2
            refine wp_region_ext (by kernel_rfl) (by kernel_rfl) ?_
            repeat (first | go_big_quiet_step (fail) | quiet_step (fail))
            refine wpQuiet_nil ?_
            intro w5 hq5
            have hb5 := ext_of_class hq5
            clear hq5
            obtain ⟨hc5, hf5, hz5⟩ := bcell3 hb5
            try simp at hz5
            go_wp2
            go_roundg (ws.length - (j + 1))
            case rel => exact ⟨j + 1, false, rfl, hjl, by simp, rfl, hd (by rw [hs.out]; simp), hE.trans hb5⟩
            case measure => omega
        · obtain rfl : j = ws.length := by omega
          have hP2 := hP.out
          rw [List.take_length] at hP2
          have hP3 : hasAllB lot[k] ws = p := hP2
          have hO2 := hO.ext hE
          clear hP hP2
          cases p with
          | true =>
            have hv := hd (hhit0 k hkl hP3)
            clear hP3
            go_wp2_with (at_builtin; refine wpList_push2 (w0 := w) (base := w.heap.size) (xs := trueL lot ws k) encI64 (by rfl) _ _ 41 (.int .i64 0) 8 (by rfl) Tryd.underlying41 info_i64 (by rfl) ((k : Int)) (by rfl) (by rfl) (by simp) (hO2) ((hWE : Ext w _).size) (Nat.le_refl _) (hWE) (by omega) (by omega) ?_)
            intro v6 w6 hO6 hb6 hg6 _
            go_wp2
            go_roundg (lot.length - (k + 1))
            case rel => exact ⟨k + 1, rfl, hkl, by simp, hb6, by rw [hv.out]; exact hO6⟩
            case measure => omega
          | false =>
            have hv := hd (hmiss0 k hkl hP3)
            clear hP3
            go_wp2
            go_roundg (lot.length - (k + 1))
            case rel => exact ⟨k + 1, rfl, hkl, by simp, hWE, by rw [hv.out]; exact hO2⟩
            case measure => omega
    · obtain rfl : k = lot.length := by omega
      go_wp2
      go_ret
      exact ⟨_, rfl, hO, hw⟩
end Go.Proofs.YtbmompanhigmnaaDoor
