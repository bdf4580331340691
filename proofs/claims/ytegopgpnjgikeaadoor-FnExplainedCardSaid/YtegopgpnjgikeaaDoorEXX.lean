/-
  EXX: the texts EX0 Y1 Y2 VM G8 G10 EX1 WG EX2 EX3 in one (written by merge.py).
-/
import Derived.Test.YtegopgpnjgikeaaDoorG7
import Derived.Test.YtegopgpnjgikeaaDoorX6
import Derived.Test.YtegopgpnjgikeaaDoorNS
import Derived.Test.YtegopgpnjgikeaaDoorShelf
import Derived.Test.YtegopgpnjgikeaaDoorC2
import Derived.Test.YtegopgpnjgikeaaDoorK0
import Derived.Test.YtegopgpnjgikeaaDoorF5
import Derived.Test.YtegopgpnjgikeaaDoorC8
import Derived.Test.YtegopgpnjgikeaaDoorG1
import Derived.Test.YtegopgpnjgikeaaDoorZA
import Derived.Test.YtegopgpnjgikeaaDoorWN
import Derived.Test.YtegopgpnjgikeaaDoorL5
import Derived.Test.YtegopgpnjgikeaaDoorS0
set_option linter.unusedVariables false
namespace Go.Proofs.YtegopgpnjgikeaaDoor
open Go.RowKit
/-- Places in order, from i on, below N. -/
def incF (N : Nat) : Nat → List Int → Prop
  | _, [] => True
  | i, k :: S => ∃ j : Nat, k = (j : Int) ∧ i ≤ j ∧ j < N ∧ incF N (j + 1) S
theorem incF_len {N : Nat} : ∀ {S : List Int} {i : Nat}, incF N i S → i ≤ N → i + S.length ≤ N
  | [], _, _, h => h
  | k :: S, i, ⟨j, _, h1, h2, h3⟩, _ => by
    have := incF_len h3 (by omega)
    rw [List.length_cons]
    omega
theorem incF_lo {N : Nat} : ∀ {S : List Int} {i i' : Nat}, incF N i S → i' ≤ i → incF N i' S
  | [], _, _, _, _ => trivial
  | k :: S, i, i', ⟨j, h0, h1, h2, h3⟩, h => ⟨j, h0, by omega, h2, h3⟩
theorem incF_mem {N : Nat} : ∀ {S : List Int} {i : Nat}, incF N i S → ∀ k ∈ S, ∃ j : Nat, k = (j : Int) ∧ i ≤ j ∧ j < N
  | [], _, _, k, h => by cases h
  | k' :: S, i, ⟨j, h0, h1, h2, h3⟩, k, h => by
    rcases List.mem_cons.1 h with rfl | h
    · exact ⟨j, h0, h1, h2⟩
    · obtain ⟨j', e1, e2, e3⟩ := incF_mem h3 k h
      exact ⟨j', e1, by omega, e3⟩
theorem incF_up {N : Nat} : ∀ {S : List Int} {i : Nat}, incF N i S → S.Pairwise (· < ·)
  | [], _, _ => List.Pairwise.nil
  | k :: S, i, ⟨j, h0, h1, h2, h3⟩ => List.Pairwise.cons (fun a ha => by obtain ⟨j', e1, e2, _⟩ := incF_mem h3 a ha; omega) (incF_up h3)
theorem covL_some (f : Nat → List Int → Nat → Cov × Nat) (l : List Int) (j : Nat) (hj : ∀ b, (f (j + 1) (l ++ [(j : Int)]) b).1 ≠ .no) : ∀ (c i b : Nat), i ≤ j → j < i + c → (covL f l c i b).1 ≠ .no
  | 0, i, b, h1, h2 => by omega
  | c + 1, i, b, h1, h2 => by
    rw [covL]
    by_cases e : i = j
    · subst e
      have := hj b
      generalize f (i + 1) (l ++ [(i : Int)]) b = r at this
      obtain ⟨r, b'⟩ := r
      cases r with
      | hit l' => intro hh; cases hh
      | no => exact absurd rfl this
      | over => intro hh; cases hh
    · have ih := fun b' => covL_some f l j hj c (i + 1) b' (by omega) (by omega)
      generalize f (i + 1) (l ++ [(i : Int)]) b = r
      obtain ⟨r, b'⟩ := r
      cases r with
      | hit l' => intro hh; cases hh
      | no => exact ih b'
      | over => intro hh; cases hh
theorem covN_some (ok : List Int → Bool) (N : Nat) : ∀ (n i : Nat) (l S : List Int) (b : Nat), i ≤ N → incF N i S → S.length = n → ok (l ++ S) = true → (covN ok N n i l b).1 ≠ .no
  | 0, i, l, S, b, _, _, hn, h => by
    rw [List.eq_nil_of_length_eq_zero hn, List.append_nil] at h
    rw [covN]
    by_cases e : b = 0
    · rw [if_pos e]; intro hh; cases hh
    · rw [if_neg e, if_pos h]; intro hh; cases hh
  | n + 1, i, l, [], b, _, _, hn, h => by cases hn
  | n + 1, i, l, k :: S, b, hi, hS, hn, h => by
    have hl := incF_len hS hi
    obtain ⟨j, rfl, h1, h2, h3⟩ := hS
    have hl2 := incF_len h3 (by omega)
    rw [List.length_cons] at hn hl
    rw [covN]
    refine covL_some _ l j (fun b' => covN_some ok N n (j + 1) (l ++ [(j : Int)]) S b' (by omega) h3 (by omega) (by rw [List.append_assoc]; exact h)) _ i b h1 (by omega)
theorem covL_shape (f : Nat → List Int → Nat → Cov × Nat) (ok : List Int → Bool) (N n : Nat) (l l' : List Int) (hf : ∀ j b l' b', f (j + 1) (l ++ [(j : Int)]) b = (.hit l', b') → ∃ S, l' = l ++ (j : Int) :: S ∧ S.length = n ∧ incF N (j + 1) S ∧ ok l' = true) :
    ∀ (c i b b' : Nat), i + c ≤ N → covL f l c i b = (.hit l', b') → ∃ S, l' = l ++ S ∧ S.length = n + 1 ∧ incF N i S ∧ ok l' = true
  | 0, i, b, b', _, h => by rw [covL] at h; cases h
  | c + 1, i, b, b', hc, h => by
    rw [covL] at h
    have h1 := hf i b
    have ih := fun b1 => covL_shape f ok N n l l' hf c (i + 1) b1 b' (by omega)
    generalize f (i + 1) (l ++ [(i : Int)]) b = r at h h1
    obtain ⟨r, b1⟩ := r
    cases r with
    | hit l1 =>
      cases h
      obtain ⟨S, e1, e2, e3, e4⟩ := h1 _ _ rfl
      exact ⟨(i : Int) :: S, e1, by rw [List.length_cons, e2], ⟨i, rfl, Nat.le_refl _, by omega, e3⟩, e4⟩
    | no =>
      obtain ⟨S, e1, e2, e3, e4⟩ := ih b1 h
      exact ⟨S, e1, e2, incF_lo e3 (by omega), e4⟩
    | over => cases h
theorem covN_shape (ok : List Int → Bool) (N : Nat) : ∀ (n i : Nat) (l l' : List Int) (b b' : Nat), covN ok N n i l b = (.hit l', b') → ∃ S, l' = l ++ S ∧ S.length = n ∧ incF N i S ∧ ok l' = true
  | 0, i, l, l', b, b', h => by
    rw [covN] at h
    by_cases e : b = 0
    · rw [if_pos e] at h; cases h
    · rw [if_neg e] at h
      by_cases hk : ok l = true
      · rw [if_pos hk] at h
        cases h
        exact ⟨[], (List.append_nil _).symm, rfl, trivial, hk⟩
      · rw [if_neg hk] at h; cases h
  | n + 1, i, l, l', b, b', h => by
    rw [covN] at h
    by_cases hi : i + (N - n - i) ≤ N
    · exact covL_shape _ ok N n l l' (fun j b l' b' h => by
        obtain ⟨S, e1, e2, e3, e4⟩ := covN_shape ok N n (j + 1) (l ++ [(j : Int)]) l' b b' h
        exact ⟨S, by rw [e1, List.append_assoc]; rfl, e2, e3, e4⟩) _ i b b' hi h
    · rw [show N - n - i = 0 by omega, covL] at h; cases h
/-- What the search finds: as few places as any list of places that will do. -/
theorem covAll_min (ok : List Int → Bool) (N : Nat) (S : List Int) (hS : incF N 0 S) (hk : ok S = true) : ∀ (c m b : Nat), m ≤ S.length → S.length < m + c →
    (covAll ok N c m b).1 ≠ .no ∧ ∀ l', (covAll ok N c m b).1 = .hit l' → l'.length ≤ S.length ∧ incF N 0 l' ∧ ok l' = true
  | 0, m, b, h1, h2 => by omega
  | c + 1, m, b, h1, h2 => by
    rw [covAll]
    have hc := covN_some ok N m 0 [] S b (Nat.zero_le _) hS
    have hs := fun l' b' => covN_shape ok N m 0 [] l' b b'
    have ih := fun b1 => covAll_min ok N S hS hk c (m + 1) b1
    generalize covN ok N m 0 [] b = r at hc hs
    obtain ⟨r, b1⟩ := r
    cases r with
    | hit l1 =>
      refine ⟨(fun hh => by cases hh), fun l' h => ?_⟩
      cases h
      obtain ⟨T, e1, e2, e3, e4⟩ := hs _ _ rfl
      rw [List.nil_append] at e1
      subst e1
      exact ⟨by omega, e3, e4⟩
    | no =>
      have hne : S.length ≠ m := fun e => hc e hk rfl
      exact ih b1 (by omega) (by omega)
    | over => exact ⟨(fun hh => by cases hh), fun l' h => by cases h⟩
end Go.Proofs.YtegopgpnjgikeaaDoor
set_option linter.unusedVariables false
set_option linter.unusedSimpArgs false
set_option maxRecDepth 100000
namespace Go.Proofs.YtegopgpnjgikeaaDoor
open Go.RowKit
/-- Are there a few lists of a few words? -/
def lotB (lot : List (List ByteArray)) : Bool := decide (lot.length ≤ 60) && lot.all fun ws => wordsB ws 12
def lotF (lot : List (List ByteArray)) : Int := if lotB lot = true then 0 else 2
theorem lotF_ok {lot : List (List ByteArray)} (h : lotB lot = true) : lotF lot = 0 := by unfold lotF; rw [if_pos h]
theorem lotF_no {lot : List (List ByteArray)} (h : lotB lot = false) : lotF lot = 2 := by unfold lotF; rw [h]; rfl
theorem lot_all {lot : List (List ByteArray)} (h : lotB lot = true) : lot.length ≤ 60 ∧ ∀ l ∈ lot, l.length ≤ 12 ∧ l.all isNameB = true := by
  simp only [lotB, Bool.and_eq_true, decide_eq_true_eq, List.all_eq_true] at h
  refine ⟨h.1, fun l hl => ?_⟩
  have := h.2 l hl
  simp only [wordsB, Bool.and_eq_true, decide_eq_true_eq] at this
  exact ⟨by omega, this.2⟩
theorem len_tot {lot : List (List ByteArray)} {l : List ByteArray} (h : l ∈ lot) : l.length ≤ tot lot := by
  unfold tot
  induction lot with
  | nil => simp at h
  | cons x xs ih =>
    rw [List.map_cons, List.sum_cons]
    rcases List.mem_cons.1 h with rfl | h2
    · omega
    · have := ih h2; omega
noncomputable def masksL (x : Mx) (lot : List (List ByteArray)) : List Mask := lot.map (wallM x)
theorem masksL_len (x : Mx) (lot : List (List ByteArray)) : (masksL x lot).length = lot.length := by unfold masksL; rw [List.length_map]
theorem masksL_take (x : Mx) (lot : List (List ByteArray)) (k : Nat) (h : k < lot.length) : masksL x (lot.take (k + 1)) = masksL x (lot.take k) ++ [wallM x lot[k]] := by
  unfold masksL; rw [List.take_succ_eq_append_getElem h, List.map_append]; rfl
noncomputable def mixLotF (x : Mx) (lot : List (List ByteArray)) : List Mask × Int := if mixB x = true then (if lotB lot = true then (masksL x lot, 0) else ([], 2)) else ([], 1)
theorem mixLot_bad {x : Mx} {lot : List (List ByteArray)} (h : mixB x = false) : mixLotF x lot = ([], 1) := by unfold mixLotF; rw [h]; rfl
theorem mixLot_far {x : Mx} {lot : List (List ByteArray)} (h : mixB x = true) (h2 : lotB lot = false) : mixLotF x lot = ([], 2) := by unfold mixLotF; rw [h, h2]; rfl
theorem mixLot_ok {x : Mx} {lot : List (List ByteArray)} (h : mixB x = true) (h2 : lotB lot = true) : mixLotF x lot = (masksL x lot, 0) := by unfold mixLotF; rw [h, h2]; rfl
theorem mixLot_len (x : Mx) (lot : List (List ByteArray)) : (mixLotF x lot).1.length ≤ 1048576 := by
  unfold mixLotF
  split
  · split
    · rename_i h
      have := (lot_all h).1
      show (masksL x lot).length ≤ _
      rw [masksL_len]; omega
    · simp
  · simp
end Go.Proofs.YtegopgpnjgikeaaDoor
set_option linter.unusedVariables false
set_option linter.unusedSimpArgs false
set_option maxRecDepth 100000
namespace Go.Proofs.YtegopgpnjgikeaaDoor
open Go.RowKit
theorem getL (lot : List (List ByteArray)) (k : Nat) (hk : k < lot.length) : lot.getD k [] = lot[k] := by rw [List.getD, List.getElem?_eq_getElem hk]; rfl
theorem ba_beq (a b : ByteArray) : (a == b) = (a.data == b.data) := by cases a; cases b; rfl
instance : LawfulBEq ByteArray where
  eq_of_beq {a b} h := by
    rw [ba_beq] at h
    cases a; cases b
    simp at h
    rw [h]
  rfl {a} := by rw [ba_beq]; simp
theorem contains_any (ws : List ByteArray) (s : ByteArray) : ws.contains s = ws.any (fun t => strB t s) := by
  rw [Bool.eq_iff_iff, List.contains_iff_mem, List.any_eq_true]
  constructor
  · intro h; exact ⟨s, h, strB_refl s⟩
  · rintro ⟨t, h1, h2⟩; rw [← (strB_iff t s).1 h2]; exact h1
/-- The lists that have all words. -/
def trueL (lot : List (List ByteArray)) (ws : List ByteArray) (n : Nat) : List Int := idxTo (fun i => hasAllB (lot.getD i []) ws) n
theorem trueL_zero (lot : List (List ByteArray)) (ws : List ByteArray) : trueL lot ws 0 = [] := rfl
theorem trueL_hit {lot : List (List ByteArray)} {ws : List ByteArray} {k : Nat} (hk : k < lot.length) (hq : hasAllB lot[k] ws = true) : trueL lot ws (k + 1) = trueL lot ws k ++ [(k : Int)] := idxTo_hit _ k (by rw [getL lot k hk]; exact hq)
theorem trueL_miss {lot : List (List ByteArray)} {ws : List ByteArray} {k : Nat} (hk : k < lot.length) (hq : hasAllB lot[k] ws = false) : trueL lot ws (k + 1) = trueL lot ws k := idxTo_miss _ k (by rw [getL lot k hk]; exact hq)
theorem trueL_len (lot : List (List ByteArray)) (ws : List ByteArray) (n : Nat) : (trueL lot ws n).length ≤ n := idxTo_len _ n
theorem false_spec (x : Mx) (lot : List (List ByteArray)) (ws : List ByteArray) : (droppedL (wallM x ws) (masksL x lot) lot.length).filter (fun v => !(trueL lot ws lot.length).contains v) = falseL x lot ws := by
  rw [← falseL_spec]
  congr 1
  unfold droppedL
  refine idxTo_congr _ fun i hi => ?_
  rw [getM _ i (by rw [masksL_len]; exact hi), getL lot i hi]
  unfold masksL
  rw [List.getElem_map]
/-- The false drops among the first n lists. -/
noncomputable def falseTo (x : Mx) (lot : List (List ByteArray)) (ws : List ByteArray) (n : Nat) : List Int := idxTo (fun i => mwin (wallM x ws) (wallM x (lot.getD i [])) && !hasAllB (lot.getD i []) ws) n
theorem falseTo_all (x : Mx) (lot : List (List ByteArray)) (ws : List ByteArray) : falseTo x lot ws lot.length = falseL x lot ws := rfl
theorem falseTo_zero (x : Mx) (lot : List (List ByteArray)) (ws : List ByteArray) : falseTo x lot ws 0 = [] := rfl
theorem falseTo_hit {x : Mx} {lot : List (List ByteArray)} {ws : List ByteArray} {k : Nat} (hk : k < lot.length) (h1 : mwin (wallM x ws) (wallM x lot[k]) = true) (h2 : hasAllB lot[k] ws = false) : falseTo x lot ws (k + 1) = falseTo x lot ws k ++ [(k : Int)] :=
  idxTo_hit _ k (by rw [getL lot k hk, h1, h2]; rfl)
theorem falseTo_miss1 {x : Mx} {lot : List (List ByteArray)} {ws : List ByteArray} {k : Nat} (hk : k < lot.length) (h1 : mwin (wallM x ws) (wallM x lot[k]) = false) : falseTo x lot ws (k + 1) = falseTo x lot ws k :=
  idxTo_miss _ k (by rw [getL lot k hk, h1]; rfl)
theorem falseTo_miss2 {x : Mx} {lot : List (List ByteArray)} {ws : List ByteArray} {k : Nat} (hk : k < lot.length) (h2 : hasAllB lot[k] ws = true) : falseTo x lot ws (k + 1) = falseTo x lot ws k :=
  idxTo_miss _ k (by rw [getL lot k hk, h2]; cases mwin (wallM x ws) (wallM x lot[k]) <;> rfl)
theorem falseTo_len (x : Mx) (lot : List (List ByteArray)) (ws : List ByteArray) (n : Nat) : (falseTo x lot ws n).length ≤ n := idxTo_len _ n
attribute [irreducible] trueL falseTo
noncomputable def falseF (x : Mx) (lot : List (List ByteArray)) (ws : List ByteArray) : List Int × Int :=
  if mixB x = true then (if (lotB lot && wordsB ws 12) = true then (falseL x lot ws, 0) else ([], 2)) else ([], 1)
theorem false_bad {x : Mx} {lot : List (List ByteArray)} {ws : List ByteArray} (h : mixB x = false) : falseF x lot ws = ([], 1) := by unfold falseF; rw [h]; rfl
theorem false_far {x : Mx} {lot : List (List ByteArray)} {ws : List ByteArray} (h : mixB x = true) (h2 : (lotB lot && wordsB ws 12) = false) : falseF x lot ws = ([], 2) := by unfold falseF; rw [h, h2]; rfl
theorem false_ok {x : Mx} {lot : List (List ByteArray)} {ws : List ByteArray} (h : mixB x = true) (h2 : (lotB lot && wordsB ws 12) = true) : falseF x lot ws = (falseL x lot ws, 0) := by unfold falseF; rw [h, h2]; rfl
theorem false_len (x : Mx) (lot : List (List ByteArray)) (ws : List ByteArray) : (falseF x lot ws).1.length ≤ 1048576 := by
  unfold falseF
  split
  · split
    · rename_i h
      rw [Bool.and_eq_true] at h
      have h1 := (lot_all h.1).1
      have h2 := falseTo_len x lot ws lot.length
      rw [falseTo_all] at h2
      show (falseL x lot ws).length ≤ _
      omega
    · simp
  · simp
set_option maxHeartbeats 400000 in
theorem spec_l03Has (ls : List ByteArray) (A : Option Addr) (n cap : Nat) (hnx : n = ls.length) (s : ByteArray) (w : World) (hR : Rd encStr w A ls) (hn : ls.length ≤ 1048576) :
    Calls Tryd.prog 50 #[.slice A n cap, .string s] w fun e w' => e = .returned (.bool (ls.contains s)) ∧ Ext w w' := by
  subst hnx
  rw [contains_any]
  go_enter Tryd.func50, Tryd.ntmps50
  go_wp2
  go_loopg [5] ls.length (fun g i wr => ∃ k : Nat, g = ls.length - k ∧ k ≤ ls.length ∧ i = .int .i64 k ∧ Hd ((ls.take k).any (fun t => strB t s) = false) ∧ Ext w wr)
  case atStart => exact ⟨0, by omega, by omega, rfl, hd (by rw [List.take_zero]; rfl), Ext.refl _⟩
  case round =>
    obtain ⟨k, hg, hk, rfl, hC, hw⟩ := hrel
    by_cases hkl : k < ls.length
    · obtain ⟨b, off, hA, hlt, _⟩ := hR k hkl
      subst hA
      obtain ⟨m0, m1⟩ := (hR.ext hw).strs k hkl
      have hs := any_take (fun t => strB t s) ls k hkl
      rw [hC.out, Bool.false_or] at hs
      have hs := hd hs
      have hit := fun h => hd (any_hit (fun t => strB t s) ls k hkl h)
      cases hq : strB ls[k] s with
      | true =>
        have hv := hit hq
        have hq2 : (ls[k].toList == s.toList) = true := hq
        clear hs hit hq hC
        go_wp2
        go_ret
        exact ⟨by rw [hv.out]; rfl, hw⟩
      | false =>
        have hs2 := hd (hs.out.trans hq)
        have hq2 : (ls[k].toList == s.toList) = false := hq
        clear hs hit hq hC
        go_wp2
        go_roundg (ls.length - (k + 1))
        case rel => exact ⟨k + 1, rfl, hkl, by simp, hs2, hw⟩
        case measure => omega
    · obtain rfl : k = ls.length := by omega
      have hC2 := hC.out
      rw [List.take_length] at hC2
      have hv := hd hC2
      clear hC hC2
      go_wp2
      go_ret
      exact ⟨by rw [hv.out]; rfl, hw⟩
set_option maxHeartbeats 400000 in
theorem spec_l00Has (ls : List Int) (A : Option Addr) (n cap : Nat) (hnx : n = ls.length) (x : Int) (w : World) (hR : Rd encI64 w A ls) (hn : ls.length ≤ 1048576) :
    Calls Tryd.prog 51 #[.slice A n cap, .int .i64 x] w fun e w' => e = .returned (.bool (ls.contains x)) ∧ Ext w w' := by
  subst hnx
  rw [show ls.contains x = ls.any (fun t => t == x) by rw [Bool.eq_iff_iff, List.contains_iff_mem, List.any_eq_true]; exact ⟨fun h => ⟨x, h, by simp⟩, fun ⟨t, h1, h2⟩ => by rw [beq_iff_eq] at h2; rw [← h2]; exact h1⟩]
  go_enter Tryd.func51, Tryd.ntmps51
  go_wp2
  go_loopg [5] ls.length (fun g i wr => ∃ k : Nat, g = ls.length - k ∧ k ≤ ls.length ∧ i = .int .i64 k ∧ Hd ((ls.take k).any (fun t => t == x) = false) ∧ Ext w wr)
  case atStart => exact ⟨0, by omega, by omega, rfl, hd (by rw [List.take_zero]; rfl), Ext.refl _⟩
  case round =>
    obtain ⟨k, hg, hk, rfl, hC, hw⟩ := hrel
    by_cases hkl : k < ls.length
    · obtain ⟨b, off, hA, hlt, _⟩ := hR k hkl
      subst hA
      have m0 := (hR.ext hw).i64 k hkl
      have m1 := World.block_lt_of_cell? _ _ m0
      dsimp only at m1
      have hs := any_take (fun t => t == x) ls k hkl
      rw [hC.out, Bool.false_or] at hs
      have hs := hd hs
      have hit := fun h => hd (any_hit (fun t => t == x) ls k hkl h)
      cases hq : (ls[k] == x) with
      | true =>
        have hv := hit hq
        clear hs hit hC
        go_wp2
        go_ret
        exact ⟨by rw [hv.out]; rfl, hw⟩
      | false =>
        have hs2 := hd (hs.out.trans hq)
        clear hs hit hC
        go_wp2
        go_roundg (ls.length - (k + 1))
        case rel => exact ⟨k + 1, rfl, hkl, by simp, hs2, hw⟩
        case measure => omega
    · obtain rfl : k = ls.length := by omega
      have hC2 := hC.out
      rw [List.take_length] at hC2
      have hv := hd hC2
      clear hC hC2
      go_wp2
      go_ret
      exact ⟨by rw [hv.out]; rfl, hw⟩
end Go.Proofs.YtegopgpnjgikeaaDoor
set_option linter.unusedVariables false
set_option linter.unusedSimpArgs false
set_option maxRecDepth 100000
namespace Go.Proofs.YtegopgpnjgikeaaDoor
open Go.RowKit
theorem mhas_or (a b : Mask) (i : Nat) : mhas (mjoin a b) i = (mhas a i || mhas b i) := by simp [mhas, mjoin]
theorem mhas_less (a b : Mask) (i : Nat) (h : i < 128) : mhas (mless a b) i = (mhas a i && !mhas b i) := by simp [mhas, mless, h]
theorem mhas_and (a b : Mask) (i : Nat) : mhas (mmeet a b) i = (mhas a i && mhas b i) := by simp [mhas, mmeet]
theorem mhas_bit (k i : Nat) (hk : k < 128) : mhas (mbit k) i = decide (i = k) := by
  unfold mhas mbit
  rw [BitVec.getLsbD_shiftLeft]
  simp only [Int.toNat_natCast]
  by_cases h : i = k
  · subst h; simp [hk]
  · have h1 : decide (i = k) = false := decide_eq_false h
    rw [h1]
    by_cases h2 : i < k
    · simp [h2]
    · have h3 : BitVec.getLsbD 1#128 (i - k) = false := by rw [BitVec.getLsbD_one]; simp; omega
      rw [h3]; simp
theorem mask_ext {a b : Mask} (h : ∀ i : Nat, i < 128 → mhas a i = mhas b i) : a = b := BitVec.eq_of_getLsbD_eq fun i hi => by have := h i hi; simpa [mhas] using this
theorem mask_high {m : Mask} (h : isMaskB m = true) (i : Nat) (hi : 96 ≤ i) : mhas m i = false := by
  unfold isMaskB at h
  rw [decide_eq_true_eq] at h
  show m.toNat.testBit i = false
  exact Nat.testBit_lt_two_pow (Nat.lt_of_lt_of_le h (Nat.pow_le_pow_right (n := 2) (by decide) hi))
theorem sm_less {m n : Mask} (h : isMaskB m = true) : isMaskB (mless m n) = true := by
  unfold isMaskB mless at *
  rw [decide_eq_true_eq] at *
  rw [BitVec.toNat_and]
  exact Nat.lt_of_le_of_lt Nat.and_le_left h
theorem mzero_iff (m : Mask) : mzero m = true ↔ ∀ i : Nat, i < 128 → mhas m i = false := by
  constructor
  · intro h i hi
    have : m = 0 := by simpa [mzero] using h
    subst this; simp [mhas]
  · intro h
    have : m = 0 := mask_ext fun i hi => by rw [h i hi]; simp [mhas]
    subst this; simp [mzero]
theorem isWear_iff {t f : Mask} : isWearB t f = true ↔ isMaskB t = true ∧ isMaskB f = true ∧ ∀ i : Nat, i < 128 → (mhas t i = true → mhas f i = false) := by
  unfold isWearB
  rw [Bool.and_eq_true, Bool.and_eq_true, mzero_iff, and_assoc]
  refine and_congr_right fun _ => and_congr_right fun _ => forall_congr' fun i => forall_congr' fun hi => ?_
  rw [mhas_and]
  cases mhas t i <;> cases mhas f i <;> simp
theorem sm_joinV {a b : Mask} (ha : isMaskB a = true) (hb : isMaskB b = true) : isMaskB (mjoin a b) = true := by
  unfold isMaskB mjoin at *
  rw [decide_eq_true_eq] at *
  rw [BitVec.toNat_or]
  exact Nat.or_lt_two_pow (n := 96) ha hb
theorem isMask_zero : isMaskB 0 = true := by decide
theorem wear_zero : isWearB 0 0 = true := by decide
theorem wear_tear {t f b : Mask} (h : isWearB t f = true) (hb : isMaskB b = true) : isWearB (mjoin t b) (mless f b) = true := by
  obtain ⟨h1, h2, h3⟩ := isWear_iff.1 h
  refine isWear_iff.2 ⟨sm_joinV h1 hb, sm_less h2, fun i hi => ?_⟩
  have q1 := h3 i hi
  revert q1
  rw [mhas_or, mhas_less _ _ _ hi]
  cases mhas t i <;> cases mhas f i <;> cases mhas b i <;> simp
theorem wear_fill {t f b : Mask} (h : isWearB t f = true) (hb : isMaskB b = true) : isWearB (mless t b) (mjoin f b) = true := by
  obtain ⟨h1, h2, h3⟩ := isWear_iff.1 h
  refine isWear_iff.2 ⟨sm_less h1, sm_joinV h2 hb, fun i hi => ?_⟩
  have q1 := h3 i hi
  revert q1
  rw [mhas_or, mhas_less _ _ _ hi]
  cases mhas t i <;> cases mhas f i <;> cases mhas b i <;> simp
theorem wear_between {a b : Mask} (ha : isMaskB a = true) (hb : isMaskB b = true) : isWearB (mless b a) (mless a b) = true := by
  refine isWear_iff.2 ⟨sm_less hb, sm_less ha, fun i hi => ?_⟩
  rw [mhas_less _ _ _ hi, mhas_less _ _ _ hi]
  cases mhas a i <;> cases mhas b i <;> simp
theorem wear_swap {t f : Mask} (h : isWearB t f = true) : isWearB f t = true := by
  obtain ⟨h1, h2, h3⟩ := isWear_iff.1 h
  refine isWear_iff.2 ⟨h2, h1, fun i hi => ?_⟩
  have q1 := h3 i hi
  revert q1
  cases mhas t i <;> cases mhas f i <;> simp
theorem wear_after {t f t' f' : Mask} (h : isWearB t f = true) (h' : isWearB t' f' = true) : isWearB (mjoin t' (mless t f')) (mjoin f' (mless f t')) = true := by
  obtain ⟨h1, h2, h3⟩ := isWear_iff.1 h
  obtain ⟨g1, g2, g3⟩ := isWear_iff.1 h'
  refine isWear_iff.2 ⟨sm_joinV g1 (sm_less h1), sm_joinV g2 (sm_less h2), fun i hi => ?_⟩
  have q1 := h3 i hi
  revert q1
  have q2 := g3 i hi
  revert q2
  rw [mhas_or, mhas_less _ _ _ hi, mhas_or, mhas_less _ _ _ hi]
  cases mhas t i <;> cases mhas f i <;> cases mhas t' i <;> cases mhas f' i <;> simp
theorem worn_between (a b : Mask) : mless (mjoin a (mless b a)) (mless a b) = b := mask_ext fun i hi => by
  rw [mhas_less _ _ _ hi, mhas_or, mhas_less _ _ _ hi, mhas_less _ _ _ hi]
  cases mhas a i <;> cases mhas b i <;> rfl
theorem worn_after {t f t' f' : Mask} (a : Mask) (h : isWearB t f = true) (h' : isWearB t' f' = true) : mless (mjoin a (mjoin t' (mless t f'))) (mjoin f' (mless f t')) = mless (mjoin (mless (mjoin a t) f) t') f' := by
  obtain ⟨h1, h2, h3⟩ := isWear_iff.1 h
  obtain ⟨g1, g2, g3⟩ := isWear_iff.1 h'
  refine mask_ext fun i hi => ?_
  have q1 := h3 i hi
  revert q1
  have q2 := g3 i hi
  revert q2
  simp only [mhas_less _ _ _ hi, mhas_or]
  cases mhas t i <;> cases mhas f i <;> cases mhas t' i <;> cases mhas f' i <;> cases mhas a i <;> simp
/-- What wear changes, if nothing is torn that is torn and nothing filled that is not. -/
theorem worn_torn {t f a : Mask} (h : ∀ i : Nat, i < 128 → (mhas t i = true → mhas a i = false) ∧ (mhas f i = true → mhas a i = true)) : mless (mless (mjoin a t) f) a = t ∧ mless a (mless (mjoin a t) f) = f := by
  constructor
  all_goals
    refine mask_ext fun i hi => ?_
    have q1 := h i hi
    revert q1
    simp only [mhas_less _ _ _ hi, mhas_or]
    cases mhas t i <;> cases mhas f i <;> cases mhas a i <;> simp
end Go.Proofs.YtegopgpnjgikeaaDoor
set_option linter.unusedVariables false
namespace Go.Proofs.YtegopgpnjgikeaaDoor
open Go.RowKit
/-- Are all cards valid, and no two of the same name? -/
def okD (ds : List Crd) : Bool := ds.all isCardB && decide ((ds.map Crd.nm).Nodup)
def deckB (ds : List Crd) : Bool := decide (ds.length ≤ 80) && okD ds
theorem okD_nil : okD [] = true := by simp [okD]
theorem okD_snoc (ds : List Crd) (c : Crd) : okD (ds ++ [c]) = (okD ds && (isCardB c && !ds.any (fun x => decide (x.nm = c.nm)))) := by
  rw [Bool.eq_iff_iff]
  simp only [okD, List.all_append, List.all_cons, List.all_nil, Bool.and_true, Bool.and_eq_true, decide_eq_true_eq, List.map_append, List.map_cons, List.map_nil, Bool.not_eq_true', List.any_eq_false]
  rw [List.nodup_append]
  constructor
  · rintro ⟨⟨h1, h2⟩, h3, _, h5⟩
    exact ⟨⟨h1, h3⟩, h2, fun x hx h => h5 _ (List.mem_map_of_mem hx) c.nm (by simp) h⟩
  · rintro ⟨⟨h1, h3⟩, h2, h4⟩
    refine ⟨⟨h1, h2⟩, h3, by simp, fun a ha b hb hab => ?_⟩
    obtain ⟨x, hx, rfl⟩ := List.mem_map.1 ha
    rw [List.mem_singleton] at hb
    exact h4 x hx (hab.trans hb)
theorem okD_perm {xs ys : List Crd} (h : xs.Perm ys) : okD xs = okD ys := by
  unfold okD
  rw [h.all_eq, Bool.eq_iff_iff]
  simp only [Bool.and_eq_true, decide_eq_true_eq]
  rw [(h.map Crd.nm).nodup_iff]
theorem deckB_perm {xs ys : List Crd} (h : xs.Perm ys) : deckB xs = deckB ys := by unfold deckB; rw [okD_perm h, h.length_eq]
/-- Two decks put together by a key. -/
def mergeF (key : Crd → Int) (a b : List Crd) : List Crd := List.merge a b fun x y => decide (key x ≤ key y)
theorem mergeF_perm (key : Crd → Int) (a b : List Crd) : (mergeF key a b).Perm (a ++ b) := List.merge_perm_append _
theorem mergeF_ok (key : Crd → Int) (a b : List Crd) : deckB (mergeF key a b) = deckB (a ++ b) := deckB_perm (mergeF_perm key a b)
theorem mergeF_right (key : Crd → Int) (x y : Crd) (a b : List Crd) (h : key y < key x) : mergeF key (x :: a) (y :: b) = y :: mergeF key (x :: a) b := by
  unfold mergeF; rw [List.cons_merge_cons_neg]; simpa using h
theorem mergeF_left (key : Crd → Int) (x y : Crd) (a b : List Crd) (h : ¬ key y < key x) : mergeF key (x :: a) (y :: b) = x :: mergeF key a (y :: b) := by
  unfold mergeF; rw [List.cons_merge_cons_pos]; simpa using h
theorem mergeF_nil (key : Crd → Int) (a : List Crd) : mergeF key a [] = a := by unfold mergeF; exact List.merge_right _
theorem nil_mergeF (key : Crd → Int) (b : List Crd) : mergeF key [] b = b := by unfold mergeF; exact List.nil_merge _
end Go.Proofs.YtegopgpnjgikeaaDoor
set_option linter.unusedVariables false
set_option linter.unusedSimpArgs false
namespace Go.Proofs.YtegopgpnjgikeaaDoor
open Go.RowKit
theorem rangeM_has (st : Nat) : ∀ (n : Nat), st + n ≤ 128 → ∀ i : Nat, mhas (rangeM st n) i = (decide (st ≤ i) && decide (i < st + n))
  | 0, _, i => by
    have h : rangeM st (0 : Nat) = 0 := rfl
    rw [h]
    by_cases e : st ≤ i
    · have e2 : ¬ i < st + 0 := by omega
      simp [mhas, e2]
    · simp [mhas, e]
  | n + 1, h, i => by
    have hs : rangeM st (n + 1 : Nat) = mjoin (rangeM st n) (mbit ((st + n : Nat) : Int)) := rfl
    rw [hs, mhas_join_bit _ _ (by omega), rangeM_has st n (by omega) i]
    by_cases e : i = st + n
    · subst e; simp
    · simp only [e, decide_false, Bool.or_false]
      have e2 : (i < st + (n + 1)) = (i < st + n) := propext ⟨fun h => by omega, fun h => by omega⟩
      simp only [e2]
theorem holesTo_range (st n : Nat) (h : st + n ≤ 128) : ∀ k, holesTo (rangeM st n) k = (List.range (min n (k - st))).map (fun j => ((st + j : Nat) : Int))
  | 0 => by simp [holesTo]
  | k + 1 => by
    by_cases e : st ≤ k
    · by_cases e2 : k < st + n
      · rw [holesTo_hit _ _ (by rw [rangeM_has st n h]; simp [e, e2]), holesTo_range st n h k, show min n (k + 1 - st) = min n (k - st) + 1 by omega, List.range_succ, List.map_append, List.map_cons, List.map_nil,
          show st + min n (k - st) = k by omega]
      · rw [holesTo_miss _ _ (by rw [rangeM_has st n h]; simp [e2]), holesTo_range st n h k, show min n (k + 1 - st) = min n (k - st) by omega]
    · rw [holesTo_miss _ _ (by rw [rangeM_has st n h]; simp [e]), holesTo_range st n h k, show min n (k + 1 - st) = min n (k - st) by omega]
theorem holes_range (st n : Nat) (h : st + n ≤ 128) : holesTo (rangeM st n) 128 = (List.range n).map (fun j => ((st + j : Nat) : Int)) := by
  rw [holesTo_range st n h, show min n (128 - st) = n by omega]
/-- A pass: the cards that stay, then those that drop. -/
def passF (ds : List Crd) (h : Int) : List Crd := ds.filter (fun c => !mhas c.m h) ++ ds.filter (fun c => mhas c.m h)
def passesF (ds : List Crd) (hs : List Int) : List Crd := hs.foldl passF ds
theorem passesF_take (ds : List Crd) (hs : List Int) (k : Nat) (hk : k < hs.length) : passesF ds (hs.take (k + 1)) = passF (passesF ds (hs.take k)) hs[k] := by
  unfold passesF
  rw [List.take_succ_eq_append_getElem hk, List.foldl_append]
  rfl
theorem passF_perm (ds : List Crd) (h : Int) : (passF ds h).Perm ds := by
  unfold passF
  exact List.perm_append_comm.trans (List.filter_append_perm (fun c : Crd => mhas c.m h) ds)
theorem passF_len (ds : List Crd) (h : Int) : (passF ds h).length = ds.length := (passF_perm ds h).length_eq
end Go.Proofs.YtegopgpnjgikeaaDoor
set_option linter.unusedVariables false
set_option linter.unusedSimpArgs false
namespace Go.Proofs.YtegopgpnjgikeaaDoor
open Go.RowKit
theorem nothas (i : Nat) : mhas 0 i = false := by simp [mhas]
theorem joinL_has (i : Nat) : ∀ (hs : List Mask) (a : Mask), mhas (hs.foldl mjoin a) i = (mhas a i || hs.any fun h => mhas h i)
  | [], a => by simp
  | h :: hs, a => by rw [List.foldl_cons, joinL_has i hs, mhas_or, List.any_cons, Bool.or_assoc]
theorem joinL_iff (hs : List Mask) (i : Nat) : mhas (joinL hs) i = true ↔ ∃ h ∈ hs, mhas h i = true := by
  unfold joinL
  rw [joinL_has, nothas, Bool.false_or, List.any_eq_true]
theorem wallM_fold (x : Mx) (i : Nat) : ∀ (ws : List ByteArray) (a : Mask), mhas (ws.foldl (fun m s => mjoin m (wholes x s)) a) i = (mhas a i || ws.any fun s => mhas (wholes x s) i)
  | [], a => by simp
  | h :: hs, a => by rw [List.foldl_cons, wallM_fold x i hs, mhas_or, List.any_cons, Bool.or_assoc]
theorem wallM_iff (x : Mx) (ws : List ByteArray) (i : Nat) : mhas (wallM x ws) i = true ↔ ∃ s ∈ ws, mhas (wholes x s) i = true := by
  unfold wallM
  rw [wallM_fold, nothas, Bool.false_or, List.any_eq_true]
theorem mwin_iff (m n : Mask) : mwin m n = true ↔ ∀ i : Nat, i < 128 → mhas m i = true → mhas n i = true := by
  unfold mwin
  rw [decide_eq_true_eq]
  constructor
  · intro h i hi hm
    have := mhas_less m n i hi
    rw [h, nothas, hm, Bool.true_and] at this
    cases hn : mhas n i with
    | true => rfl
    | false => rw [hn] at this; cases this
  · intro h
    refine mask_ext fun i hi => ?_
    rw [mhas_less _ _ _ hi, nothas]
    cases hm : mhas m i with
    | false => rfl
    | true => rw [h i hi hm]; rfl
theorem mask_same {a b : Mask} (h : ∀ i : Nat, i < 128 → (mhas a i = true ↔ mhas b i = true)) : a = b := mask_ext fun i hi => by
  rw [Bool.eq_iff_iff]; exact h i hi
theorem wh_part {st sz per : Int} (s0 : 0 ≤ st) (z0 : 0 < sz) (h1 : st + sz ≤ 128) {k : Nat} {a : Int} {m r : Mask} (h : WH st sz per k a m r) : ∀ i : Nat, mhas r i = true → mhas m i = true ∨ (st ≤ i ∧ (i : Int) < st + sz) := by
  induction h with
  | done a m h => exact fun i hi => .inl hi
  | step k a m r h hs ih =>
    intro i hi
    rcases ih i hi with h2 | h2
    · have e0 := Int.emod_nonneg (nextC a / 65536) (show sz ≠ 0 by omega)
      have e1 := Int.emod_lt_of_pos (nextC a / 65536) z0
      generalize nextC a / 65536 % sz = v at e0 e1 h2
      obtain ⟨n, hn⟩ := Int.eq_ofNat_of_zero_le (show 0 ≤ st + v by omega)
      rw [hn, mhas_join_bit _ _ (by omega)] at h2
      rw [Bool.or_eq_true, decide_eq_true_eq] at h2
      rcases h2 with h2 | h2
      · exact .inl h2
      · right; omega
    · exact .inr h2
theorem wholes_in {x : Mx} (hx : mixB x = true) (s : ByteArray) (i : Nat) (hi : mhas (wholes x s) i = true) : x.st ≤ i ∧ (i : Int) < x.st + x.sz := by
  obtain ⟨a1, a2, a3, a4, a5, a6, a7⟩ := (mixB_iff x).1 hx
  obtain ⟨c0, c1⟩ := chkTo_in s s.size
  obtain ⟨k, hk⟩ := whM_rounds x hx _ c0 c1
  rcases wh_part a6 (by omega) (by omega) hk i hi with h | h
  · rw [nothas] at h; cases h
  · exact h
theorem partX_has {x : Mx} (hx : mixB x = true) (i : Nat) : mhas (partX x) i = true ↔ x.st ≤ i ∧ (i : Int) < x.st + x.sz := by
  obtain ⟨a1, a2, a3, a4, a5, a6, a7⟩ := (mixB_iff x).1 hx
  obtain ⟨st, hst⟩ := Int.eq_ofNat_of_zero_le a6
  obtain ⟨sz, hsz⟩ := Int.eq_ofNat_of_zero_le (show 0 ≤ x.sz by omega)
  unfold partX
  rw [hst, hsz, rangeM_has st sz (by omega), Bool.and_eq_true, decide_eq_true_eq, decide_eq_true_eq]
  omega
theorem wallM_part {x : Mx} (hx : mixB x = true) (ws : List ByteArray) : mmeet (wallM x ws) (partX x) = wallM x ws := mask_same fun i hi => by
  rw [mhas_and, Bool.and_eq_true]
  refine ⟨fun h => h.1, fun h => ⟨h, ?_⟩⟩
  obtain ⟨s, _, hs⟩ := (wallM_iff x ws i).1 h
  exact (partX_has hx i).2 (wholes_in hx s i hs)
theorem mask_low {m : Mask} (h : ∀ i : Nat, 96 ≤ i → mhas m i = false) : isMaskB m = true := by
  unfold isMaskB
  rw [decide_eq_true_eq]
  exact Nat.lt_pow_two_of_testBit _ fun i hi => h i hi
theorem wallM_mask {x : Mx} (hx : mixB x = true) (ws : List ByteArray) : isMaskB (wallM x ws) = true := mask_low fun i hi => by
  obtain ⟨a1, a2, a3, a4, a5, a6, a7⟩ := (mixB_iff x).1 hx
  cases h : mhas (wallM x ws) i with
  | false => rfl
  | true =>
    obtain ⟨s, _, hs⟩ := (wallM_iff x ws i).1 h
    have := wholes_in hx s i hs
    omega
theorem incF_more {N N' : Nat} (hN : N ≤ N') : ∀ {S : List Int} {i : Nat}, incF N i S → incF N' i S
  | [], _, _ => trivial
  | k :: S, i, ⟨j, h0, h1, h2, h3⟩ => ⟨j, h0, h1, by omega, incF_more hN h3⟩
theorem incF_snoc {N : Nat} : ∀ {S : List Int} {i : Nat}, incF N i S → i ≤ N → incF (N + 1) i (S ++ [(N : Int)])
  | [], i, _, h => ⟨N, rfl, h, by omega, trivial⟩
  | k :: S, i, ⟨j, h0, h1, h2, h3⟩, h => ⟨j, h0, h1, by omega, incF_snoc h3 (by omega)⟩
theorem incF_in {N : Nat} {S : List Int} {i : Nat} (h : incF N i S) : ∀ k ∈ S, 0 ≤ k ∧ k < (N : Int) := fun k hk => by
  obtain ⟨j, rfl, _, h2⟩ := incF_mem h k hk
  omega
theorem pickI_more (mb : List Int) (v : Int) (l : List Int) (h : ∀ k ∈ l, 0 ≤ k ∧ k < mb.length) : pickI (mb ++ [v]) l = pickI mb l := by
  unfold pickI
  refine List.map_congr_left fun k hk => ?_
  have := h k hk
  rw [List.getD, List.getD, List.getElem?_append_left (by omega)]
/-- The places of some among all places. -/
theorem pick_some (p q : Nat → Bool) : ∀ n, (∀ i, i < n → q i = true → p i = true) → ∃ S, incF (idxTo p n).length 0 S ∧ pickI (idxTo p n) S = idxTo q n
  | 0, _ => ⟨[], trivial, rfl⟩
  | n + 1, h => by
    obtain ⟨S, h1, h2⟩ := pick_some p q n (fun i hi => h i (by omega))
    cases hp : p n with
    | false =>
      have hq : q n = false := by cases e : q n with | false => rfl | true => rw [h n (by omega) e] at hp; cases hp
      exact ⟨S, by rw [idxTo_miss _ _ hp]; exact h1, by rw [idxTo_miss _ _ hp, idxTo_miss _ _ hq]; exact h2⟩
    | true =>
      rw [idxTo_hit _ _ hp, List.length_append, List.length_singleton]
      cases hq : q n with
      | false => exact ⟨S, incF_more (by omega) h1, by rw [idxTo_miss _ _ hq, pickI_more _ _ _ (incF_in h1)]; exact h2⟩
      | true =>
        refine ⟨S ++ [((idxTo p n).length : Int)], incF_snoc h1 (Nat.zero_le _), ?_⟩
        rw [idxTo_hit _ _ hq, pickI_snoc _ _ _ (by rw [List.length_append, List.length_singleton]; omega), pickI_more _ _ _ (incF_in h1), h2, List.getElem_append_right (by omega)]
        simp
theorem hsL_iff (x : Mx) (V : List ByteArray) (l : List Int) (i : Nat) : mhas (joinL (hsL x V l)) i = true ↔ ∃ k ∈ l, mhas (holeAt x V k) i = true := by
  rw [joinL_iff]
  unfold hsL
  simp only [List.mem_map]
  constructor
  · rintro ⟨_, ⟨k, hk, rfl⟩, h⟩; exact ⟨k, hk, h⟩
  · rintro ⟨k, hk, h⟩; exact ⟨_, ⟨k, hk, rfl⟩, h⟩
/-- The places of a vocabulary whose words are among some. -/
def ownI (V ws : List ByteArray) : List Int := idxTo (fun i => ws.contains (V.getD i ⟨#[]⟩)) V.length
theorem own_join (x : Mx) (V ws : List ByteArray) (hws : ∀ s ∈ ws, s ∈ V) : joinL (hsL x V (ownI V ws)) = wallM x ws := mask_same fun i hi => by
  rw [hsL_iff, wallM_iff]
  unfold ownI
  constructor
  · rintro ⟨k, hk, h⟩
    obtain ⟨j, hj, rfl, hq⟩ := (idxTo_mem _ _ _).1 hk
    rw [List.contains_iff_mem] at hq
    unfold holeAt at h
    rw [Int.toNat_natCast] at h
    exact ⟨_, hq, h⟩
  · rintro ⟨s, hs, h⟩
    obtain ⟨j, hj, rfl⟩ := List.mem_iff_getElem.1 (hws s hs)
    refine ⟨(j : Int), (idxTo_mem _ _ _).2 ⟨j, hj, rfl, ?_⟩, ?_⟩
    · rw [List.contains_iff_mem, getS V j hj]; exact hs
    · rw [holeAt_nat x V j hj]; exact h
theorem own_may (x : Mx) (V ws : List ByteArray) (j : Nat) (hj : j < V.length) (h : V[j] ∈ ws) : (j : Int) ∈ mbX x (wallM x ws) V := by
  unfold mbX maybeTo
  refine (idxTo_mem _ _ _).2 ⟨j, hj, rfl, ?_⟩
  rw [getS V j hj, mwin_iff]
  exact fun i hi hm => (wallM_iff x ws i).2 ⟨_, h, hm⟩
theorem may_in (x : Mx) (m : Mask) (V : List ByteArray) (k : Int) (h : k ∈ mbX x m V) : ∃ j : Nat, k = (j : Int) ∧ j < V.length ∧ mwin (holeAt x V k) m = true := by
  unfold mbX maybeTo at h
  obtain ⟨j, hj, rfl, hq⟩ := (idxTo_mem _ _ _).1 h
  exact ⟨j, rfl, hj, by unfold holeAt; rw [Int.toNat_natCast]; exact hq⟩
theorem may_join (x : Mx) (V ws : List ByteArray) (hws : ∀ s ∈ ws, s ∈ V) : joinL (hsL x V (mbX x (wallM x ws) V)) = wallM x ws := mask_same fun i hi => by
  rw [hsL_iff]
  constructor
  · rintro ⟨k, hk, h⟩
    obtain ⟨j, rfl, hj, hq⟩ := may_in _ _ _ _ hk
    exact (mwin_iff _ _).1 hq i hi h
  · intro h
    rw [← own_join x V ws hws, hsL_iff] at h
    obtain ⟨k, hk, h⟩ := h
    unfold ownI at hk
    obtain ⟨j, hj, rfl, hq⟩ := (idxTo_mem _ _ _).1 hk
    rw [List.contains_iff_mem, getS V j hj] at hq
    exact ⟨_, own_may x V ws j hj hq, h⟩
theorem idxTo_up (p : Nat → Bool) : ∀ n, (idxTo p n).Pairwise (· < ·)
  | 0 => List.Pairwise.nil
  | n + 1 => by
    rw [idxTo, List.pairwise_append]
    refine ⟨idxTo_up p n, by split <;> simp, fun a ha b hb => ?_⟩
    obtain ⟨i, hi, rfl, _⟩ := (idxTo_mem _ _ _).1 ha
    split at hb
    · simp at hb; omega
    · cases hb
theorem pick_up (mb : List Int) (h : mb.Pairwise (· < ·)) : ∀ (S : List Int) (i : Nat), incF mb.length i S → (pickI mb S).Pairwise (· < ·)
  | [], _, _ => List.Pairwise.nil
  | k :: S, i, ⟨j, h0, h1, h2, h3⟩ => by
    subst h0
    show List.Pairwise _ (mb.getD (j : Int).toNat 0 :: pickI mb S)
    refine List.Pairwise.cons (fun a ha => ?_) (pick_up mb h S _ h3)
    obtain ⟨k, hk, rfl⟩ := List.mem_map.1 ha
    obtain ⟨j', rfl, e1, e2⟩ := incF_mem h3 k hk
    rw [Int.toNat_natCast, Int.toNat_natCast, getI mb j h2, getI mb j' e2]
    exact List.pairwise_iff_getElem.1 h j j' h2 e2 (by omega)
theorem sure_mem (hs : List Mask) (T : Mask) (mb : List Int) (v : Int) : ∀ n, n ≤ mb.length → v ∈ sureTo hs T mb n → ∃ k, ∃ h : k < mb.length, v = mb[k] ∧ meqB (joinL (hs.eraseIdx k)) T = false
  | 0, _, h => by rw [sureTo_zero] at h; cases h
  | n + 1, hn, h => by
    cases e : meqB (joinL (hs.eraseIdx n)) T with
    | true => rw [sureTo_miss e] at h; exact sure_mem hs T mb v n (by omega) h
    | false =>
      rw [sureTo_hit (by omega) e, List.mem_append, List.mem_singleton] at h
      rcases h with h | h
      · exact sure_mem hs T mb v n (by omega) h
      · exact ⟨n, by omega, h, e⟩
/-- A place that has to be there is among those that cover. -/
theorem sure_there {hs : List Mask} {T : Mask} {mb : List Int} (hl : hs.length = mb.length) (hall : joinL hs = T) {l : List Int} (hin : incF mb.length 0 l) (hok : okC hs T l = true) {v : Int} (hv : v ∈ sureTo hs T mb mb.length) : v ∈ pickI mb l := by
  obtain ⟨k, hk, rfl, he⟩ := sure_mem hs T mb v _ (Nat.le_refl _) hv
  by_cases hkl : (k : Int) ∈ l
  · exact List.mem_map.2 ⟨k, hkl, by rw [Int.toNat_natCast, getI mb k hk]⟩
  · exfalso
    have hT : joinL (hs.eraseIdx k) = T := mask_same fun i hi => by
      constructor
      · intro h
        obtain ⟨m, hm, h⟩ := (joinL_iff _ _).1 h
        rw [← hall]
        exact (joinL_iff _ _).2 ⟨m, List.mem_of_mem_eraseIdx hm, h⟩
      · intro h
        unfold okC meqB at hok
        rw [beq_iff_eq] at hok
        rw [← hok] at h
        unfold holesI at h
        obtain ⟨m, hm, h⟩ := (joinL_iff _ _).1 h
        obtain ⟨j, hj, rfl⟩ := List.mem_map.1 hm
        obtain ⟨j', rfl, _, e2⟩ := incF_mem hin j hj
        have hj2 : j' < hs.length := by omega
        rw [Int.toNat_natCast, getD_at hs j' hj2] at h
        refine (joinL_iff _ _).2 ⟨hs[j'], ?_, h⟩
        rw [List.mem_eraseIdx_iff_getElem]
        exact ⟨j', hj2, fun e => hkl (by rw [← e]; exact hj), rfl⟩
    rw [hT] at he
    unfold meqB at he
    simp at he
theorem explained_law {x : Mx} (hx : mixB x = true) {V ws : List ByteArray} (hV : (V.length : Int) ≤ 40) (hVn : V.all isNameB = true) (hws : ∀ s ∈ ws, s ∈ V) :
    ∃ (m : Mask) (mb model told : List Int) (code : Int), wallM x ws = m ∧ mbX x m V = mb ∧ askF x [m] V 40 = 0 ∧ expF x m V 2000 = (model, code) ∧ (code = 0 ∨ code = 7) ∧ sureF x m V = (told, 0) ∧ isMaskB m = true ∧
      mb.length ≤ 40 ∧ model.length ≤ 40 ∧ told.length ≤ 40 ∧ (∀ j (h : j < V.length), V[j] ∈ ws → (j : Int) ∈ mb) ∧
      (code = 0 → (∀ k ∈ model, k ∈ mb) ∧ (∀ k ∈ mb, ∃ j : Nat, k = (j : Int) ∧ j < V.length) ∧ model.Pairwise (· < ·) ∧ joinL (hsL x V model) = m ∧ (∀ k ∈ told, k ∈ model) ∧ model.length ≤ (ownI V ws).length) := by
  have hm := wallM_mask hx ws
  have hask : askF x [wallM x ws] V 40 = 0 := ask_ok (by rw [hx, List.all_cons, hm]; rfl) (by unfold wordsB; rw [decide_eq_true hV, hVn]; rfl)
  have hwant : wantX x (wallM x ws) = wallM x ws := wallM_part hx ws
  have hjoin := may_join x V ws hws
  have hcov : meqB (joinL (hsL x V (mbX x (wallM x ws) V))) (wantX x (wallM x ws)) = true := by rw [hjoin, hwant]; unfold meqB; exact beq_self_eq_true _
  have hlen := mbX_len x (wallM x ws) V
  have hhl := hsL_len x V (mbX x (wallM x ws) V)
  have hup : (mbX x (wallM x ws) V).Pairwise (· < ·) := by unfold mbX maybeTo; exact idxTo_up _ _
  obtain ⟨S, hS, hSp⟩ : ∃ S, incF (mbX x (wallM x ws) V).length 0 S ∧ pickI (mbX x (wallM x ws) V) S = ownI V ws := by
    unfold mbX maybeTo ownI
    refine pick_some _ _ _ fun i hi hq => ?_
    rw [List.contains_iff_mem, getS V i hi] at hq
    rw [getS V i hi, mwin_iff]
    exact fun j hj h => (wallM_iff x ws j).2 ⟨_, hq, h⟩
  have hSok : okC (hsL x V (mbX x (wallM x ws) V)) (wallM x ws) S = true := by
    unfold okC
    rw [← holesI_pick x V _ S (incF_in hS), hSp, own_join x V ws hws]
    unfold meqB; exact beq_self_eq_true _
  have hSl : S.length = (ownI V ws).length := by rw [← hSp, pickI_len]
  have hsure := sure_ok hask hcov
  have hexp := exp_ok (a := 2000) hask (by omega) hcov
  rw [hwant] at hsure hexp
  have hmin := covAll_min (okC (hsL x V (mbX x (wallM x ws) V)) (wallM x ws)) (mbX x (wallM x ws) V).length S hS hSok ((mbX x (wallM x ws) V).length + 1) 0 (2000 : Int).toNat (Nat.zero_le _) (by have := incF_len hS (Nat.zero_le _); omega)
  have hin := fun l' => srchA_in (hs := hsL x V (mbX x (wallM x ws) V)) (T := wallM x ws) (b := (2000 : Int).toNat) (l' := l')
  rw [hhl] at hexp hin
  rw [show covAll (okC (hsL x V (mbX x (wallM x ws) V)) (wallM x ws)) (mbX x (wallM x ws) V).length ((mbX x (wallM x ws) V).length + 1) 0 (2000 : Int).toNat = srchA (hsL x V (mbX x (wallM x ws) V)) (wallM x ws) ((mbX x (wallM x ws) V).length + 1) 0 (2000 : Int).toNat by unfold srchA; rw [hhl]] at hmin
  obtain ⟨hne, hhit⟩ := hmin
  have hsl := sureTo_len (hsL x V (mbX x (wallM x ws) V)) (wallM x ws) (mbX x (wallM x ws) V) (mbX x (wallM x ws) V).length
  have hmay := fun k hk => may_in x (wallM x ws) V k hk
  have hown := fun j hj h => own_may x V ws j hj h
  have hthere := fun (l : List Int) h1 h2 (v : Int) => sure_there (mb := mbX x (wallM x ws) V) hhl hjoin (l := l) h1 h2 (v := v)
  have hholes := fun (l : List Int) h => holesI_pick x V (mbX x (wallM x ws) V) l h
  generalize srchA (hsL x V (mbX x (wallM x ws) V)) (wallM x ws) ((mbX x (wallM x ws) V).length + 1) 0 (2000 : Int).toNat = r at hexp hne hhit hin
  obtain ⟨r, b⟩ := r
  cases r with
  | no => exact absurd rfl hne
  | over => exact ⟨_, _, _, _, _, rfl, rfl, hask, hexp, .inr rfl, hsure, hm, by omega, Nat.zero_le _, by omega, hown, fun h => by cases h⟩
  | hit l =>
    obtain ⟨g1, g2, g3⟩ := hhit l rfl
    have g4 := hin l rfl
    refine ⟨_, _, _, _, _, rfl, rfl, hask, hexp, .inl rfl, hsure, hm, by omega, ?_, by omega, hown, fun _ => ⟨?_, fun k hk => ?_, pick_up _ hup l 0 g2, ?_, fun k hk => hthere l g2 g3 k hk, ?_⟩⟩
    · show (pickI _ l).length ≤ 40
      rw [pickI_len]; omega
    · exact pickI_in (P := fun k => k ∈ mbX x (wallM x ws) V) (fun k hk => hk) (incF_in g2)
    · obtain ⟨j, h1, h2, _⟩ := hmay k hk
      exact ⟨j, h1, h2⟩
    · rw [hholes l (incF_in g2)]
      unfold okC meqB at g3
      rwa [beq_iff_eq] at g3
    · rw [pickI_len]; omega
end Go.Proofs.YtegopgpnjgikeaaDoor
set_option linter.unusedVariables false
set_option linter.unusedSimpArgs false
set_option maxRecDepth 100000
namespace Go.Proofs.YtegopgpnjgikeaaDoor
open Go.RowKit
theorem Win.grownOut {lo hi : Nat} {w w' w'' : World} {row : Option Nat} (h : Win lo hi w w') (hg : w'.grownBy w'' row) (hr : ∀ k, row = some k → w.heap.size ≤ k) : Win lo hi w w'' :=
  ⟨hg.os.trans h.os, hg.tape.trans h.tape, hg.output.trans h.output, Nat.le_trans h.size hg.size, fun b hb1 hb2 => (hg.block b (Nat.lt_of_lt_of_le hb1 h.size) (fun e => by have := hr b e.symm; omega)).trans (h.block b hb1 hb2)⟩
theorem Rd.grown {α : Type} {e : Enc α} {w w' : World} {A : Option Addr} {xs : List α} (h : Rd e w A xs) {row : Option Nat} (hg : w.grownBy w' row) (hne : ∀ p, A = some p → row ≠ some p.block) : Rd e w' A xs := fun k hk => by
  obtain ⟨b, off, hA, hlt, hc⟩ := h k hk
  exact ⟨b, off, hA, Nat.lt_of_lt_of_le hlt hg.size, fun j u hu => (cell_blockW (hg.block b hlt (fun e => hne _ hA e.symm))).trans (hc j u hu)⟩
theorem BoxAt.grown {w w' : World} {b : Nat} {cs : Array Value} {t : TypeId} (h : BoxAt w b cs t) {row : Option Nat} (hg : w.grownBy w' row) (hne : row ≠ some b) : BoxAt w' b cs t := (hg.block b h.lt (fun e => hne e.symm)).trans h
section
variable {α : Type} {e : Enc α} {xs : List α} {T : TypeId} {base : Nat} {v : Value}
/-- Append of one element, in a world of which nothing else is told. -/
theorem wpList_pushW {P : Program} {ops : Array Oper} {rest : List Oper} {o : Oper} {a : Act} {Q : Exit → Act → World → Prop} (e : Enc α) {W : World} {bk : Nat} (hgd : o.guard = none) (s y : Operand) (t : TypeId) (z : Value) (bytes : Nat)
    (ho : o.op = .call { callee := .builtin .append, args := #[s, y], argTypes := #[t, t] })
    (ht : P.underlying t = some (.slice T)) (hinfo : (P.info? T).map (fun i => (i.zero, i.size, i.bytes)) = some (some z, e.sz, bytes)) (hz : z.cells.size = e.sz)
    (x : α) (hs : a.eval s = v) (hy : a.eval y = .slice (some ⟨bk, 0, none⟩) 1 1) (hbk : bk = W.heap.size) (HO : Ow e T W base v xs) (hbase : base ≤ W.heap.size)
    (hl : (xs.length + 1) * bytes ≤ 140737488355328) (hl2 : xs.length + 1 ≤ 9223372036854775807)
    (h : ∀ v1 w1, Ow e T w1 base v1 (xs ++ [x]) → W.grownBy w1 v.ownBlock → (v1.ownBlock = v.ownBlock ∨ ∃ b, v1.ownBlock = some b ∧ W.heap.size ≤ b) → wpList P ops Q rest (a.put o.dst v1) w1) :
    wpList P ops Q (o :: rest) a (W.alloc (.cells (e.enc x).toArray T)) :=
  wpList_push2 (w0 := { W with heap := #[] }) e hgd s y t z bytes ho ht hinfo hz x hs hy hbk HO hbase (Nat.zero_le _) ⟨rfl, rfl, rfl, Nat.zero_le _, fun b hb => absurd hb (Nat.not_lt_zero b)⟩ hl hl2 (fun v1 w1 h1 _ h3 h4 => h v1 w1 h1 h3 h4)
end
theorem Conv.convBR {G C : Nat → Int → World → Prop} {T : Prop} (ht : ∀ b r W, C b r W → G b r W) (h : (∀ b r W, C b r W → G b r W) → T) : T := h ht
theorem Conv.convR {G C : Int → World → Prop} {T : Prop} (ht : ∀ r W, C r W → G r W) (h : (∀ r W, C r W → G r W) → T) : T := h ht
end Go.Proofs.YtegopgpnjgikeaaDoor
set_option linter.unusedVariables false
set_option linter.unusedSimpArgs false
set_option maxRecDepth 100000
namespace Go.Proofs.YtegopgpnjgikeaaDoor
open Go.RowKit
/-- The vocabulary. -/
def vocL : List ByteArray := [⟨#[97, 110, 116]⟩, ⟨#[98, 101, 101]⟩, ⟨#[102, 108, 121]⟩, ⟨#[109, 111, 116, 104]⟩, ⟨#[119, 97, 115, 112]⟩, ⟨#[116, 105, 99, 107]⟩, ⟨#[109, 105, 116, 101]⟩, ⟨#[108, 111, 117, 115, 101]⟩, ⟨#[102, 108, 101, 97]⟩, ⟨#[103, 110, 97, 116]⟩, ⟨#[98, 101, 101, 116, 108, 101]⟩, ⟨#[99, 114, 105, 99, 107, 101, 116]⟩, ⟨#[108, 111, 99, 117, 115, 116]⟩, ⟨#[104, 111, 114, 110, 101, 116]⟩]
theorem voc_len : vocL.length = 14 := rfl
theorem voc_good : vocL.all isNameB = true := by decide +kernel
theorem voc_in : ∀ s ∈ vocL, StrIn s := by
  intro s hs
  have := List.all_eq_true.1 voc_good s hs
  unfold isNameB at this
  simp only [Bool.and_eq_true, decide_eq_true_eq] at this
  unfold StrIn
  omega
theorem spec_l03Vocabulary (w : World) :
    Calls Tryd.prog 41 #[] w fun e w' => ∃ b, e = .returned (.slice (some ⟨b, 0, none⟩) 14 14) ∧ Rd encStr w' (some ⟨b, 0, none⟩) vocL ∧ w.heap.size ≤ b ∧ b < w'.heap.size ∧ Ext w w' := by
  go_enter Tryd.func41, Tryd.ntmps41
  go_wp2
  go_ret
  exact ⟨_, rfl, Rd.lit encStr _ vocL _ _ (by decide) rfl, Nat.le_refl _, by simp, (Ext.refl _).alloc _⟩
theorem spec_P6Vocabulary (w : World) :
    Calls Tryd.prog 7 #[] w fun e w' => ∃ b, e = .returned (.slice (some ⟨b, 0, none⟩) 14 14) ∧ Rd encStr w' (some ⟨b, 0, none⟩) vocL ∧ w.heap.size ≤ b ∧ b < w'.heap.size ∧ Ext w w' := by
  go_enter Tryd.func7, Tryd.ntmps7
  go_wp2_with fail
  refine Calls.mono (spec_l03Vocabulary _) ?_
  rintro e w1 ⟨b, rfl, hR, h0, h1, hb1⟩
  go_wp2
  go_ret
  exact ⟨b, rfl, hR, h0, h1, hb1⟩
theorem src_text (base b n : Nat) (ws : List ByteArray) (A : Option Addr) (cap : Nat) (w : World) (h1 : 1 ≤ ws.length) (h2 : ws.length ≤ 1048576) (hS : Src w base b n) (hn : n + 2 ≤ 1099511627776) (hR : Rd encStr w A ws) (hb : ∀ p, A = some p → p.block < b ∨ b + 1 ≤ p.block) :
    Calls Tryd.prog 43 #[.pointer (some ⟨b, 0, none⟩), .slice A ws.length cap] w fun e w' => ∃ s, e = .returned (.string s) ∧ s ∈ ws ∧ Src w' base b (n + 2) ∧ Win b (b + 1) w w' := by
  have hc := src_pick base b n ws.length (by omega) w hS hn
  go_enter Tryd.func43, Tryd.ntmps43
  go_wp2_with fail
  refine Calls.mono hc ?_
  rintro e w1 ⟨r, rfl, r0, r1, hS1, hW1⟩
  obtain ⟨r, rfl⟩ := Int.eq_ofNat_of_zero_le r0
  have hr : r < ws.length := by omega
  have hR1 := hR.win hW1 hb
  obtain ⟨bA, oA, hA, hltA, _⟩ := hR1 r hr
  subst hA
  have m0 := hR1.str r hr
  have hmem := List.getElem_mem hr
  generalize ws[r] = s at m0 hmem
  have i2 : (r : Int) < ws.length := by omega
  clear hc r0 r1 hR hR1
  go_wp2
  go_ret
  exact ⟨s, rfl, hmem, hS1, hW1⟩
theorem src_among (base b n : Nat) (ws : List Int) (A : Option Addr) (cap : Nat) (w : World) (h1 : 1 ≤ ws.length) (h2 : ws.length ≤ 1048576) (hS : Src w base b n) (hn : n + 2 ≤ 1099511627776) (hR : Rd encI64 w A ws) (hb : ∀ p, A = some p → p.block < b ∨ b + 1 ≤ p.block) :
    Calls Tryd.prog 87 #[.pointer (some ⟨b, 0, none⟩), .slice A ws.length cap] w fun e w' => ∃ s : Int, e = .returned (.int .i64 s) ∧ s ∈ ws ∧ Src w' base b (n + 2) ∧ Win b (b + 1) w w' := by
  have hc := src_pick base b n ws.length (by omega) w hS hn
  go_enter Tryd.func87, Tryd.ntmps87
  go_wp2_with fail
  refine Calls.mono hc ?_
  rintro e w1 ⟨r, rfl, r0, r1, hS1, hW1⟩
  obtain ⟨r, rfl⟩ := Int.eq_ofNat_of_zero_le r0
  have hr : r < ws.length := by omega
  have hR1 := hR.win hW1 hb
  obtain ⟨bA, oA, hA, hltA, _⟩ := hR1 r hr
  subst hA
  have m0 := hR1.i64 r hr
  have hmem := List.getElem_mem hr
  generalize ws[r] = s at m0 hmem
  have i2 : (r : Int) < ws.length := by omega
  clear hc r0 r1 hR hR1
  go_wp2
  go_ret
  exact ⟨s, rfl, hmem, hS1, hW1⟩
theorem spec_l00MinX (a b : Int) (w : World) :
    Calls Tryd.prog 88 #[.int .i64 a, .int .i64 b] w fun e w' => e = .returned (.int .i64 (if a < b then a else b)) ∧ Ext w w' := by
  by_cases h : a < b
  · rw [if_pos h]
    go_enter Tryd.func88, Tryd.ntmps88
    go_wp2
    go_ret
    exact ⟨rfl, Ext.refl _⟩
  · rw [if_neg h]
    have h' : (a < b) = False := eq_false h
    go_enter Tryd.func88, Tryd.ntmps88
    go_wp2
    go_ret
    exact ⟨rfl, Ext.refl _⟩
set_option maxHeartbeats 4000000 in
theorem spec_l03Drawn (base b n : Nat) (w : World) (hS : Src w base b n) (hn : n + 6 ≤ 1099511627776) :
    Calls Tryd.prog 39 #[.pointer (some ⟨b, 0, none⟩)] w fun e w' => ∃ x : Mx, e = .returned (.agg #[.int .i16 x.st, .int .i16 x.sz, .int .i16 x.per]) ∧ mixB x = true ∧ MxIn x ∧ Src w' base b (n + 6) ∧ Win b (b + 1) w w' := by
  have lS := hS.lt
  have hbs := hS.base
  go_enter Tryd.func39, Tryd.ntmps39
  go_wp2_with fail
  refine intro_world (R := fun W => Calls _ _ _ W _) (fun W1 hN => ?_)
  have hY1 : BoxAt W1 w.heap.size #[.int .i16 0, .int .i16 0, .int .i16 0] 26 := by rw [hN]; exact (BoxAt.new' rfl).alloc _
  have hR1 : Rd encI64 W1 (some ⟨w.heap.size + 1, 0, none⟩) [8, 12, 20, 30, 40, 60, 96] := by rw [hN]; simpa using Rd.lit encI64 (w.alloc (.cells #[.int .i16 0, .int .i16 0, .int .i16 0] 26)) [8, 12, 20, 30, 40, 60, 96] #[.int .i64 8, .int .i64 12, .int .i64 20, .int .i64 30, .int .i64 40, .int .i64 60, .int .i64 96] _ (by simp) rfl
  have e1 : Ext w W1 := by rw [hN]; exact ((Ext.refl _).alloc _).alloc _
  clear hN
  refine Calls.mono (src_among base b n [8, 12, 20, 30, 40, 60, 96] (some ⟨w.heap.size + 1, 0, none⟩) 7 W1 (by decide) (by decide) (hS.ext e1) (by omega) hR1 (fun p hp => by cases hp; exact .inr (by show b + 1 ≤ w.heap.size + 1; omega))) ?_
  rintro e w2 ⟨sz, rfl, hsz, hS2, hW2⟩
  have z0 : 8 ≤ sz ∧ sz ≤ 96 := by
    simp only [List.mem_cons, List.not_mem_nil, or_false] at hsz
    omega
  have hY2 := hY1.win hW2 (.inr (by omega))
  have hw2 := (Win.of (lo := b) (hi := b + 1) e1).trans hW2
  clear hR1 e1 hW2 hsz hS hY1
  have j1 : IntKind.i64.wrap (97 - sz) = 97 - sz := IntWalk.i64_in _ (by omega)
  have j2 : IntKind.i16.wrap sz = sz := IntWalk.i16_in _ (by omega)
  go_wp2_with fail
  refine Calls.mono (src_pick base b _ (97 - sz) (by omega) w2 hS2 (by omega)) ?_
  rintro e w3 ⟨st, rfl, t0, t1, hS3, hW3⟩
  have hY3 := hY2.win hW3 (.inr (by omega))
  have hw3 := hw2.trans hW3
  clear hY2 hw2 hW3 hS2
  have j3 : IntKind.i16.wrap st = st := IntWalk.i16_in _ (by omega)
  have j4 : sz.tdiv 2 = sz / 2 := Int.tdiv_eq_ediv_of_nonneg (by omega)
  have j5 : IntKind.i64.wrap (sz / 2) = sz / 2 := IntWalk.i64_in _ (by omega)
  have l3 : w.heap.size < w3.heap.size := hY3.lt
  go_wp2_with fail
  refine intro_world (R := fun W => Calls _ _ _ W _) (fun W4 hN => ?_)
  have e4 : Ext w3 W4 := by rw [hN]; exact (Ext.refl _).alloc _
  have hX4 : BoxAt W4 w3.heap.size #[.int .i16 st, .int .i16 sz, .int .i16 0] 26 := by rw [hN]; exact BoxAt.new' rfl
  clear hN
  have hY4 := hY3.ext e4
  have hS4 := hS3.ext e4
  have hw4 := hw3.ext e4
  clear hY3 hS3 hw3 e4
  refine Calls.mono (spec_l00MinX 5 (sz / 2) W4) ?_
  rintro e w5 ⟨rfl, hb5⟩
  have hX5 := hX4.ext hb5
  have hY5 := hY4.ext hb5
  have hS5 := hS4.ext hb5
  have hw5 := hw4.ext hb5
  clear hX4 hY4 hS4 hw4 hb5
  obtain ⟨mn, hmn⟩ : ∃ mn : Int, (if (5 : Int) < sz / 2 then (5 : Int) else sz / 2) = mn := ⟨_, rfl⟩
  have m0 : 4 ≤ mn ∧ mn ≤ 5 ∧ mn ≤ sz / 2 := by split at hmn <;> omega
  rw [hmn]
  clear hmn
  go_wp2_with fail
  refine Calls.mono (src_pick base b _ mn (by omega) w5 hS5 (by omega)) ?_
  rintro e w6 ⟨r, rfl, r0, r1, hS6, hW6⟩
  have lS5 := hS5.lt
  have hX6 := hX5.win hW6 (.inr (by omega))
  have hY6 := hY5.win hW6 (.inr (by omega))
  have hw6 := hw5.trans hW6
  clear hX5 hY5 hS5 hw5 hW6
  have j6 : IntKind.i64.wrap (1 + r) = 1 + r := IntWalk.i64_in _ (by omega)
  have j7 : IntKind.i16.wrap (1 + r) = 1 + r := IntWalk.i16_in _ (by omega)
  have hG : mixB ⟨st, sz, 1 + r⟩ = true := (mixB_iff _).2 ⟨by show 4 ≤ sz; omega, by show sz ≤ 96; omega, by show 1 ≤ 1 + r; omega, by show 1 + r ≤ 8; omega, by show 2 * (1 + r) ≤ sz; omega, by show 0 ≤ st; omega, by show st ≤ 96 - sz; omega⟩
  have hI : MxIn ⟨st, sz, 1 + r⟩ := ⟨⟨by show -32768 ≤ st; omega, by show st < 32768; omega⟩, ⟨by show -32768 ≤ sz; omega, by show sz < 32768; omega⟩, ⟨by show -32768 ≤ 1 + r; omega, by show 1 + r < 32768; omega⟩⟩
  have z0 : World.cell? w6 ⟨w3.heap.size, 0, none⟩ = some (.int .i16 st) := hX6.cell 0
  have z1 : World.cell? w6 ⟨w3.heap.size, 1, none⟩ = some (.int .i16 sz) := hX6.cell 1
  have z2 : World.cell? w6 ⟨w3.heap.size, 2, none⟩ = some (.int .i16 0) := hX6.cell 2
  have zf := hX6.frozen 2
  have lX := hX6.lt
  have u0 : World.cell? w6 ⟨w.heap.size, 0, none⟩ = some (.int .i16 0) := hY6.cell 0
  have u1 : World.cell? w6 ⟨w.heap.size, 1, none⟩ = some (.int .i16 0) := hY6.cell 1
  have u2 : World.cell? w6 ⟨w.heap.size, 2, none⟩ = some (.int .i16 0) := hY6.cell 2
  have uf0 := hY6.frozen 0
  have uf1 := hY6.frozen 1
  have uf2 := hY6.frozen 2
  have lY := hY6.lt
  have lY3 : w.heap.size < w3.heap.size := by omega
  have hneq : ¬ w3.heap.size = w.heap.size := by omega
  have hneq2 : ¬ w.heap.size = w3.heap.size := by omega
  have hYf := (((hY6.setOther (p := ⟨w3.heap.size, 2, none⟩) (show w.heap.size ≠ w3.heap.size by omega) (.int .i16 (1 + r))).set 0 (.int .i16 st)).set 1 (.int .i16 sz)).set 2 (.int .i16 (1 + r))
  have hSf := (((hS6.set (p := ⟨w3.heap.size, 2, none⟩) (show base ≤ w3.heap.size by omega) (show w3.heap.size ≠ b by omega) (.int .i16 (1 + r))).set (p := ⟨w.heap.size, 0, none⟩) (show base ≤ w.heap.size by omega) (show w.heap.size ≠ b by omega) (.int .i16 st)).set (p := ⟨w.heap.size, 1, none⟩) (show base ≤ w.heap.size by omega) (show w.heap.size ≠ b by omega) (.int .i16 sz)).set (p := ⟨w.heap.size, 2, none⟩) (show base ≤ w.heap.size by omega) (show w.heap.size ≠ b by omega) (.int .i16 (1 + r))
  have hWf := (((hw6.setOut (p := ⟨w3.heap.size, 2, none⟩) (show w.heap.size ≤ w3.heap.size by omega) (.int .i16 (1 + r))).setOut (p := ⟨w.heap.size, 0, none⟩) (Nat.le_refl _) (.int .i16 st)).setOut (p := ⟨w.heap.size, 1, none⟩) (Nat.le_refl _) (.int .i16 sz)).setOut (p := ⟨w.heap.size, 2, none⟩) (Nat.le_refl _) (.int .i16 (1 + r))
  clear hX6 hY6 hS6 hw6
  go_wp2
  clear z0 z1 z2 zf lX u0 u1 u2 uf0 uf1 uf2 lY
  have c0 : World.cell? _ ⟨w.heap.size, 0, none⟩ = some (.int .i16 st) := hYf.cell 0
  have c1 : World.cell? _ ⟨w.heap.size, 1, none⟩ = some (.int .i16 sz) := hYf.cell 1
  have c2 : World.cell? _ ⟨w.heap.size, 2, none⟩ = some (.int .i16 (1 + r)) := hYf.cell 2
  refine bodyPost_ret (v := .agg #[.int .i16 st, .int .i16 sz, .int .i16 (1 + r)]) (by simp [results, Tryd.results39, go_sem, c0, c1, c2]) rfl ⟨⟨st, sz, 1 + r⟩, rfl, hG, hI, ?_, ?_⟩
  · exact hSf.up (by omega) (by omega)
  · exact hWf
set_option maxHeartbeats 1000000 in
theorem impl_MaybeWords (x : Mx) (hxi : MxIn x) (m : Mask) (vs : List ByteArray) (A : Option Addr) (cap : Nat) (hask : askF x [m] vs 40 = 0) (w : World) (hR : Rd encStr w A vs) (hn : vs.length ≤ 1048576) (hok : ∀ x ∈ vs, StrIn x) :
    Calls Tryd.prog 10 #[.agg #[.int .i16 x.st, .int .i16 x.sz, .int .i16 x.per], .agg #[.int .u64 (lo m), .int .u64 (hi m)], .slice A vs.length cap] w fun e w' => ∃ v, e = .returned (.tuple #[v, .int .i64 0]) ∧ Ow encI64 2 w' w.heap.size v (mbX x m vs) ∧ Ext w w' := by
  have hcv := fun (W : World) (hE : Ext w W) => impl_checkVocabulary x hxi m vs A cap W (hR.ext hE) hn hok
  have hmx := (ask_zero hask).1
  have hmb := fun (W : World) (hE : Ext w W) => impl_maybe x hmx m vs A cap W (hR.ext hE) hn hok
  rw [show maybeTo x m vs vs.length = mbX x m vs from rfl] at hmb
  rw [hask] at hcv
  generalize mbX x m vs = mb at hmb
  obtain ⟨st, sz, per⟩ := x
  dsimp only at hcv hmb
  have hx := @ExtOf.cell
  go_enter Tryd.func10, Tryd.ntmps10
  go_wp2_with fail
  refine Calls.mono (hcv _ (by ((repeat (first | with_reducible exact Ext.refl _ | with_reducible exact hw | with_reducible exact hb9 | with_reducible exact hb8 | with_reducible exact hb7 | with_reducible exact hb6 | with_reducible exact hb5 | with_reducible exact hb4 | with_reducible exact hb3 | with_reducible exact hb2 | with_reducible exact hb1 | with_reducible refine Ext.alloc ?_ _ | with_reducible refine Ext.drew ?_ | ((with_reducible refine Ext.set ?_ ?_ _); focus (dsimp only; omega)) | with_reducible refine Ext.trans ?_ hb9 | with_reducible refine Ext.trans ?_ hb8 | with_reducible refine Ext.trans ?_ hb7 | with_reducible refine Ext.trans ?_ hb6 | with_reducible refine Ext.trans ?_ hb5 | with_reducible refine Ext.trans ?_ hb4 | with_reducible refine Ext.trans ?_ hb3 | with_reducible refine Ext.trans ?_ hb2 | with_reducible refine Ext.trans ?_ hb1 | with_reducible refine Ext.trans ?_ hw))))) ?_
  rintro e w1 ⟨rfl, hb1⟩
  have hX : BoxAt w1 w.heap.size #[.int .i16 st, .int .i16 sz, .int .i16 per] 26 := ((BoxAt.new' rfl).alloc _).ext hb1
  have hM : BoxAt w1 (w.heap.size + 1) #[.int .u64 (lo m), .int .u64 (hi m)] 33 := (BoxAt.new' (by simp)).ext hb1
  have hw1 : Ext w w1 := (((Ext.refl _).alloc _).alloc _).trans hb1
  clear hb1
  have x0 : w1.cell? ⟨w.heap.size, 0, none⟩ = some (.int .i16 st) := hX.cell 0
  have x1 : w1.cell? ⟨w.heap.size, 1, none⟩ = some (.int .i16 sz) := hX.cell 1
  have x2 : w1.cell? ⟨w.heap.size, 2, none⟩ = some (.int .i16 per) := hX.cell 2
  have y0 : w1.cell? ⟨w.heap.size + 1, 0, none⟩ = some (.int .u64 (lo m)) := hM.cell 0
  have y1 : w1.cell? ⟨w.heap.size + 1, 1, none⟩ = some (.int .u64 (hi m)) := hM.cell 1
  have lX := hX.lt
  have lM := hM.lt
  go_wp2_with fail
  refine Calls.mono (hmb _ hw1) ?_
  rintro e w2 ⟨v2, rfl, hO2, hb2⟩
  go_wp2
  go_ret2
  exact ⟨v2, rfl, hO2.lower hw1.size, hw1.trans hb2⟩
set_option maxHeartbeats 1000000 in
theorem spec_MaybeWords (x : Mx) (hxi : MxIn x) (m : Mask) (vs : List ByteArray) (A : Option Addr) (cap : Nat) (hask : askF x [m] vs 40 = 0) (w : World) (hR : Rd encStr w A vs) (hn : vs.length ≤ 1048576) (hok : ∀ x ∈ vs, StrIn x) :
    Calls Tryd.prog 11 #[.agg #[.int .i16 x.st, .int .i16 x.sz, .int .i16 x.per], .agg #[.int .u64 (lo m), .int .u64 (hi m)], .slice A vs.length cap] w fun e w' => ∃ v, e = .returned (.tuple #[v, .int .i64 0]) ∧ Ow encI64 2 w' w.heap.size v (mbX x m vs) ∧ Ext w w' := by
  have hM0 : ∀ W, BoxAt W w.heap.size #[.int .i16 x.st, .int .i16 x.sz, .int .i16 x.per] 26 → MixAt W w.heap.size 0 x := fun W h => ⟨h.cell 0, h.cell 1, h.cell 2⟩
  have hak := fun (B : Option Addr) (W : World) (h : MixAt W w.heap.size 0 x) (hE : Ext w W) (hS : Rd encMask W B [m]) => spec_l03Asked x hxi w.heap.size 0 [m] B 1 vs A cap 40 W h hS (by simp) (hR.ext hE) hn hok
  have hmx := (ask_zero hask).1
  have hmb := fun (W : World) (h : MixAt W w.heap.size 0 x) (hE : Ext w W) => spec_l03Maybe x hmx m vs A cap w.heap.size 0 W h (hR.ext hE) hn hok
  rw [show maybeTo x m vs vs.length = mbX x m vs from rfl] at hmb
  rw [hask] at hak
  generalize mbX x m vs = mb at hmb
  have hx := @ExtOf.cell
  go_enter Tryd.func11, Tryd.ntmps11
  go_wp2_with fail
  refine Calls.mono (hak (some ⟨w.heap.size + 1 + 1, 0, none⟩) _ (hM0 _ (((BoxAt.new' rfl).alloc _).alloc _)) (by ((repeat (first | with_reducible exact Ext.refl _ | with_reducible exact hw | with_reducible exact hb9 | with_reducible exact hb8 | with_reducible exact hb7 | with_reducible exact hb6 | with_reducible exact hb5 | with_reducible exact hb4 | with_reducible exact hb3 | with_reducible exact hb2 | with_reducible exact hb1 | with_reducible refine Ext.alloc ?_ _ | with_reducible refine Ext.drew ?_ | ((with_reducible refine Ext.set ?_ ?_ _); focus (dsimp only; omega)) | with_reducible refine Ext.trans ?_ hb9 | with_reducible refine Ext.trans ?_ hb8 | with_reducible refine Ext.trans ?_ hb7 | with_reducible refine Ext.trans ?_ hb6 | with_reducible refine Ext.trans ?_ hb5 | with_reducible refine Ext.trans ?_ hb4 | with_reducible refine Ext.trans ?_ hb3 | with_reducible refine Ext.trans ?_ hb2 | with_reducible refine Ext.trans ?_ hb1 | with_reducible refine Ext.trans ?_ hw)))) (by simpa using Rd.lit encMask ((w.alloc (.cells #[.int .i16 x.st, .int .i16 x.sz, .int .i16 x.per] 26)).alloc (.cells #[.int .u64 (lo m), .int .u64 (hi m)] 33)) [m] #[.int .u64 (lo m), .int .u64 (hi m)] 33 (by simp) rfl)) ?_
  rintro e w1 ⟨rfl, hb1⟩
  have hX : BoxAt w1 w.heap.size #[.int .i16 x.st, .int .i16 x.sz, .int .i16 x.per] 26 := (((BoxAt.new' rfl).alloc _).alloc _).ext hb1
  have hM : BoxAt w1 (w.heap.size + 1) #[.int .u64 (lo m), .int .u64 (hi m)] 33 := ((BoxAt.new' (by simp)).alloc _).ext hb1
  have hw1 : Ext w w1 := ((((Ext.refl _).alloc _).alloc _).alloc _).trans hb1
  clear hb1
  have y0 : w1.cell? ⟨w.heap.size + 1, 0, none⟩ = some (.int .u64 (lo m)) := hM.cell 0
  have y1 : w1.cell? ⟨w.heap.size + 1, 1, none⟩ = some (.int .u64 (hi m)) := hM.cell 1
  have lM := hM.lt
  go_wp2_with fail
  refine Calls.mono (hmb _ (hM0 _ hX) hw1) ?_
  rintro e w2 ⟨v2, rfl, hO2, hb2⟩
  go_wp2
  go_ret2
  exact ⟨v2, rfl, hO2.lower hw1.size, hw1.trans hb2⟩
theorem info_strX : (Tryd.prog.info? 9).map (fun i => (i.zero, i.size, i.bytes)) = some (some (.string ⟨#[]⟩), encStr.sz, 16) := by kernel_rfl
set_option maxHeartbeats 4000000 in
theorem spec_P6Words (cs : List UInt8) (A : Option Addr) (cap : Nat) (w : World) (hR : Rd encU8 w A cs) (hn : cs.length ≤ 1099511627776) :
    Calls Tryd.prog 8 #[.slice A cs.length cap] w fun e w' => ∃ ws v, e = .returned v ∧ Ow encStr 9 w' w.heap.size v ws ∧ (∀ s ∈ ws, s ∈ vocL) ∧ ws.length ≤ 4 ∧ Ext w w' := by
  have hf := spec_l00From cs A cap w w hR hn (Ext.refl w)
  go_enter Tryd.func8, Tryd.ntmps8
  go_wp2_with fail
  refine Calls.mono hf ?_
  rintro e w1 ⟨b, rfl, hS, hb, hE1⟩
  clear hf
  have lS := hS.lt
  go_wp2_with fail
  refine intro_world (R := fun W => Calls _ _ _ W _) (fun W2 hN => ?_)
  have e2 : Ext w1 W2 := by rw [hN]; exact (Ext.refl _).alloc _
  have hO2 : Ow encStr 9 W2 (b + 1) (.slice (some ⟨w1.heap.size, 0, none⟩) 0 0) [] := by rw [hN]; exact Ow.made0 rfl lS
  have hS2 := hS.ext e2
  have hw2 := hE1.trans e2
  clear hN e2 hS hE1
  refine Calls.mono (src_pick _ b 0 5 (by omega) W2 hS2 (by omega)) ?_
  rintro e w3 ⟨k0, rfl, k00, k01, hS3, hW3⟩
  have hO3 := hO2.win hW3 (fun b' h => .inr (hO2.lt b' h).1)
  have hw3 := hw2.win hW3 hb
  clear hS2 hO2 hW3 hw2
  obtain ⟨k0, rfl⟩ := Int.eq_ofNat_of_zero_le k00
  go_wp2
  go_loopg [4, 5] k0 (fun g v kv wr => ∃ k : Nat, ∃ ws : List ByteArray, g = k ∧ kv = .int .i64 k ∧ Hd (ws.length + k = k0) ∧ Hd (∀ s ∈ ws, s ∈ vocL) ∧ Ow encStr 9 wr (b + 1) v ws ∧ Src wr w.heap.size b (50 - 4 * k) ∧ Ext w wr)
  case atStart => exact ⟨k0, [], rfl, rfl, hd (by simp), hd (fun s h => by cases h), hO3, hS3.up (by omega) (by omega), hw3⟩
  case round =>
    obtain ⟨k, ws, hg, rfl, hlen, hD, hO, hSr, hw⟩ := hrel
    clear hS3 hO3 hw3 k00
    cases k with
    | zero =>
      go_wp2
      go_ret
      exact ⟨ws, _, rfl, hO.lower (by omega), hD.out, by have := hlen.out; omega, hw⟩
    | succ k =>
      have hlen2 := hlen.out
      have i1 : ((0 : Int) < (k + 1 : Nat)) = True := eq_true (by omega)
      rw [show ((k + 1 : Nat) : Int) = (k : Int) + 1 from rfl] at *
      go_wp2_with fail
      refine Calls.mono (spec_l03Vocabulary _) ?_
      rintro e w4 ⟨c, rfl, hN, hc0, hc1, hb4⟩
      have hO4 := hO.ext hb4
      have hS4 := hSr.ext hb4
      have hw4 := hw.trans hb4
      have lr := hSr.lt
      clear hO hSr hw hb4
      go_wp2_with fail
      refine Calls.mono (src_text _ b _ vocL (some ⟨c, 0, none⟩) 14 _ (by rw [voc_len]; omega) (by rw [voc_len]; omega) hS4 (by omega) hN (fun p hp => by cases hp; exact .inr (by show b + 1 ≤ c; omega))) ?_
      rintro e w5 ⟨s, rfl, hs, hS5, hW5⟩
      have hO5 := hO4.win hW5 (fun b' h => .inr (hO4.lt b' h).1)
      have hw5 := hw4.win hW5 hb
      have l5 := hS5.lt
      clear hN hO4 hS4 hw4 hW5
      obtain ⟨A5, cap5, rfl, hle5, hR5⟩ := hO5.slice
      clear hle5 hR5
      go_wp2_with (at_builtin; refine wpList_pushW (base := b + 1) (xs := ws) encStr (by rfl) _ _ 28 (.string ⟨#[]⟩) 16 (by rfl) Tryd.underlying28 info_strX (by rfl) s (by rfl) (by rfl) (by simp) hO5 (by omega) (by omega) (by omega) ?_)
      intro v6 w6 hO6 hg6 ho6
      have hS6 := hS5.grown hg6 (fun j hj => by have := (hO5.lt j hj).1; omega)
      have hw6 : Ext w w6 := hw5.trans' hg6 (fun j hj => by have := (hO5.lt j hj).1; omega)
      have hD6 : Hd (∀ s' ∈ ws ++ [s], s' ∈ vocL) := hd (fun s' h => (List.mem_append.1 h).elim (hD.out s') (fun h => by rw [List.mem_singleton.1 h]; exact hs))
      have hlen6 : Hd ((ws ++ [s]).length + k = k0) := hd (by rw [List.length_append, List.length_singleton]; omega)
      go_wp2
      go_roundg k
      case rel => exact ⟨k, _, rfl, rfl, hlen6, hD6, hO6, hS6.up (by omega) (by omega), hw6⟩
      case measure => omega
theorem spec_P6Mix (cs : List UInt8) (A : Option Addr) (cap : Nat) (w : World) (hR : Rd encU8 w A cs) (hn : cs.length ≤ 1099511627776) :
    Calls Tryd.prog 6 #[.slice A cs.length cap] w fun e w' => ∃ x : Mx, e = .returned (.agg #[.int .i16 x.st, .int .i16 x.sz, .int .i16 x.per]) ∧ mixB x = true ∧ MxIn x ∧ Ext w w' := by
  have hf := spec_l00From cs A cap w _ hR hn ((Ext.refl w).alloc (.cells #[.int .i16 0, .int .i16 0, .int .i16 0] 26))
  go_enter Tryd.func6, Tryd.ntmps6
  go_wp2_with fail
  refine Calls.mono hf ?_
  rintro e w1 ⟨b, rfl, hS, hb, hE1⟩
  have hY1 : BoxAt w1 w.heap.size #[.int .i16 0, .int .i16 0, .int .i16 0] 26 := (BoxAt.new' rfl).ext hE1
  simp only [World.size_alloc] at hb
  have hw1 := ((Ext.refl w).alloc (.cells #[.int .i16 0, .int .i16 0, .int .i16 0] 26)).trans hE1
  have hc := spec_l03Drawn _ b 0 w1 hS (by omega)
  clear hf hE1
  go_wp2_with fail
  refine Calls.mono hc ?_
  rintro e w2 ⟨x, rfl, h1, h2, hS2, hW2⟩
  have hY2 := hY1.win hW2 (.inl (by omega))
  have hw2 := hw1.win hW2 (by omega)
  clear hc hY1 hw1 hW2
  have u0 : World.cell? w2 ⟨w.heap.size, 0, none⟩ = some (.int .i16 0) := hY2.cell 0
  have u1 : World.cell? w2 ⟨w.heap.size, 1, none⟩ = some (.int .i16 0) := hY2.cell 1
  have u2 : World.cell? w2 ⟨w.heap.size, 2, none⟩ = some (.int .i16 0) := hY2.cell 2
  have uf0 := hY2.frozen 0
  have uf1 := hY2.frozen 1
  have uf2 := hY2.frozen 2
  have lY := hY2.lt
  have hYf := ((hY2.set 0 (.int .i16 x.st)).set 1 (.int .i16 x.sz)).set 2 (.int .i16 x.per)
  clear hY2
  go_wp2
  clear u0 u1 u2 uf0 uf1 uf2 lY
  have c0 : World.cell? _ ⟨w.heap.size, 0, none⟩ = some (.int .i16 x.st) := hYf.cell 0
  have c1 : World.cell? _ ⟨w.heap.size, 1, none⟩ = some (.int .i16 x.sz) := hYf.cell 1
  have c2 : World.cell? _ ⟨w.heap.size, 2, none⟩ = some (.int .i16 x.per) := hYf.cell 2
  refine bodyPost_ret (v := .agg #[.int .i16 x.st, .int .i16 x.sz, .int .i16 x.per]) (by simp [results, Tryd.results6, go_sem, c0, c1, c2]) rfl ⟨x, rfl, h1, h2, ?_⟩
  exact Ext.set (Nat.le_refl _) (Ext.set (Nat.le_refl _) (Ext.set (Nat.le_refl _) hw2 _) _) _
theorem spec_HasWord (ls : List ByteArray) (A : Option Addr) (cap : Nat) (s : ByteArray) (w : World) (hR : Rd encStr w A ls) (hn : ls.length ≤ 1048576) :
    Calls Tryd.prog 13 #[.slice A ls.length cap, .string s] w fun e w' => e = .returned (.bool (ls.contains s)) ∧ Ext w w' := by
  have h := spec_l03Has ls A ls.length cap rfl s w hR hn
  generalize ls.contains s = r at h ⊢
  go_enter Tryd.func13, Tryd.ntmps13
  go_wp2_with fail
  refine Calls.mono (h) ?_
  rintro e w1 ⟨rfl, hb1⟩
  go_wp2
  go_ret
  exact ⟨rfl, hb1⟩
theorem spec_HasIndexX (is : List Int) (A : Option Addr) (cap : Nat) (v : Int) (w : World) (hR : Rd encI64 w A is) (hn : is.length ≤ 1048576) :
    Calls Tryd.prog 14 #[.slice A is.length cap, .int .i64 v] w fun e w' => e = .returned (.bool (is.contains v)) ∧ Ext w w' := by
  have h := spec_l00Has is A is.length cap rfl v w hR hn
  generalize is.contains v = r at h ⊢
  go_enter Tryd.func14, Tryd.ntmps14
  go_wp2_with fail
  refine Calls.mono (h) ?_
  rintro e w1 ⟨rfl, hb1⟩
  go_wp2
  go_ret
  exact ⟨rfl, hb1⟩
set_option maxHeartbeats 400000 in
theorem spec_l00SameX (is : List Int) (A B : Option Addr) (cap cap' : Nat) (w : World) (hR : Rd encI64 w A is) (hS : Rd encI64 w B is) (hn : is.length ≤ 1048576) :
    Calls Tryd.prog 49 #[.slice A is.length cap, .slice B is.length cap'] w fun e w' => e = .returned (.bool true) ∧ Ext w w' := by
  have hx := @ExtOf.cell
  go_enter Tryd.func49, Tryd.ntmps49
  go_wp2
  go_loopg [5] is.length (fun g i wr => ∃ k : Nat, g = is.length - k ∧ k ≤ is.length ∧ i = .int .i64 k ∧ Ext w wr)
  case atStart => exact ⟨0, by omega, by omega, rfl, Ext.refl _⟩
  case round =>
    obtain ⟨k, hg, hk, rfl, hw⟩ := hrel
    by_cases hkl : k < is.length
    · obtain ⟨b, off, hA, hlt, hr1⟩ := hR k hkl
      obtain ⟨c, off', hB, hlt', hr2⟩ := hS k hkl
      subst hA hB
      clear hr1 hr2
      have m0 := (hR.ext hw).i64 k hkl
      have m1 := (hS.ext hw).i64 k hkl
      have l0 := Nat.lt_of_lt_of_le hlt hw.size
      have l1 := Nat.lt_of_lt_of_le hlt' hw.size
      generalize is[k] = x at m0 m1
      have q1 : (k : Int) < is.length := by omega
      go_wp2
      refine wp_region_ext (by kernel_rfl) (by kernel_rfl) ?_
      repeat (first | go_big_quiet_step (fail) | quiet_step (fail))
      refine wpQuiet_nil ?_
      intro w3 hq3
      have hb3 := ext_of_class hq3
      clear hq3
      obtain ⟨hc3, hf3, hz3⟩ := bcell3 hb3
      try simp at hz3
      go_wp2
      go_roundg (is.length - (k + 1))
      case rel => exact ⟨k + 1, rfl, hkl, by first | rfl | simp, hw.trans hb3⟩
      case measure => omega
    · obtain rfl : k = is.length := by omega
      go_wp2
      go_ret
      exact ⟨rfl, hw⟩
theorem spec_SameIndicesX (is : List Int) (A B : Option Addr) (cap cap' : Nat) (w : World) (hR : Rd encI64 w A is) (hS : Rd encI64 w B is) (hn : is.length ≤ 1048576) :
    Calls Tryd.prog 12 #[.slice A is.length cap, .slice B is.length cap'] w fun e w' => e = .returned (.bool true) ∧ Ext w w' := by
  go_enter Tryd.func12, Tryd.ntmps12
  go_wp2_with fail
  refine Calls.mono (spec_l00SameX is A B cap cap' _ hR hS hn) ?_
  rintro e w1 ⟨rfl, hb1⟩
  go_wp2
  go_ret
  exact ⟨rfl, hb1⟩
end Go.Proofs.YtegopgpnjgikeaaDoor
set_option linter.unusedVariables false
set_option linter.unusedSimpArgs false
set_option maxRecDepth 100000
namespace Go.Proofs.YtegopgpnjgikeaaDoor
open Go.RowKit
def cntV (ws : List ByteArray) (k : Nat) : Nat := (idxTo (fun i => ws.contains (vocL.getD i ⟨#[]⟩)) k).length
theorem cntV_zero (ws : List ByteArray) : cntV ws 0 = 0 := rfl
theorem cntV_hit {ws : List ByteArray} {k : Nat} (h : k < vocL.length) (q : ws.contains vocL[k] = true) : cntV ws (k + 1) = cntV ws k + 1 := by
  unfold cntV
  rw [idxTo_hit _ _ (by rw [getS vocL k h]; exact q), List.length_append, List.length_singleton]
theorem cntV_miss {ws : List ByteArray} {k : Nat} (h : k < vocL.length) (q : ws.contains vocL[k] = false) : cntV ws (k + 1) = cntV ws k := by
  unfold cntV
  rw [idxTo_miss _ _ (by rw [getS vocL k h]; exact q)]
theorem cntV_le (ws : List ByteArray) (k : Nat) : cntV ws k ≤ k := idxTo_len _ _
theorem cntV_all (ws : List ByteArray) : cntV ws 14 = (ownI vocL ws).length := rfl
attribute [irreducible] cntV
theorem words_voc {ws : List ByteArray} (h : ∀ s ∈ ws, s ∈ vocL) (hl : ws.length ≤ 12) : wordsB ws 12 = true := by
  unfold wordsB
  rw [decide_eq_true (by omega), Bool.true_and, List.all_eq_true]
  exact fun s hs => List.all_eq_true.1 voc_good s (h s hs)
theorem rd_str1 {W : World} {b : Nat} {s : ByteArray} {t : TypeId} (hb : b = W.heap.size) : Rd encStr (W.alloc (.cells #[.string s] t)) (some ⟨b, 0, none⟩) [s] := by
  subst hb
  exact Rd.lit encStr W [s] _ t (by simp) rfl
theorem zjoinX (m : Mask) : mjoin 0 m = m := by simp [mjoin]
set_option maxHeartbeats 1000000 in
theorem spec_AddWords0 (x : Mx) (hxi : MxIn x) (hmx : mixB x = true) (ws : List ByteArray) (A : Option Addr) (cap : Nat) (hws : wordsB ws 12 = true) (w : World) (hR : Rd encStr w A ws) (hn : ws.length ≤ 1048576) (hok : ∀ x ∈ ws, StrIn x) :
    Calls Tryd.prog 9 #[.agg #[.int .i16 x.st, .int .i16 x.sz, .int .i16 x.per], .agg #[.int .u64 0, .int .u64 0], .slice A ws.length cap] w fun e w' => e = .returned (.tuple #[.agg #[.int .u64 (lo (wallM x ws)), .int .u64 (hi (wallM x ws))], .int .i64 0]) ∧ Ext w w' := by
  have hM0 : ∀ W, BoxAt W w.heap.size #[.int .i16 x.st, .int .i16 x.sz, .int .i16 x.per] 26 → MixAt W w.heap.size 0 x := fun W h => ⟨h.cell 0, h.cell 1, h.cell 2⟩
  have hask : askF x [0] ws 12 = 0 := ask_ok (by rw [hmx]; rfl) (by rw [hws]; rfl)
  have hak := fun (B : Option Addr) (W : World) (h : MixAt W w.heap.size 0 x) (hE : Ext w W) (hS : Rd encMask W B [0]) => spec_l03Asked x hxi w.heap.size 0 [0] B 1 ws A cap 12 W h hS (by simp) (hR.ext hE) hn hok
  rw [hask] at hak
  have hal := fun (W : World) (h : MixAt W w.heap.size 0 x) (hE : Ext w W) => spec_l03All x hmx ws A cap w.heap.size 0 W h (hR.ext hE) hn hok
  have hj := fun W => spec_JoinMasks 0 (wallM x ws) W
  rw [zjoinX] at hj
  generalize wallM x ws = wm at hal hj ⊢
  have hx := @ExtOf.cell
  go_enter Tryd.func9, Tryd.ntmps9
  go_wp2_with fail
  refine intro_world (R := fun W => Calls _ _ _ W _) (fun W0 hN => ?_)
  have hX0 : BoxAt W0 w.heap.size #[.int .i16 x.st, .int .i16 x.sz, .int .i16 x.per] 26 := by rw [hN]; exact (((BoxAt.new' rfl).alloc _).alloc _).alloc _
  have hM1 : BoxAt W0 (w.heap.size + 1) #[.int .u64 0, .int .u64 0] 33 := by rw [hN]; exact ((BoxAt.new' (by simp)).alloc _).alloc _
  have hY0 : BoxAt W0 (w.heap.size + 1 + 1) #[.int .u64 0, .int .u64 0] 33 := by rw [hN]; exact (BoxAt.new' (by simp)).alloc _
  have hS0 : Rd encMask W0 (some ⟨w.heap.size + 1 + 1 + 1, 0, none⟩) [0] := by rw [hN]; simpa using Rd.lit encMask (((w.alloc (.cells #[.int .i16 x.st, .int .i16 x.sz, .int .i16 x.per] 26)).alloc (.cells #[.int .u64 0, .int .u64 0] 33)).alloc (.cells #[.int .u64 0, .int .u64 0] 33)) [0] #[.int .u64 0, .int .u64 0] 33 (by simp) rfl
  have e0 : Ext w W0 := by rw [hN]; exact ((((Ext.refl _).alloc _).alloc _).alloc _).alloc _
  clear hN
  refine Calls.mono (hak _ W0 (hM0 _ hX0) e0 hS0) ?_
  rintro e w1 ⟨rfl, hb1⟩
  have hX := hX0.ext hb1
  have hM := hM1.ext hb1
  have hY := hY0.ext hb1
  have hw1 := e0.trans hb1
  clear hX0 hM1 hY0 hS0 hb1 e0 hak
  have y0 : w1.cell? ⟨w.heap.size + 1, 0, none⟩ = some (.int .u64 0) := hM.cell 0
  have y1 : w1.cell? ⟨w.heap.size + 1, 1, none⟩ = some (.int .u64 0) := hM.cell 1
  have lM := hM.lt
  have hal1 := fun W (hE : Ext w1 W) => hal W (hM0 _ (hX.ext hE)) (hw1.trans hE)
  have lo0 : lo (0 : Mask) = 0 := by decide
  have hi0 : hi (0 : Mask) = 0 := by decide
  rw [lo0, hi0] at hj
  go_wp2
  refine wp_region_ext_tail 4 4 (by kernel_rfl) (by kernel_rfl) (by intro d _ _ _ _ h; cases d <;> exact h) ?_
  simp only [List.take_succ_cons, List.take_zero, List.drop_succ_cons, List.drop_zero]
  repeat (first | go_big_quiet_step ((first | (go_at_call 45; with_reducible exact Calls.ext_all (fun W hE => hal1 W hE)) | (go_at_call 20; with_reducible exact Calls.ext_all (fun W _ => hj W)))) | quiet_step ((first | (go_at_call 45; with_reducible exact Calls.ext_all (fun W hE => hal1 W hE)) | (go_at_call 20; with_reducible exact Calls.ext_all (fun W _ => hj W)))))
  refine wpQuiet_nil ?_
  intro w2 hq2
  have hb2 := ext_of_class hq2
  clear hq2
  obtain ⟨hc2, hf2, hz2⟩ := bcell3 hb2
  try simp at hz2
  replace hY := hY.ext hb2
  have hw2 := hw1.trans hb2
  clear y0 y1 lM hc2 hf2 hb2 hX hM hal hal1 hj hM0
  have ry0 : w2.cell? ⟨w.heap.size + 1 + 1, 0, none⟩ = some (.int .u64 0) := hY.cell 0
  have ry1 : w2.cell? ⟨w.heap.size + 1 + 1, 1, none⟩ = some (.int .u64 0) := hY.cell 1
  have rf0 := hY.frozen 0
  have rf1 := hY.frozen 1
  have rl := hY.lt
  go_wp2
  have rYf := ((hY.set 0 (.int .u64 (lo wm))).set 1 (.int .u64 (hi wm)))
  clear ry0 rf0 ry1 rf1
  have rc0 : World.cell? _ ⟨w.heap.size + 1 + 1, 0, none⟩ = some (.int .u64 (lo wm)) := rYf.cell 0
  have rc1 : World.cell? _ ⟨w.heap.size + 1 + 1, 1, none⟩ = some (.int .u64 (hi wm)) := rYf.cell 1
  refine bodyPost_ret (v := .tuple #[.agg #[.int .u64 (lo wm), .int .u64 (hi wm)], .int .i64 0]) (by simp [results, Tryd.results9, go_sem, rc0, rc1]) rfl ⟨rfl, ?_⟩
  exact Ext.set (by dsimp only; omega) (Ext.set (by dsimp only; omega) (hw2) _) _
set_option maxHeartbeats 1000000 in
theorem spec_WordHoles (x : Mx) (hxi : MxIn x) (hmx : mixB x = true) (s : ByteArray) (hs : isNameB s = true) (hsi : StrIn s) (w : World) :
    Calls Tryd.prog 19 #[.agg #[.int .i16 x.st, .int .i16 x.sz, .int .i16 x.per], .string s] w fun e w' => e = .returned (.tuple #[.agg #[.int .u64 (lo (wholes x s)), .int .u64 (hi (wholes x s))], .int .i64 0]) ∧ Ext w w' := by
  have hM0 : ∀ W, BoxAt W w.heap.size #[.int .i16 x.st, .int .i16 x.sz, .int .i16 x.per] 26 → MixAt W w.heap.size 0 x := fun W h => ⟨h.cell 0, h.cell 1, h.cell 2⟩
  have hask : askF x [] [s] 1 = 0 := ask_ok (by rw [hmx]; rfl) (by unfold wordsB; rw [List.all_cons, hs]; rfl)
  have hak := fun (B A : Option Addr) (W : World) (h : MixAt W w.heap.size 0 x) (hS : Rd encStr W A [s]) => spec_l03Asked x hxi w.heap.size 0 [] B 0 [s] A 1 1 W h (Rd.nil _ _ _) (by simp) hS (by simp) (fun z hz => by rw [List.mem_singleton.1 hz]; exact hsi)
  rw [hask] at hak
  have hho := fun (W : World) (h : MixAt W w.heap.size 0 x) => spec_l03Holes x hmx s hsi w.heap.size 0 W h
  generalize wholes x s = wm at hho ⊢
  have hx := @ExtOf.cell
  go_enter Tryd.func19, Tryd.ntmps19
  go_wp2_with fail
  refine intro_world (R := fun W => Calls _ _ _ W _) (fun W0 hN => ?_)
  have hX0 : BoxAt W0 w.heap.size #[.int .i16 x.st, .int .i16 x.sz, .int .i16 x.per] 26 := by rw [hN]; exact (((BoxAt.new' rfl).alloc _).alloc _).alloc _
  have hY0 : BoxAt W0 (w.heap.size + 1) #[.int .u64 0, .int .u64 0] 33 := by rw [hN]; exact ((BoxAt.new' (by simp)).alloc _).alloc _
  have hS0 : Rd encStr W0 (some ⟨w.heap.size + 1 + 1 + 1, 0, none⟩) [s] := by rw [hN]; exact rd_str1 (by simp)
  have e0 : Ext w W0 := by rw [hN]; exact ((((Ext.refl _).alloc _).alloc _).alloc _).alloc _
  clear hN
  refine Calls.mono (hak _ _ W0 (hM0 _ hX0) hS0) ?_
  rintro e w1 ⟨rfl, hb1⟩
  have hX := hX0.ext hb1
  have hY := hY0.ext hb1
  have hw1 := e0.trans hb1
  clear hX0 hY0 hS0 hb1 e0 hak
  go_wp2_with fail
  refine Calls.mono (hho _ (hM0 _ hX)) ?_
  rintro e w2 ⟨rfl, hb2⟩
  replace hY := hY.ext hb2
  have hw2 := hw1.trans hb2
  clear hb2 hX hho hM0
  have ry0 : w2.cell? ⟨w.heap.size + 1, 0, none⟩ = some (.int .u64 0) := hY.cell 0
  have ry1 : w2.cell? ⟨w.heap.size + 1, 1, none⟩ = some (.int .u64 0) := hY.cell 1
  have rf0 := hY.frozen 0
  have rf1 := hY.frozen 1
  have rl := hY.lt
  go_wp2
  have rYf := ((hY.set 0 (.int .u64 (lo wm))).set 1 (.int .u64 (hi wm)))
  clear ry0 rf0 ry1 rf1
  have rc0 : World.cell? _ ⟨w.heap.size + 1, 0, none⟩ = some (.int .u64 (lo wm)) := rYf.cell 0
  have rc1 : World.cell? _ ⟨w.heap.size + 1, 1, none⟩ = some (.int .u64 (hi wm)) := rYf.cell 1
  refine bodyPost_ret (v := .tuple #[.agg #[.int .u64 (lo wm), .int .u64 (hi wm)], .int .i64 0]) (by simp [results, Tryd.results19, go_sem, rc0, rc1]) rfl ⟨rfl, ?_⟩
  exact Ext.set (by dsimp only; omega) (Ext.set (by dsimp only; omega) (hw2) _) _
end Go.Proofs.YtegopgpnjgikeaaDoor
