/-
  ZA: the texts X7 X8 X9 Z1 Z2 Z4 Z3 Z5 in one (written by merge.py).
-/
import Derived.Test.YtegopgpnjgikeaaGreatDoorXA
import Derived.Test.YtegopgpnjgikeaaGreatDoorShelf
import Derived.Lib.OwnBridge
import Derived.Test.YtegopgpnjgikeaaGreatDoorX6
import Derived.Test.YtegopgpnjgikeaaGreatDoorL9
import Derived.Test.YtegopgpnjgikeaaGreatDoorNS
import Derived.Test.YtegopgpnjgikeaaGreatDoorG6
import Derived.Deep.RegionHeld
set_option linter.unusedVariables false
set_option linter.unusedSimpArgs false
set_option maxRecDepth 100000
namespace Go.Proofs.YtegopgpnjgikeaaGreatDoor
open Go.RowKit
theorem getS (vs : List ByteArray) (k : Nat) (hk : k < vs.length) : vs.getD k ⟨#[]⟩ = vs[k] := by rw [List.getD, List.getElem?_eq_getElem hk]; rfl
/-- The holes of a word of a vocabulary, of some of them. -/
noncomputable def holeAt (x : Mx) (vs : List ByteArray) (k : Int) : Mask := wholes x (vs.getD k.toNat ⟨#[]⟩)
noncomputable def hsL (x : Mx) (vs : List ByteArray) (mb : List Int) : List Mask := mb.map (holeAt x vs)
theorem hsL_len (x : Mx) (vs : List ByteArray) (mb : List Int) : (hsL x vs mb).length = mb.length := by unfold hsL; rw [List.length_map]
theorem holeAt_nat (x : Mx) (vs : List ByteArray) (n : Nat) (h : n < vs.length) : holeAt x vs n = wholes x vs[n] := by unfold holeAt; rw [Int.toNat_natCast, getS vs n h]
theorem joinL_take (hs : List Mask) (k : Nat) (h : k < hs.length) : joinL (hs.take (k + 1)) = mjoin (joinL (hs.take k)) hs[k] := by rw [List.take_succ_eq_append_getElem h, joinL_snoc]
theorem hsL_take (x : Mx) (vs : List ByteArray) (mb : List Int) (k : Nat) (h : k < mb.length) : joinL ((hsL x vs mb).take (k + 1)) = mjoin (joinL ((hsL x vs mb).take k)) (holeAt x vs mb[k]) := by
  rw [joinL_take _ k (by rw [hsL_len]; exact h)]
  congr 1
  unfold hsL
  rw [List.getElem_map]
theorem hsL_snoc (x : Mx) (vs : List ByteArray) (mb : List Int) (k : Nat) (h : k < mb.length) : hsL x vs (mb.take (k + 1)) = hsL x vs (mb.take k) ++ [holeAt x vs mb[k]] := by
  unfold hsL
  rw [List.take_succ_eq_append_getElem h, List.map_append]
  rfl
theorem map_erase {α β : Type} (f : α → β) : ∀ (l : List α) (i : Nat), (l.eraseIdx i).map f = (l.map f).eraseIdx i
  | [], _ => rfl
  | _ :: _, 0 => rfl
  | x :: l, i + 1 => by
    show f x :: (l.eraseIdx i).map f = f x :: (l.map f).eraseIdx i
    rw [map_erase f l i]
theorem hsL_erase (x : Mx) (vs : List ByteArray) (mb : List Int) (i : Nat) : hsL x vs (mb.eraseIdx i) = (hsL x vs mb).eraseIdx i := map_erase _ _ _
/-- The words that may be in a mask. -/
noncomputable def maybeTo (x : Mx) (m : Mask) (vs : List ByteArray) (n : Nat) : List Int := idxTo (fun i => mwin (wholes x (vs.getD i ⟨#[]⟩)) m) n
theorem maybeTo_zero (x : Mx) (m : Mask) (vs : List ByteArray) : maybeTo x m vs 0 = [] := rfl
theorem maybeTo_hit {x : Mx} {m : Mask} {vs : List ByteArray} {k : Nat} (hk : k < vs.length) (hq : mwin (wholes x vs[k]) m = true) : maybeTo x m vs (k + 1) = maybeTo x m vs k ++ [(k : Int)] := idxTo_hit _ k (by rw [getS vs k hk]; exact hq)
theorem maybeTo_miss {x : Mx} {m : Mask} {vs : List ByteArray} {k : Nat} (hk : k < vs.length) (hq : mwin (wholes x vs[k]) m = false) : maybeTo x m vs (k + 1) = maybeTo x m vs k := idxTo_miss _ k (by rw [getS vs k hk]; exact hq)
theorem maybeTo_len (x : Mx) (m : Mask) (vs : List ByteArray) (n : Nat) : (maybeTo x m vs n).length ≤ n := idxTo_len _ n
theorem maybeTo_in (x : Mx) (m : Mask) (vs : List ByteArray) (n : Nat) : ∀ k ∈ maybeTo x m vs n, 0 ≤ k ∧ k < n := by
  intro k hk
  obtain ⟨i, h1, h2, _⟩ := (idxTo_mem _ n k).1 hk
  omega
attribute [irreducible] maybeTo
theorem all_i64 (xs : List Int) : encI64.all xs = xs.map (Value.int .i64) := by
  unfold Enc.all
  induction xs with
  | nil => rfl
  | cons x xs ih => rw [List.flatMap_cons, ih]; rfl
end Go.Proofs.YtegopgpnjgikeaaGreatDoor
set_option linter.unusedVariables false
set_option linter.unusedSimpArgs false
set_option maxRecDepth 100000
namespace Go.Proofs.YtegopgpnjgikeaaGreatDoor
open Go.RowKit
def sureTo (hs : List Mask) (T : Mask) (mb : List Int) : Nat → List Int
  | 0 => []
  | n + 1 => if meqB (joinL (hs.eraseIdx n)) T = true then sureTo hs T mb n else sureTo hs T mb n ++ [mb.getD n 0]
theorem sureTo_zero (hs : List Mask) (T : Mask) (mb : List Int) : sureTo hs T mb 0 = [] := rfl
theorem sureTo_hit {hs : List Mask} {T : Mask} {mb : List Int} {k : Nat} (hk : k < mb.length) (h : meqB (joinL (hs.eraseIdx k)) T = false) : sureTo hs T mb (k + 1) = sureTo hs T mb k ++ [mb[k]] := by
  rw [sureTo, if_neg (by rw [h]; decide), List.getD, List.getElem?_eq_getElem hk]; rfl
theorem sureTo_miss {hs : List Mask} {T : Mask} {mb : List Int} {k : Nat} (h : meqB (joinL (hs.eraseIdx k)) T = true) : sureTo hs T mb (k + 1) = sureTo hs T mb k := by rw [sureTo, if_pos h]
theorem sureTo_len (hs : List Mask) (T : Mask) (mb : List Int) : ∀ n, (sureTo hs T mb n).length ≤ n
  | 0 => Nat.le_refl _
  | n + 1 => by
    have := sureTo_len hs T mb n
    rw [sureTo]
    split
    · omega
    · rw [List.length_append, List.length_singleton]; omega
attribute [irreducible] sureTo
/-- What has to be covered. -/
def wantX (x : Mx) (m : Mask) : Mask := mmeet m (partX x)
noncomputable def mbX (x : Mx) (m : Mask) (vs : List ByteArray) : List Int := maybeTo x m vs vs.length
noncomputable def sureF (x : Mx) (m : Mask) (vs : List ByteArray) : List Int × Int :=
  if askF x [m] vs 40 = 0 then (if meqB (joinL (hsL x vs (mbX x m vs))) (wantX x m) = true then (sureTo (hsL x vs (mbX x m vs)) (wantX x m) (mbX x m vs) (mbX x m vs).length, 0) else ([], 6)) else ([], askF x [m] vs 40)
theorem sure_no {x : Mx} {m : Mask} {vs : List ByteArray} (h : ¬ askF x [m] vs 40 = 0) : sureF x m vs = ([], askF x [m] vs 40) := by unfold sureF; rw [if_neg h]
theorem sure_none {x : Mx} {m : Mask} {vs : List ByteArray} (h : askF x [m] vs 40 = 0) (h2 : meqB (joinL (hsL x vs (mbX x m vs))) (wantX x m) = false) : sureF x m vs = ([], 6) := by unfold sureF; rw [if_pos h, h2]; rfl
theorem sure_ok {x : Mx} {m : Mask} {vs : List ByteArray} (h : askF x [m] vs 40 = 0) (h2 : meqB (joinL (hsL x vs (mbX x m vs))) (wantX x m) = true) :
    sureF x m vs = (sureTo (hsL x vs (mbX x m vs)) (wantX x m) (mbX x m vs) (mbX x m vs).length, 0) := by unfold sureF; rw [if_pos h, if_pos h2]
theorem mbX_len (x : Mx) (m : Mask) (vs : List ByteArray) : (mbX x m vs).length ≤ vs.length := maybeTo_len _ _ _ _
theorem sure_len (x : Mx) (m : Mask) (vs : List ByteArray) (h : vs.length ≤ 1048576) : (sureF x m vs).1.length ≤ 1048576 := by
  unfold sureF
  split
  · split
    · exact Nat.le_trans (sureTo_len _ _ _ _) (Nat.le_trans (mbX_len x m vs) h)
    · simp
  · simp
theorem sure_inv (hs : List Mask) : ∀ {n}, n ∈ hs → True := fun _ => trivial
end Go.Proofs.YtegopgpnjgikeaaGreatDoor
set_option linter.unusedVariables false
set_option linter.unusedSimpArgs false
set_option maxRecDepth 100000
namespace Go.Proofs.YtegopgpnjgikeaaGreatDoor
open Go.RowKit
end Go.Proofs.YtegopgpnjgikeaaGreatDoor
set_option linter.unusedVariables false
set_option linter.unusedSimpArgs false
set_option maxRecDepth 100000
namespace Go.Proofs.YtegopgpnjgikeaaGreatDoor
open Go.RowKit
/-- The values at places. -/
def pickI (mb l : List Int) : List Int := l.map fun i => mb.getD i.toNat 0
theorem pickI_nil (mb : List Int) : pickI mb [] = [] := rfl
theorem pickI_len (mb l : List Int) : (pickI mb l).length = l.length := List.length_map _
theorem getI (mb : List Int) (k : Nat) (h : k < mb.length) : mb.getD k 0 = mb[k] := by rw [List.getD, List.getElem?_eq_getElem h]; rfl
theorem pickI_snoc (mb l : List Int) (k : Nat) (h : k < mb.length) : pickI mb (l ++ [(k : Int)]) = pickI mb l ++ [mb[k]] := by
  unfold pickI; rw [List.map_append, List.map_singleton, Int.toNat_natCast, getI mb k h]
theorem pickI_in {mb l : List Int} {P : Int → Prop} (hm : ∀ k ∈ mb, P k) (hl : ∀ k ∈ l, 0 ≤ k ∧ k < mb.length) : ∀ k ∈ pickI mb l, P k := by
  intro k hk
  obtain ⟨i, hi, rfl⟩ := List.mem_map.1 hk
  obtain ⟨h0, h1⟩ := hl i hi
  rw [getI mb i.toNat (by omega)]
  exact hm _ (List.getElem_mem _)
theorem pickI_at (mb l : List Int) (k : Nat) (h : k < l.length) : (pickI mb l)[k]'(by rw [pickI_len]; exact h) = mb.getD (l[k]).toNat 0 := List.getElem_map _
theorem pickI_take (mb l : List Int) (k : Nat) (h : k < l.length) : pickI mb (l.take (k + 1)) = pickI mb (l.take k) ++ [mb.getD (l[k]).toNat 0] := by
  unfold pickI; rw [List.take_succ_eq_append_getElem h, List.map_append]; rfl
/-- All holes of the words at places. -/
def holesI (hs : List Mask) (l : List Int) : Mask := joinL (l.map fun i => hs.getD i.toNat 0)
theorem holesI_nil (hs : List Mask) : holesI hs [] = 0 := rfl
theorem holesI_snoc (hs : List Mask) (l : List Int) (k : Nat) (h : k < hs.length) : holesI hs (l ++ [(k : Int)]) = mjoin (holesI hs l) hs[k] := by
  unfold holesI; rw [List.map_append, List.map_singleton, joinL_snoc, Int.toNat_natCast, getD_at hs k h]
theorem holesI_pick (x : Mx) (vs : List ByteArray) (mb l : List Int) (hl : ∀ k ∈ l, 0 ≤ k ∧ k < mb.length) : joinL (hsL x vs (pickI mb l)) = holesI (hsL x vs mb) l := by
  unfold holesI hsL pickI
  rw [List.map_map]
  congr 1
  refine List.map_congr_left (fun i hi => ?_)
  obtain ⟨h0, h1⟩ := hl i hi
  rw [Function.comp, getI mb i.toNat (by omega), getD_at _ i.toNat (by rw [List.length_map]; omega), List.getElem_map]
theorem map_places (hs : List Mask) : ∀ (n i : Nat), i + n = hs.length → (placesFrom i n).map (fun i => hs.getD i.toNat 0) = hs.drop i
  | 0, i, h => by rw [placesFrom, List.map_nil, List.drop_eq_nil_of_le (by omega)]
  | n + 1, i, h => by
    rw [placesFrom, List.map_cons, map_places hs n (i + 1) (by omega), Int.toNat_natCast, getD_at hs i (by omega), List.drop_eq_getElem_cons (i := i) (by omega)]
theorem holesI_full (hs : List Mask) : holesI hs (placesFrom 0 hs.length) = joinL hs := by unfold holesI; rw [map_places hs _ 0 (by omega), List.drop_zero]
/-- Do these places cover the mask? -/
def okC (hs : List Mask) (T : Mask) (l : List Int) : Bool := meqB (holesI hs l) T
def srch (hs : List Mask) (T : Mask) (n i : Nat) (l : List Int) (b : Nat) : Cov × Nat := covN (okC hs T) hs.length n i l b
def srchL (hs : List Mask) (T : Mask) (n : Nat) (l : List Int) (c i b : Nat) : Cov × Nat := covL (covN (okC hs T) hs.length n) l c i b
def srchA (hs : List Mask) (T : Mask) (c m b : Nat) : Cov × Nat := covAll (okC hs T) hs.length c m b
def stopB : Cov → Bool
  | .no => false
  | _ => true
def hitB : Cov → Bool
  | .hit _ => true
  | _ => false
def overB : Cov → Bool
  | .over => true
  | _ => false
def overI : Cov → Int
  | .over => 7
  | _ => 0
theorem srch_over (hs : List Mask) (T : Mask) (i : Nat) (l : List Int) : srch hs T 0 i l 0 = (.over, 0) := rfl
theorem srch_hit {hs : List Mask} {T : Mask} {i : Nat} {l : List Int} {b : Nat} (h : meqB (holesI hs l) T = true) : srch hs T 0 i l (b + 1) = (.hit l, b) := by
  unfold srch; rw [covN, if_neg (by omega)]; unfold okC; rw [if_pos h]; rfl
theorem srch_miss {hs : List Mask} {T : Mask} {i : Nat} {l : List Int} {b : Nat} (h : meqB (holesI hs l) T = false) : srch hs T 0 i l (b + 1) = (.no, b) := by
  unfold srch; rw [covN, if_neg (by omega)]; unfold okC; rw [h]; rfl
theorem srch_succ (hs : List Mask) (T : Mask) (n i : Nat) (l : List Int) (b : Nat) : srchL hs T n l (hs.length - n - i) i b = srch hs T (n + 1) i l b := rfl
theorem srchL_zero (hs : List Mask) (T : Mask) (n : Nat) (l : List Int) (i b : Nat) : srchL hs T n l 0 i b = (.no, b) := rfl
theorem srchL_no {hs : List Mask} {T : Mask} {n : Nat} {l : List Int} {c i b b' : Nat} (h : srch hs T n (i + 1) (l ++ [(i : Int)]) b = (.no, b')) : srchL hs T n l (c + 1) i b = srchL hs T n l c (i + 1) b' := by
  unfold srchL srch at *; rw [covL, h]
theorem srchL_hit {hs : List Mask} {T : Mask} {n : Nat} {l l' : List Int} {c i b b' : Nat} (h : srch hs T n (i + 1) (l ++ [(i : Int)]) b = (.hit l', b')) : srchL hs T n l (c + 1) i b = (.hit l', b') := by
  unfold srchL srch at *; rw [covL, h]
theorem srchL_over {hs : List Mask} {T : Mask} {n : Nat} {l : List Int} {c i b b' : Nat} (h : srch hs T n (i + 1) (l ++ [(i : Int)]) b = (.over, b')) : srchL hs T n l (c + 1) i b = (.over, b') := by
  unfold srchL srch at *; rw [covL, h]
theorem srchA_zero (hs : List Mask) (T : Mask) (m b : Nat) : srchA hs T 0 m b = (.no, b) := rfl
theorem srchA_no {hs : List Mask} {T : Mask} {c m b b' : Nat} (h : srch hs T m 0 [] b = (.no, b')) : srchA hs T (c + 1) m b = srchA hs T c (m + 1) b' := by
  unfold srchA srch at *; rw [covAll, h]
theorem srchA_hit {hs : List Mask} {T : Mask} {c m b b' : Nat} {l : List Int} (h : srch hs T m 0 [] b = (.hit l, b')) : srchA hs T (c + 1) m b = (.hit l, b') := by
  unfold srchA srch at *; rw [covAll, h]
theorem srchA_over {hs : List Mask} {T : Mask} {c m b b' : Nat} (h : srch hs T m 0 [] b = (.over, b')) : srchA hs T (c + 1) m b = (.over, b') := by
  unfold srchA srch at *; rw [covAll, h]
theorem srchA_full {hs : List Mask} {T : Mask} (h : meqB (joinL hs) T = true) (b : Nat) : (srchA hs T (hs.length + 1) 0 b).1 ≠ .no :=
  covAll_full (okC hs T) hs.length (by unfold okC; rw [holesI_full]; exact h) (hs.length + 1) 0 b (by omega) (by omega)
/-- Nothing is given back to the budget, and a list that is found has so many places, all of them within. -/
def CovIn (N n : Nat) (l : List Int) (b : Nat) (r : Cov × Nat) : Prop := r.2 ≤ b ∧ ∀ l', r.1 = .hit l' → l'.length = l.length + n ∧ ((∀ k ∈ l, 0 ≤ k ∧ k < (N : Int)) → ∀ k ∈ l', 0 ≤ k ∧ k < (N : Int))
theorem covL_in (f : Nat → List Int → Nat → Cov × Nat) (N n : Nat) (l : List Int) (hf : ∀ i l b, CovIn N n l b (f i l b)) : ∀ (c i b : Nat), i + c ≤ N → CovIn N (n + 1) l b (covL f l c i b)
  | 0, i, b, _ => ⟨Nat.le_refl _, fun l' h => by cases h⟩
  | c + 1, i, b, hc => by
    rw [covL]
    have h := hf (i + 1) (l ++ [(i : Int)]) b
    generalize f (i + 1) (l ++ [(i : Int)]) b = r at h
    obtain ⟨r, b'⟩ := r
    cases r with
    | hit l' =>
      refine ⟨h.1, fun l'' he => ?_⟩
      obtain ⟨g1, g2⟩ := h.2 l'' he
      refine ⟨by rw [g1, List.length_append, List.length_singleton]; omega, fun hl => g2 (fun k hk => ?_)⟩
      rcases List.mem_append.1 hk with hk | hk
      · exact hl k hk
      · rw [List.mem_singleton.1 hk]; omega
    | over => exact ⟨h.1, fun l'' he => by cases he⟩
    | no =>
      have := covL_in f N n l hf c (i + 1) b' (by omega)
      exact ⟨Nat.le_trans this.1 h.1, this.2⟩
theorem covN_in (ok : List Int → Bool) (N : Nat) : ∀ (n i : Nat) (l : List Int) (b : Nat), CovIn N n l b (covN ok N n i l b)
  | 0, i, l, b => by
    rw [covN]
    by_cases e : b = 0
    · rw [if_pos e]; exact ⟨Nat.zero_le _, fun l' h => by cases h⟩
    · rw [if_neg e]
      refine ⟨Nat.sub_le _ _, fun l' h => ?_⟩
      by_cases hk : ok l = true
      · rw [if_pos hk] at h; cases h; exact ⟨rfl, fun h => h⟩
      · rw [if_neg hk] at h; cases h
  | n + 1, i, l, b => by
    rw [covN]
    by_cases h : N - n - i = 0
    · rw [h]; exact ⟨Nat.le_refl _, fun l' h => by cases h⟩
    · exact covL_in _ N n l (fun i l b => covN_in ok N n i l b) _ _ _ (by omega)
theorem covAll_in (ok : List Int → Bool) (N : Nat) : ∀ (c m b : Nat), m + c = N + 1 → (covAll ok N c m b).2 ≤ b ∧ ∀ l', (covAll ok N c m b).1 = .hit l' → l'.length ≤ N ∧ ∀ k ∈ l', 0 ≤ k ∧ k < (N : Int)
  | 0, m, b, _ => ⟨Nat.le_refl _, fun l' h => by cases h⟩
  | c + 1, m, b, hm => by
    rw [covAll]
    have h := covN_in ok N m 0 [] b
    generalize covN ok N m 0 [] b = r at h
    obtain ⟨r, b'⟩ := r
    cases r with
    | hit l' =>
      refine ⟨h.1, fun l'' he => ?_⟩
      obtain ⟨g1, g2⟩ := h.2 l'' he
      exact ⟨by rw [g1, List.length_nil]; omega, g2 (fun k hk => by cases hk)⟩
    | over => exact ⟨h.1, fun l'' he => by cases he⟩
    | no =>
      have := covAll_in ok N c (m + 1) b' (by omega)
      exact ⟨Nat.le_trans this.1 h.1, this.2⟩
theorem srch_le (hs : List Mask) (T : Mask) (n i : Nat) (l : List Int) (b : Nat) : (srch hs T n i l b).2 ≤ b := (covN_in (okC hs T) hs.length n i l b).1
theorem srch_len {hs : List Mask} {T : Mask} {n i : Nat} {l l' : List Int} {b b' : Nat} (h : srch hs T n i l b = (.hit l', b')) : l'.length = l.length + n := ((covN_in (okC hs T) hs.length n i l b).2 l' (by rw [show covN (okC hs T) hs.length n i l b = _ from h])).1
theorem srch_in {hs : List Mask} {T : Mask} {n i : Nat} {l l' : List Int} {b b' : Nat} (h : srch hs T n i l b = (.hit l', b')) (hl : ∀ k ∈ l, 0 ≤ k ∧ k < (hs.length : Int)) : ∀ k ∈ l', 0 ≤ k ∧ k < (hs.length : Int) := ((covN_in (okC hs T) hs.length n i l b).2 l' (by rw [show covN (okC hs T) hs.length n i l b = _ from h])).2 hl
theorem srchA_in {hs : List Mask} {T : Mask} {b : Nat} {l' : List Int} (h : (srchA hs T (hs.length + 1) 0 b).1 = .hit l') : l'.length ≤ hs.length ∧ ∀ k ∈ l', 0 ≤ k ∧ k < (hs.length : Int) := (covAll_in (okC hs T) hs.length (hs.length + 1) 0 b (by omega)).2 l' h
/-- What the search ends with, as values and a code. -/
def resC (mb : List Int) : Cov → List Int × Int
  | .hit l => (pickI mb l, 0)
  | .no => ([], 6)
  | .over => ([], 7)
noncomputable def expF (x : Mx) (m : Mask) (vs : List ByteArray) (a : Int) : List Int × Int :=
  if askF x [m] vs 40 = 0 then (if 0 ≤ a ∧ a ≤ 2000 then (if meqB (joinL (hsL x vs (mbX x m vs))) (wantX x m) = true then resC (mbX x m vs) (srchA (hsL x vs (mbX x m vs)) (wantX x m) ((hsL x vs (mbX x m vs)).length + 1) 0 a.toNat).1 else ([], 6)) else ([], 2)) else ([], askF x [m] vs 40)
theorem exp_no {x : Mx} {m : Mask} {vs : List ByteArray} {a : Int} (h : ¬ askF x [m] vs 40 = 0) : expF x m vs a = ([], askF x [m] vs 40) := by unfold expF; rw [if_neg h]
theorem exp_far {x : Mx} {m : Mask} {vs : List ByteArray} {a : Int} (h : askF x [m] vs 40 = 0) (h2 : ¬ (0 ≤ a ∧ a ≤ 2000)) : expF x m vs a = ([], 2) := by unfold expF; rw [if_pos h, if_neg h2]
theorem exp_none {x : Mx} {m : Mask} {vs : List ByteArray} {a : Int} (h : askF x [m] vs 40 = 0) (h2 : 0 ≤ a ∧ a ≤ 2000) (h3 : meqB (joinL (hsL x vs (mbX x m vs))) (wantX x m) = false) : expF x m vs a = ([], 6) := by unfold expF; rw [if_pos h, if_pos h2, h3]; rfl
theorem exp_ok {x : Mx} {m : Mask} {vs : List ByteArray} {a : Int} (h : askF x [m] vs 40 = 0) (h2 : 0 ≤ a ∧ a ≤ 2000) (h3 : meqB (joinL (hsL x vs (mbX x m vs))) (wantX x m) = true) :
    expF x m vs a = resC (mbX x m vs) (srchA (hsL x vs (mbX x m vs)) (wantX x m) ((hsL x vs (mbX x m vs)).length + 1) 0 a.toNat).1 := by unfold expF; rw [if_pos h, if_pos h2, if_pos h3]
theorem exp_len (x : Mx) (m : Mask) (vs : List ByteArray) (a : Int) (h : vs.length ≤ 1048576) : (expF x m vs a).1.length ≤ 1048576 := by
  unfold expF
  split
  · split
    · split
      · have hi := fun l' => srchA_in (hs := hsL x vs (mbX x m vs)) (T := wantX x m) (b := a.toNat) (l' := l')
        generalize srchA (hsL x vs (mbX x m vs)) (wantX x m) ((hsL x vs (mbX x m vs)).length + 1) 0 a.toNat = r at hi
        obtain ⟨r, b⟩ := r
        cases r with
        | hit l =>
          have := (hi l rfl).1
          rw [hsL_len] at this
          have := mbX_len x m vs
          show (pickI (mbX x m vs) l).length ≤ _
          rw [pickI_len]; omega
        | no => exact Nat.zero_le _
        | over => exact Nat.zero_le _
      · exact Nat.zero_le _
    · exact Nat.zero_le _
  · exact Nat.zero_le _
attribute [irreducible] srch srchL srchA
theorem run_append_nilS {P : Program} (W : World) (t ty e : TypeId) (i : TypeInfo) (ht : P.underlying t = some (.slice e)) (hi : P.info? e = some i) (A : Option Addr) (n cap c : Nat) (hle : n ≤ cap) :
    (Builtin.append_ #[t, t] ty #[.slice A n cap, .slice none 0 c]).run P W = .ok (.slice A n cap) W := by
  cases A with
  | none => simp [Builtin.append_, run_underlying ht, sizeOf, typeInfo, hi, Builtin.lenOf, Builtin.firstCells, hle]
  | some a => simp [Builtin.append_, run_underlying ht, sizeOf, typeInfo, hi, Builtin.lenOf, Builtin.firstCells, hle, storeCells]

theorem step_addAny {α : Type} {w0 : World} {xs : List α} {T : TypeId} {base : Nat} {v : Value} {P : Program} {ops : Array Oper} {o : Oper} {a : Act} {K : Act → World → Prop} {Q : Exit → Act → World → Prop} {E : Prop} (e : Enc α) {W : World} (hgd : o.guard = none) (s y : Operand) (t : TypeId) (z : Value) (bytes : Nat)
    (ho : o.op = .call { callee := .builtin .append, args := #[s, y], argTypes := #[t, t] })
    (ht : P.underlying t = some (.slice T)) (hinfo : (P.info? T).map (fun i => (i.zero, i.size, i.bytes)) = some (some z, e.sz, bytes)) (hz : z.cells.size = e.sz)
    (ys : List α) (B : Option Addr) (n c : Nat) (hn : n = ys.length) (hs : a.eval s = v) (hy : a.eval y = .slice B n c) (HR : Rd e W B ys) (HO : Ow e T W base v xs) (hbase : base ≤ W.heap.size) (hw0 : w0.heap.size ≤ base) (HE : Ext w0 W)
    (hl : (xs.length + ys.length) * bytes ≤ 140737488355328) (hl2 : xs.length + ys.length ≤ 9223372036854775807)
    (h : ∀ v1 w1, Ow e T w1 base v1 (xs ++ ys) → Ext w0 w1 → Ext W w1 ∨ W.grownBy w1 v.ownBlock → K (a.put o.dst v1) w1) :
    if Region.wanted o (yielded ops a.tmps) = true then Oper.wp P o a W K Q else E := by
  subst hn
  cases B with
  | some B => exact step_addAll e hgd s y t z bytes ho ht hinfo hz ys B c hs hy HR HO hbase hw0 HE hl hl2 (fun v1 w1 h1 h2 h3 _ => h v1 w1 h1 h2 (.inr h3))
  | none =>
    have hys : ys = [] := by
      cases ys with
      | nil => rfl
      | cons y ys => obtain ⟨b, off, hb, _⟩ := HR 0 (Nat.zero_lt_succ _); cases hb
    subst hys
    obtain ⟨i, hi, hz0, hz1, hz2⟩ := info_parts hinfo
    obtain ⟨A, cap, rfl, hle, _⟩ := HO.slice
    have hw : Region.wanted o (yielded ops a.tmps) = true := by simp [Region.wanted, hgd]
    rw [if_pos hw]
    have hr := run_append_nilS (P := P) W t o.type T i ht hi A xs.length cap c hle
    unfold Oper.wp execOp
    simp only [ho, resolve, invoke, builtin, Sem.run_bind, Sem.run_pure, Result.andThen_ok, List.map_toArray, List.map_cons, List.map_nil, hs, hy, List.length_nil, hr]
    exact h _ _ (by rw [List.append_nil]; exact HO) HE (.inl (Ext.refl _))
theorem Conv.convV {G C : Value → Value → Value → World → Prop} {T : Prop} (ht : ∀ a b c W, C a b c W → G a b c W) (h : (∀ a b c W, C a b c W → G a b c W) → T) : T := h ht
end Go.Proofs.YtegopgpnjgikeaaGreatDoor
set_option linter.unusedVariables false
set_option linter.unusedSimpArgs false
set_option maxRecDepth 100000
namespace Go.Proofs.YtegopgpnjgikeaaGreatDoor
open Go.RowKit
end Go.Proofs.YtegopgpnjgikeaaGreatDoor
set_option linter.unusedVariables false
set_option linter.unusedSimpArgs false
set_option maxRecDepth 100000
namespace Go.Proofs.YtegopgpnjgikeaaGreatDoor
open Go.RowKit
end Go.Proofs.YtegopgpnjgikeaaGreatDoor
set_option linter.unusedVariables false
set_option linter.unusedSimpArgs false
set_option maxRecDepth 100000
namespace Go.Proofs.YtegopgpnjgikeaaGreatDoor
open Go.RowKit
end Go.Proofs.YtegopgpnjgikeaaGreatDoor
set_option linter.unusedVariables false
set_option linter.unusedSimpArgs false
set_option maxRecDepth 100000
namespace Go.Proofs.YtegopgpnjgikeaaGreatDoor
open Go.RowKit
end Go.Proofs.YtegopgpnjgikeaaGreatDoor
