/-
  The holes of a row of holes; passes over a deck, as data (plain Lean).
-/
import Derived.Test.YtdlpifgkponnmaaDoorF5
import Derived.Test.YtdlpifgkponnmaaDoorC8
import Derived.Test.YtdlpifgkponnmaaDoorG1
import Derived.Test.YtdlpifgkponnmaaDoorG8
set_option linter.unusedVariables false
set_option linter.unusedSimpArgs false
namespace Go.Proofs.YtdlpifgkponnmaaDoor
open Go.RowKit
theorem rangeM_has (st : Nat) : ∀ (n : Nat), st + n ≤ 128 → ∀ i : Nat, mhas (rangeM st n) i = (decide (st ≤ i) && decide (i < st + n))
  | 0, _, i => by
    have h : rangeM st (0 : Nat) = 0 := rfl
    rw [h]
    by_cases e : st ≤ i
    · have e2 : ¬ i < st + 0 := by omega
      simp [mhas, e2]
    · simp [mhas, e]
  | n + 1, h, i => by
    have hs : rangeM st (n + 1 : Nat) = mjoin (rangeM st n) (mbit ((st + n : Nat) : Int)) := rfl
    rw [hs, mhas_join_bit _ _ (by omega), rangeM_has st n (by omega) i]
    by_cases e : i = st + n
    · subst e; simp
    · simp only [e, decide_false, Bool.or_false]
      have e2 : (i < st + (n + 1)) = (i < st + n) := propext ⟨fun h => by omega, fun h => by omega⟩
      simp only [e2]
theorem holesTo_range (st n : Nat) (h : st + n ≤ 128) : ∀ k, holesTo (rangeM st n) k = (List.range (min n (k - st))).map (fun j => ((st + j : Nat) : Int))
  | 0 => by simp [holesTo]
  | k + 1 => by
    by_cases e : st ≤ k
    · by_cases e2 : k < st + n
      · rw [holesTo_hit _ _ (by rw [rangeM_has st n h]; simp [e, e2]), holesTo_range st n h k, show min n (k + 1 - st) = min n (k - st) + 1 by omega, List.range_succ, List.map_append, List.map_cons, List.map_nil,
          show st + min n (k - st) = k by omega]
      · rw [holesTo_miss _ _ (by rw [rangeM_has st n h]; simp [e2]), holesTo_range st n h k, show min n (k + 1 - st) = min n (k - st) by omega]
    · rw [holesTo_miss _ _ (by rw [rangeM_has st n h]; simp [e]), holesTo_range st n h k, show min n (k + 1 - st) = min n (k - st) by omega]
theorem holes_range (st n : Nat) (h : st + n ≤ 128) : holesTo (rangeM st n) 128 = (List.range n).map (fun j => ((st + j : Nat) : Int)) := by
  rw [holesTo_range st n h, show min n (128 - st) = n by omega]
/-- A pass: the cards that stay, then those that drop. -/
def passF (ds : List Crd) (h : Int) : List Crd := ds.filter (fun c => !mhas c.m h) ++ ds.filter (fun c => mhas c.m h)
def passesF (ds : List Crd) (hs : List Int) : List Crd := hs.foldl passF ds
theorem passesF_take (ds : List Crd) (hs : List Int) (k : Nat) (hk : k < hs.length) : passesF ds (hs.take (k + 1)) = passF (passesF ds (hs.take k)) hs[k] := by
  unfold passesF
  rw [List.take_succ_eq_append_getElem hk, List.foldl_append]
  rfl
theorem passF_perm (ds : List Crd) (h : Int) : (passF ds h).Perm ds := by
  unfold passF
  exact List.perm_append_comm.trans (List.filter_append_perm (fun c : Crd => mhas c.m h) ds)
theorem passF_len (ds : List Crd) (h : Int) : (passF ds h).length = ds.length := (passF_perm ds h).length_eq
end Go.Proofs.YtdlpifgkponnmaaDoor
