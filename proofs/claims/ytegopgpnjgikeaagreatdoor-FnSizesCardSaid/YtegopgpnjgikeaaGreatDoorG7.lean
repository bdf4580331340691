/-
  Words that have to be in a mask, as data: the holes of all others, by a list without one place or by a pass that leaves it out (plain Lean).
-/
import Derived.Test.YtegopgpnjgikeaaGreatDoorG6
set_option linter.unusedVariables false
namespace Go.Proofs.YtegopgpnjgikeaaGreatDoor
open Go.RowKit
theorem getD_at (hs : List Mask) (k : Nat) (h : k < hs.length) : hs.getD k 0 = hs[k] := by rw [List.getD, List.getElem?_eq_getElem h]; rfl
def joinL (hs : List Mask) : Mask := hs.foldl mjoin 0
theorem joinL_snoc (hs : List Mask) (h : Mask) : joinL (hs ++ [h]) = mjoin (joinL hs) h := by unfold joinL; rw [List.foldl_append]; rfl
/-- The holes of the first k, but not of place i. -/
def restTo (hs : List Mask) (i : Nat) : Nat → Mask
  | 0 => 0
  | k + 1 => if k = i then restTo hs i k else mjoin (restTo hs i k) (hs.getD k 0)
theorem restTo_lo (hs : List Mask) (i : Nat) : ∀ k, k ≤ i → k ≤ hs.length → restTo hs i k = joinL (hs.take k)
  | 0, _, _ => by rw [List.take_zero]; rfl
  | k + 1, h, hl => by
    rw [restTo, if_neg (by omega), restTo_lo hs i k (by omega) (by omega), List.take_succ_eq_append_getElem (show k < hs.length by omega), joinL_snoc, getD_at hs k (show k < hs.length by omega)]
theorem restTo_hi (hs : List Mask) (i : Nat) : ∀ k, i < k → k ≤ hs.length → restTo hs i k = joinL ((hs.take k).eraseIdx i)
  | 0, h, _ => by omega
  | k + 1, h, hl => by
    have hk : k < hs.length := by omega
    have ht : (hs.take k).length = k := by rw [List.length_take]; omega
    rw [restTo, List.take_succ_eq_append_getElem hk]
    by_cases e : k = i
    · subst e
      rw [if_pos rfl, restTo_lo hs k k (Nat.le_refl _) (by omega), List.eraseIdx_append_of_length_le (by omega), ht, Nat.sub_self]
      simp
    · rw [if_neg e, restTo_hi hs i k (by omega) (by omega), List.eraseIdx_append_of_lt_length (by omega), joinL_snoc, getD_at hs k hk]
theorem restTo_all (hs : List Mask) (i : Nat) (h : i < hs.length) : restTo hs i hs.length = joinL (hs.eraseIdx i) := by
  have := restTo_hi hs i hs.length h (Nat.le_refl _)
  rwa [List.take_length] at this
end Go.Proofs.YtegopgpnjgikeaaGreatDoor
