/-
  Contracts of the laws' functions that mark masks, and look whether the marks are held.
-/
import Derived.Test.YtegopgpnjgikeaaGreatDoorMI
import Derived.Test.YtegopgpnjgikeaaGreatDoorC5
set_option linter.unusedVariables false
set_option linter.unusedSimpArgs false
set_option maxRecDepth 100000
namespace Go.Proofs.YtegopgpnjgikeaaGreatDoor
open Go.RowKit
def markM (k : Nat) : Mask := mof (k : Int) ((k : Int) + 1)
theorem markM_lo {k : Nat} (h : k ≤ 100000000) : lo (markM k) = k := lo_mof (by omega) (by omega) (by omega) (by omega)
theorem markM_hi {k : Nat} (h : k ≤ 100000000) : hi (markM k) = (k : Int) + 1 := hi_mof (by omega) (by omega) (by omega) (by omega)
/-- The marked masks from k on, n of them. -/
def upMk (k : Nat) : Nat → List Mask
  | 0 => []
  | n + 1 => markM k :: upMk (k + 2) n
theorem upMk_len : ∀ (n k : Nat), (upMk k n).length = n
  | 0, _ => rfl
  | n + 1, k => by rw [upMk, List.length_cons, upMk_len n]
theorem upMk_get : ∀ (n k i : Nat) (h : i < (upMk k n).length), (upMk k n)[i] = markM (k + 2 * i)
  | 0, _, _, h => by simp [upMk] at h
  | n + 1, k, 0, _ => rfl
  | n + 1, k, i + 1, h => by
    show (upMk (k + 2) n)[i]'_ = _
    rw [upMk_get n (k + 2) i, show k + 2 + 2 * i = k + 2 * (i + 1) by omega]
theorem upMk_snoc : ∀ (n k : Nat), upMk k (n + 1) = upMk k n ++ [markM (k + 2 * n)]
  | 0, _ => rfl
  | n + 1, k => by
    rw [upMk, upMk_snoc n (k + 2), show k + 2 + 2 * n = k + 2 * (n + 1) by omega]
    rfl
def markMTo (xs : List Mask) (k i : Nat) : List Mask := (upMk k i) ++ xs.drop i
theorem markMTo_len (xs : List Mask) (k i : Nat) (h : i ≤ xs.length) : (markMTo xs k i).length = xs.length := by
  unfold markMTo
  rw [List.length_append, upMk_len, List.length_drop]
  omega
theorem markMTo_set (xs : List Mask) (k i : Nat) (h : i < xs.length) : (markMTo xs k i).set i (markM (k + 2 * i)) = markMTo xs k (i + 1) := by
  unfold markMTo
  rw [List.set_append_right _ _ (by rw [upMk_len]; omega), upMk_len, Nat.sub_self, List.drop_eq_getElem_cons h, List.set_cons_zero, upMk_snoc, List.append_assoc]
  rfl
theorem markMTo_all (xs : List Mask) (k : Nat) : markMTo xs k xs.length = upMk k xs.length := by
  unfold markMTo
  rw [List.drop_length, List.append_nil]
