/-
  Contract of the program's function that makes the mask of a value of a field.
-/
import Derived.Test.YtdlpifgkponnmaaDoorF6
import Derived.Test.YtdlpifgkponnmaaDoorF6D
import Derived.Test.YtdlpifgkponnmaaDoorC3
set_option linter.unusedVariables false
set_option linter.unusedSimpArgs false
set_option maxRecDepth 100000
namespace Go.Proofs.YtdlpifgkponnmaaDoor
open Go.RowKit
theorem notch_odd (m : Mask) (st sz v : Int) (k : Nat) : (v / 2 ^ (sz - 1 - k).toNat % 2 == 1) = decide (v / 2 ^ (sz - 1 - k).toNat % 2 = 1) := by
  rw [Bool.eq_iff_iff]; simp
theorem digStep {g : Nat → Mask} {q T : Mask} {k : Nat} (h : mjoin q (orTo g (k + 1)) = T) : mjoin (mjoin q (g k)) (orTo g k) = T := by
  rw [← h, orTo_succ, mjoin_assoc, mjoin_comm (g k)]
theorem digAt_next {sz v x : Int} {j : Nat} (h : x = v / 10 ^ j) (hj : (j : Int) < sz) : digAt sz v (sz.toNat - 1 - j) = x % 10 := by
  unfold digAt
  rw [h, show (sz - 1 - ((sz.toNat - 1 - j : Nat) : Int)).toNat = j by omega]
theorem mwith_mapTake (q : Mask) (L : List Int) (a : Int) (k : Nat) (hk : k < L.length) : mwith q ((L.map (a + ·)).take (k + 1)) = mjoin (mwith q ((L.map (a + ·)).take k)) (mbit (a + L[k])) := by
  rw [mwith_take _ _ k (by rw [List.length_map]; exact hk), List.getElem_map]
theorem map_takeAll (L : List Int) (a : Int) : (L.map (a + ·)).take L.length = L.map (a + ·) := List.take_of_length_le (by rw [List.length_map]; exact Nat.le_refl _)
theorem dig_div {v x : Int} {j : Nat} (h : x = v / 10 ^ j) : x / 10 = v / 10 ^ (j + 1) := by
  rw [h, Int.pow_succ, Int.ediv_ediv_of_nonneg (Int.le_of_lt (Int.pow_pos (by omega)))]
