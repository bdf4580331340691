/-
  The holes of a mask, as numbers in order. (Under way: does not build yet where NOTES says so.)
-/
import Derived.Test.YtegopgpnjgikeaaGreatDoorC5
set_option linter.unusedVariables false
set_option linter.unusedSimpArgs false
namespace Go.Proofs.YtegopgpnjgikeaaGreatDoor
open Go.RowKit
def holesTo (m : Mask) : Nat → List Int
  | 0 => []
  | k + 1 => if mhas m k = true then holesTo m k ++ [(k : Int)] else holesTo m k
theorem holesTo_hit (m : Mask) (k : Nat) (h : mhas m k = true) : holesTo m (k + 1) = holesTo m k ++ [(k : Int)] := by rw [holesTo, if_pos h]
theorem holesTo_miss (m : Mask) (k : Nat) (h : mhas m k = false) : holesTo m (k + 1) = holesTo m k := by rw [holesTo, if_neg (by simp [h])]
theorem holesTo_len (m : Mask) : ∀ k, (holesTo m k).length ≤ k
  | 0 => Nat.le_refl _
  | k + 1 => by
    rw [holesTo]
    have := holesTo_len m k
    split
    · rw [List.length_append, List.length_singleton]; omega
    · omega
attribute [irreducible] holesTo
theorem info_i64 : (Tryz.prog.info? 2).map (fun i => (i.zero, i.size, i.bytes)) = some (some (.int .i64 0), encI64.sz, 8) := by kernel_rfl
