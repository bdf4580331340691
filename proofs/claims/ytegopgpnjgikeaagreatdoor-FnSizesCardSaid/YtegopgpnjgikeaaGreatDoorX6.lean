/-
  What the walks of the laws on mixes share: copies of a mix, measures.
-/
import Derived.Test.YtegopgpnjgikeaaGreatDoorXA
import Derived.Test.YtegopgpnjgikeaaGreatDoorLS
import Derived.Test.YtegopgpnjgikeaaGreatDoorL6
import Derived.Test.YtegopgpnjgikeaaGreatDoorMA
set_option linter.unusedVariables false
set_option linter.unusedSimpArgs false
set_option maxRecDepth 100000
namespace Go.Proofs.YtegopgpnjgikeaaGreatDoor
open Go.RowKit
theorem szF_ok {n : Nat} {l : Int} (h : ¬ szF n l < 0) (hl : 0 ≤ l) : (n : Int) ≤ l ∧ 0 ≤ szF n l ∧ szF n l ≤ l := by
  unfold szF at *
  split at h
  · rename_i h1; rw [if_pos h1]; omega
  · omega
