/-
  Contract of the laws' function that measures a slice of masks.
-/
import Derived.Test.YtegopgpnjgikeaaGreatDoorC5
set_option linter.unusedVariables false
set_option linter.unusedSimpArgs false
namespace Go.Proofs.YtegopgpnjgikeaaGreatDoor
open Go.RowKit
