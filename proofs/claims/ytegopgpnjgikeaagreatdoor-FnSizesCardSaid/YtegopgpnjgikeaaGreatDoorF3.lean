/-
  Contracts of the reference's function that asks whether a field is valid.
-/
import Derived.Test.YtegopgpnjgikeaaGreatDoorF2
set_option linter.unusedVariables false
set_option linter.unusedSimpArgs false
set_option maxRecDepth 100000
namespace Go.Proofs.YtegopgpnjgikeaaGreatDoor
open Go.RowKit
