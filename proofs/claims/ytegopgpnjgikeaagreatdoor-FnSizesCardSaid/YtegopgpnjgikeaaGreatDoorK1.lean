/-
  Contracts of the functions on one card.
-/
import Derived.Test.YtegopgpnjgikeaaGreatDoorK0
set_option linter.unusedVariables false
set_option linter.unusedSimpArgs false
namespace Go.Proofs.YtegopgpnjgikeaaGreatDoor
open Go.RowKit
