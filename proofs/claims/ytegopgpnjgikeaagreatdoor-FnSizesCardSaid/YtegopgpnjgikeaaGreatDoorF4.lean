/-
  Contracts of the functions that tell the greatest value of a field and the least distance of its codes, and the walk of the law FnExactLeastDistance.
-/
import Derived.Test.YtegopgpnjgikeaaGreatDoorF3
set_option linter.unusedVariables false
set_option linter.unusedSimpArgs false
set_option maxRecDepth 100000
namespace Go.Proofs.YtegopgpnjgikeaaGreatDoor
open Go.RowKit
