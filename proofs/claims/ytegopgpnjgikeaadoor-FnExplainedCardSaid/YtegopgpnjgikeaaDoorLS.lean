/-
  Contract of the laws' function that measures a slice of masks.
-/
import Derived.Test.YtegopgpnjgikeaaDoorC5
set_option linter.unusedVariables false
set_option linter.unusedSimpArgs false
namespace Go.Proofs.YtegopgpnjgikeaaDoor
open Go.RowKit
