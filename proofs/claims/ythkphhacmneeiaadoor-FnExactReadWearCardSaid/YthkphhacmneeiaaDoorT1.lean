/-
  Contracts of strings.Trim and of what it calls, where the cut set is of several plain bytes.
-/
import Derived.Test.YthkphhacmneeiaaDoorRows
import Derived.Test.YthkphhacmneeiaaDoorT0
set_option linter.unusedVariables false
set_option linter.unusedSimpArgs false
namespace Go.Proofs.YthkphhacmneeiaaDoor
open Go.RowKit
