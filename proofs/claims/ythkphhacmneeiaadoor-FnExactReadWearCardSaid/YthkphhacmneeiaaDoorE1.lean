/-
  Contracts of the functions that copy, compare and measure entries.
-/
import Derived.Test.YthkphhacmneeiaaDoorRows
import Derived.Test.YthkphhacmneeiaaDoorE0
set_option linter.unusedVariables false
set_option linter.unusedSimpArgs false
namespace Go.Proofs.YthkphhacmneeiaaDoor
open Go.RowKit
