/-
  Contracts of the functions that copy, compare and measure entries.
-/
import Derived.Test.YthkphhacmneeiaaGreatDoorRows
import Derived.Test.YthkphhacmneeiaaGreatDoorE0
set_option linter.unusedVariables false
set_option linter.unusedSimpArgs false
namespace Go.Proofs.YthkphhacmneeiaaGreatDoor
open Go.RowKit
