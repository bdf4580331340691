/-
  Contracts of the functions that read the value of a field, program's and reference's.
-/
import Derived.Test.YtdlpifgkponnmaaDoorF7
import Derived.Test.YtdlpifgkponnmaaDoorF11
import Derived.Test.YtdlpifgkponnmaaDoorL1
set_option linter.unusedVariables false
set_option linter.unusedSimpArgs false
set_option maxRecDepth 100000
namespace Go.Proofs.YtdlpifgkponnmaaDoor
open Go.RowKit
theorem ExtOf.prop {w : World} (x : ExtOf w) : Ext w x.val := x.2
