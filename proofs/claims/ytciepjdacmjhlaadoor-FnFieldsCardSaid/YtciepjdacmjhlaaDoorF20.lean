/-
  Contracts of the laws' functions on slices of fields and of numbers.
-/
import Derived.Test.YtciepjdacmjhlaaDoorF18
import Derived.Test.YtciepjdacmjhlaaDoorC8
import Derived.Test.YtciepjdacmjhlaaDoorMI
set_option linter.unusedVariables false
set_option linter.unusedSimpArgs false
set_option maxRecDepth 100000
namespace Go.Proofs.YtciepjdacmjhlaaDoor
open Go.RowKit
def fldEqB (x y : Fld) : Bool := (x.nm.toList == y.nm.toList) && ((x.kd == y.kd) && ((x.st == y.st) && (x.sz == y.sz)))
theorem fldEqB_refl (x : Fld) : fldEqB x x = true := by simp [fldEqB]
