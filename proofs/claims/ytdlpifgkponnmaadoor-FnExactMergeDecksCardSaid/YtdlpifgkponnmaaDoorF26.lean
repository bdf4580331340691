/-
  Contracts of DoubtsOf, program's and reference's.
-/
import Derived.Test.YtdlpifgkponnmaaDoorF25
set_option linter.unusedVariables false
set_option linter.unusedSimpArgs false
set_option maxRecDepth 100000
namespace Go.Proofs.YtdlpifgkponnmaaDoor
open Go.RowKit
/-- What is known of a card in memory. -/
def CrdIn (c : Crd) : Prop := c.nm.size ≤ 9223372036854775807
