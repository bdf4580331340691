/-
  Contracts of the functions on slices of masks.
-/
import Derived.Test.YtmphnocgihegbaaDoorC2
import Derived.Test.YtmphnocgihegbaaDoorL3
set_option linter.unusedVariables false
set_option linter.unusedSimpArgs false
namespace Go.Proofs.YtmphnocgihegbaaDoor
open Go.RowKit
