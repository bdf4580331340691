/-
  Contracts of the functions that ask whether a field is valid.
-/
import Derived.Test.YtegopgpnjgikeaaGreatDoorF1
set_option linter.unusedVariables false
set_option linter.unusedSimpArgs false
set_option maxRecDepth 100000
namespace Go.Proofs.YtegopgpnjgikeaaGreatDoor
open Go.RowKit
theorem Calls.ext_all {P : Program} {f : FuncId} {args : Array Value} {w : World} {x : ExtOf w} {v : Value}
    (h : ∀ W, Ext w W → Calls P f args W fun e w' => e = .returned v ∧ Ext W w') : Calls P f args x.val fun e w'' => e = .returned v ∧ ∃ y : ExtOf w, w'' = y.val := Calls.ext_of (h _ x.2)
