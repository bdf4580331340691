/-
  Contracts of the functions that list the tops of a catalogue, and the synonyms of an entry: the rest.
-/
import Derived.Test.YtmphnocgihegbaaDoorE11
set_option linter.unusedVariables false
set_option linter.unusedSimpArgs false
set_option maxRecDepth 100000
namespace Go.Proofs.YtmphnocgihegbaaDoor
open Go.RowKit
theorem Calls.ext_all {P : Program} {f : FuncId} {args : Array Value} {w : World} {x : ExtOf w} {v : Value}
    (h : ∀ W, Ext w W → Calls P f args W fun e w' => e = .returned v ∧ Ext W w') : Calls P f args x.val fun e w'' => e = .returned v ∧ ∃ y : ExtOf w, w'' = y.val := Calls.ext_of (h _ x.2)
def synB (xs : List Ent) (p : Int) (k : Nat) : Bool := xs[k]!.see == p
def synF (xs : List Ent) (i : Int) : List Int × Int := if atsF xs [i] = 0 then (pickI (synB xs (firstF xs i)) xs.length, 0) else ([], atsF xs [i])
