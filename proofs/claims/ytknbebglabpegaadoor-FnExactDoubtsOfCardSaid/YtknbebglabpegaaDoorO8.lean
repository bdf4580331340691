/-
  Opening arguments that are slices of cards.
-/
import Derived.Test.YtknbebglabpegaaDoorO3
import Derived.Test.YtknbebglabpegaaDoorO7
import Derived.Test.YtknbebglabpegaaDoorF26
set_option linter.unusedVariables false
set_option maxRecDepth 100000
namespace Go.Proofs.YtknbebglabpegaaDoor
open Go.ChangeShapes Go.WideShapes Go.ChangeAt Go.RowKit
theorem open_CardS {H : Type} {enc : TypeId × Value → H} {w : World} {base : Nat} {spare : Nat → Bool} {held : Bool} {r : Reach} {b0 : Nat} {v : Value} {d : DataW H} {p : List MemPlace}
    (hv : Value.okWide Tryd.prog w r b0 78 v) (h : DataW.Trod enc Tryd.prog w base spare held 78 v d p) : ∃ (A : Option Addr) (xs : List Crd) (cap : Nat), v = .slice A xs.length cap ∧ xs.length ≤ cap ∧ xs.length ≤ 9223372036854775807 ∧ Rd encCrd w A xs ∧ ∀ x ∈ xs, CrdIn x :=
  open_sliceOk encCrd CrdIn Tryd.underlying78 (by kernel_rfl) (fun n cs x hx => by obtain ⟨y, hy, h2⟩ := cells_Card hx; exact ⟨y, hy, h2⟩) hv h
end Go.Proofs.YtknbebglabpegaaDoor
