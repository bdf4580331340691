/-
  Opening arguments that are slices of fields, or of numbers.
-/
import Derived.Test.YtknbebglabpegaaDoorO6
import Derived.Test.YtknbebglabpegaaDoorO2
import Derived.Test.YtknbebglabpegaaDoorF18
set_option linter.unusedVariables false
set_option maxRecDepth 100000
namespace Go.Proofs.YtknbebglabpegaaDoor
open Go.ChangeShapes Go.WideShapes Go.ChangeAt Go.RowKit
theorem open_FieldS {H : Type} {enc : TypeId × Value → H} {w : World} {base : Nat} {spare : Nat → Bool} {held : Bool} {r : Reach} {b0 : Nat} {v : Value} {d : DataW H} {p : List MemPlace}
    (hv : Value.okWide Tryd.prog w r b0 59 v) (h : DataW.Trod enc Tryd.prog w base spare held 59 v d p) : ∃ (A : Option Addr) (xs : List Fld) (cap : Nat), v = .slice A xs.length cap ∧ xs.length ≤ cap ∧ xs.length ≤ 9223372036854775807 ∧ Rd encFld w A xs ∧ ∀ x ∈ xs, FldIn x :=
  open_sliceOk encFld FldIn Tryd.underlying59 (by kernel_rfl) (fun n cs x hx => by obtain ⟨nm, kd, st, sz, h1, h2, h3⟩ := cells_Field hx; exact ⟨⟨nm, kd, st, sz⟩, h1, h2, h3⟩) hv h
theorem open_int64S {H : Type} {enc : TypeId × Value → H} {w : World} {base : Nat} {spare : Nat → Bool} {held : Bool} {r : Reach} {b0 : Nat} {v : Value} {d : DataW H} {p : List MemPlace}
    (hv : Value.okWide Tryd.prog w r b0 44 v) (h : DataW.Trod enc Tryd.prog w base spare held 44 v d p) : ∃ (A : Option Addr) (xs : List Int) (cap : Nat), v = .slice A xs.length cap ∧ xs.length ≤ cap ∧ xs.length ≤ 9223372036854775807 ∧ Rd encI64 w A xs :=
  open_sliceE encI64 Tryd.underlying44 (by kernel_rfl) (fun n cs x hx => by obtain ⟨m, hm, _⟩ := trod_i64 Tryd.underlying2 hx; exact ⟨m, hm⟩) hv h
end Go.Proofs.YtknbebglabpegaaDoor
