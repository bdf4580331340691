/-
  Opening arguments that are slices of bytes.
-/
import Derived.Test.YtegopgpnjgikeaaGreatDoorO2
import Derived.Test.YtegopgpnjgikeaaGreatDoorS0
set_option linter.unusedVariables false
set_option maxRecDepth 100000
namespace Go.Proofs.YtegopgpnjgikeaaGreatDoor
open Go.ChangeShapes Go.WideShapes Go.ChangeAt Go.RowKit
theorem trod_u8 {H : Type} {enc : TypeId × Value → H} {P : Program} {w : World} {base : Nat} {spare : Nat → Bool} {held : Bool} {fuel : Nat} {cs : List Value} {x : DataW H × List MemPlace} {t : TypeId}
    (ht : P.underlying t = some (.int .u8)) (h : DataW.trod enc P w base spare held fuel t cs = some x) : ∃ n : UInt8, cs = [.int .u8 (n.toNat : Int)] := by
  obtain ⟨a, ha, _, wa⟩ := DataW.trod_int ht h
  simp [Lit.wf, IntKind.min, IntKind.max, IntKind.signed, IntKind.bits] at wa
  refine ⟨UInt8.ofNat a.toNat, ?_⟩
  rw [ha, UInt8.toNat_ofNat']
  congr 2
  omega
theorem open_U8S {H : Type} {enc : TypeId × Value → H} {w : World} {base : Nat} {spare : Nat → Bool} {held : Bool} {r : Reach} {b0 : Nat} {v : Value} {d : DataW H} {p : List MemPlace}
    (hv : Value.okWide Tryz.prog w r b0 22 v) (h : DataW.Trod enc Tryz.prog w base spare held 22 v d p) : ∃ (A : Option Addr) (xs : List UInt8) (cap : Nat), v = .slice A xs.length cap ∧ xs.length ≤ cap ∧ xs.length ≤ 9223372036854775807 ∧ Rd encU8 w A xs :=
  open_sliceE encU8 Tryz.underlying22 (by kernel_rfl) (fun n cs x hx => trod_u8 Tryz.underlying5 hx) hv h
end Go.Proofs.YtegopgpnjgikeaaGreatDoor
