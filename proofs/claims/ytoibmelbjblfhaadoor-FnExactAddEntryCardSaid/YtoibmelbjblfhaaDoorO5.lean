/-
  Opening an argument that is one entry.
-/
import Derived.Test.YtoibmelbjblfhaaDoorO4
set_option linter.unusedVariables false
set_option maxRecDepth 100000
namespace Go.Proofs.YtoibmelbjblfhaaDoor
open Go.ChangeShapes Go.WideShapes Go.ChangeAt Go.RowKit
theorem open_Ent {H : Type} {enc : TypeId × Value → H} {w : World} {base : Nat} {spare : Nat → Bool} {held : Bool} {r : Reach} {b0 : Nat} {v : Value} {d : DataW H} {p : List MemPlace}
    (hv : Value.okWide Tryd.prog w r b0 39 v) (h : DataW.Trod enc Tryd.prog w base spare held 39 v d p) : ∃ y : Ent, v = .agg #[.string y.nm, .int .i64 y.see, .int .i64 y.br] ∧ y.nm.size ≤ 9223372036854775807 := by
  obtain ⟨cs, rfl, hsz⟩ := okWide_struct Tryd.underlying39 hv
  obtain ⟨fuel, hf⟩ := h
  obtain ⟨y, hy, hk⟩ := cells_Entry (cs := cs.toList) (by simpa [Value.cells] using hf)
  exact ⟨y, by obtain ⟨l⟩ := cs; simp at hy; rw [hy]; rfl, hk.1⟩
