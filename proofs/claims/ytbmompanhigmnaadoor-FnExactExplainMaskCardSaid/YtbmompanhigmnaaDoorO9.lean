/-
  Opening arguments that are mixes, or slices of texts.
-/
import Derived.Test.YtbmompanhigmnaaDoorO2
import Derived.Test.YtbmompanhigmnaaDoorXA
set_option linter.unusedVariables false
set_option maxRecDepth 100000
namespace Go.Proofs.YtbmompanhigmnaaDoor
open Go.ChangeShapes Go.WideShapes Go.ChangeAt Go.RowKit
theorem cells_Mix {H : Type} {enc : TypeId × Value → H} {w : World} {base : Nat} {spare : Nat → Bool} {held : Bool} {fuel : Nat} {cs : List Value} {x : DataW H × List MemPlace}
    (h : DataW.trod enc Tryd.prog w base spare held fuel 24 cs = some x) : ∃ y : Mx, cs = [.int .i16 y.st, .int .i16 y.sz, .int .i16 y.per] ∧ MxIn y := by
  obtain ⟨xs, m, rfl, rfl, hl, hx, hi'⟩ := DataW.trod_struct Tryd.underlying24 h
  have hc : Tryd.prog.cellsOf 24 = 3 := by kernel_rfl
  have hc3 : Tryd.prog.cellsOf 22 = 1 := by kernel_rfl
  rw [hc] at hl
  match cs, hl, xs, hx with
  | [e0, e1, e2], _, [x0, x1, x2], _ =>
    have h0 := hi' 0 _ rfl
    have h1 := hi' 1 _ rfl
    have h2 := hi' 2 _ rfl
    simp [hc3] at h0 h1 h2
    obtain ⟨b, hb, _, wb⟩ := DataW.trod_int Tryd.underlying22 h0
    obtain ⟨c, hc', _, wc⟩ := DataW.trod_int Tryd.underlying22 h1
    obtain ⟨d, hd', _, wd⟩ := DataW.trod_int Tryd.underlying22 h2
    simp at hb hc' hd'
    subst hb hc' hd'
    simp [Lit.wf, IntKind.min, IntKind.max, IntKind.signed, IntKind.bits] at wb wc wd
    exact ⟨⟨b, c, d⟩, rfl, ⟨by dsimp only; omega, by dsimp only; omega⟩, ⟨by dsimp only; omega, by dsimp only; omega⟩, ⟨by dsimp only; omega, by dsimp only; omega⟩⟩
theorem open_Mix {H : Type} {enc : TypeId × Value → H} {w : World} {base : Nat} {spare : Nat → Bool} {held : Bool} {r : Reach} {b0 : Nat} {v : Value} {d : DataW H} {p : List MemPlace}
    (hv : Value.okWide Tryd.prog w r b0 24 v) (h : DataW.Trod enc Tryd.prog w base spare held 24 v d p) : ∃ y : Mx, v = .agg #[.int .i16 y.st, .int .i16 y.sz, .int .i16 y.per] ∧ MxIn y := by
  obtain ⟨cs, rfl, hsz⟩ := okWide_struct Tryd.underlying24 hv
  obtain ⟨fuel, hf⟩ := h
  obtain ⟨y, hy, hk⟩ := cells_Mix (cs := cs.toList) (by simpa [Value.cells] using hf)
  exact ⟨y, by obtain ⟨l⟩ := cs; simp at hy; rw [hy], hk⟩
theorem open_StringS {H : Type} {enc : TypeId × Value → H} {w : World} {base : Nat} {spare : Nat → Bool} {held : Bool} {r : Reach} {b0 : Nat} {v : Value} {d : DataW H} {p : List MemPlace}
    (hv : Value.okWide Tryd.prog w r b0 38 v) (h : DataW.Trod enc Tryd.prog w base spare held 38 v d p) : ∃ (A : Option Addr) (xs : List ByteArray) (cap : Nat), v = .slice A xs.length cap ∧ xs.length ≤ cap ∧ xs.length ≤ 9223372036854775807 ∧ Rd encStr w A xs ∧ ∀ x ∈ xs, StrIn x :=
  open_sliceOk encStr StrIn Tryd.underlying38 (by kernel_rfl) (fun n cs x hx => by obtain ⟨s, h1, h2⟩ := trod_str Tryd.underlying9 hx; exact ⟨s, h1, h2⟩) hv h
end Go.Proofs.YtbmompanhigmnaaDoor
