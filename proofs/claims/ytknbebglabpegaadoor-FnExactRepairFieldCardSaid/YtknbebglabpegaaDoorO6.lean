/-
  Opening an argument that is one field.
-/
import Derived.Test.YtknbebglabpegaaDoorO4
import Derived.Test.YtknbebglabpegaaDoorF0
set_option linter.unusedVariables false
set_option maxRecDepth 100000
namespace Go.Proofs.YtknbebglabpegaaDoor
open Go.ChangeShapes Go.WideShapes Go.ChangeAt Go.RowKit
theorem cells_Field {H : Type} {enc : TypeId × Value → H} {w : World} {base : Nat} {spare : Nat → Bool} {held : Bool} {fuel : Nat} {cs : List Value} {x : DataW H × List MemPlace}
    (h : DataW.trod enc Tryd.prog w base spare held fuel 25 cs = some x) : ∃ (nm : ByteArray) (kd st sz : Int), cs = [.string nm, .int .i8 kd, .int .i16 st, .int .i16 sz] ∧ Fld.ok ⟨nm, kd, st, sz⟩ ∧ nm.size ≤ 9223372036854775807 := by
  obtain ⟨xs, m, rfl, rfl, hl, hx, hi'⟩ := DataW.trod_struct Tryd.underlying25 h
  have hc : Tryd.prog.cellsOf 25 = 4 := by kernel_rfl
  have hc1 : Tryd.prog.cellsOf 9 = 1 := by kernel_rfl
  have hc2 : Tryd.prog.cellsOf 22 = 1 := by kernel_rfl
  have hc3 : Tryd.prog.cellsOf 23 = 1 := by kernel_rfl
  rw [hc] at hl
  match cs, hl, xs, hx with
  | [e0, e1, e2, e3], _, [x0, x1, x2, x3], _ =>
    have h0 := hi' 0 _ rfl
    have h1 := hi' 1 _ rfl
    have h2 := hi' 2 _ rfl
    have h3 := hi' 3 _ rfl
    simp [hc1, hc2, hc3] at h0 h1 h2 h3
    obtain ⟨a, ha, wa⟩ := trod_str Tryd.underlying9 h0
    obtain ⟨b, hb, _, wb⟩ := DataW.trod_int Tryd.underlying22 h1
    obtain ⟨c, hc', _, wc⟩ := DataW.trod_int Tryd.underlying23 h2
    obtain ⟨d, hd', _, wd⟩ := DataW.trod_int Tryd.underlying23 h3
    simp at ha hb hc' hd'
    subst ha hb hc' hd'
    simp [Lit.wf, IntKind.min, IntKind.max, IntKind.signed, IntKind.bits] at wb wc wd
    exact ⟨a, b, c, d, rfl, ⟨⟨by dsimp only; omega, by dsimp only; omega⟩, ⟨by dsimp only; omega, by dsimp only; omega⟩, ⟨by dsimp only; omega, by dsimp only; omega⟩⟩, wa⟩
theorem open_Field {H : Type} {enc : TypeId × Value → H} {w : World} {base : Nat} {spare : Nat → Bool} {held : Bool} {r : Reach} {b0 : Nat} {v : Value} {d : DataW H} {p : List MemPlace}
    (hv : Value.okWide Tryd.prog w r b0 25 v) (h : DataW.Trod enc Tryd.prog w base spare held 25 v d p) : ∃ (nm : ByteArray) (kd st sz : Int), v = .agg #[.string nm, .int .i8 kd, .int .i16 st, .int .i16 sz] ∧ Fld.ok ⟨nm, kd, st, sz⟩ ∧ nm.size ≤ 9223372036854775807 := by
  obtain ⟨cs, rfl, hsz⟩ := okWide_struct Tryd.underlying25 hv
  obtain ⟨fuel, hf⟩ := h
  obtain ⟨nm, kd, st, sz, hy, hk, hn⟩ := cells_Field (cs := cs.toList) (by simpa [Value.cells] using hf)
  exact ⟨nm, kd, st, sz, by obtain ⟨l⟩ := cs; simp at hy; rw [hy], hk, hn⟩
