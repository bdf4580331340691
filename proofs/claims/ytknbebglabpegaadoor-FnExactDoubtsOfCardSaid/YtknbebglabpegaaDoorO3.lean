/-
  Opening the arguments of the laws that are cards.
-/
import Derived.Test.YtknbebglabpegaaDoorO2
import Derived.Test.YtknbebglabpegaaDoorK0
set_option linter.unusedVariables false
set_option maxRecDepth 100000
namespace Go.Proofs.YtknbebglabpegaaDoor
open Go.ChangeShapes Go.WideShapes Go.ChangeAt Go.RowKit
theorem cells_Card {H : Type} {enc : TypeId × Value → H} {w : World} {base : Nat} {spare : Nat → Bool} {held : Bool} {fuel : Nat} {cs : List Value} {x : DataW H × List MemPlace}
    (h : DataW.trod enc Tryd.prog w base spare held fuel 61 cs = some x) : ∃ y : Crd, cs = encCrd.enc y ∧ y.nm.size ≤ 9223372036854775807 := by
  obtain ⟨xs, m, rfl, rfl, hl, hx, hi'⟩ := DataW.trod_struct Tryd.underlying61 h
  have hc : Tryd.prog.cellsOf 61 = 3 := by kernel_rfl
  have hc1 : Tryd.prog.cellsOf 9 = 1 := by kernel_rfl
  have hc2 : Tryd.prog.cellsOf 27 = 2 := by kernel_rfl
  rw [hc] at hl
  match cs, hl, xs, hx with
  | [c0, c1, c2], _, [x0, x1], _ =>
    have h0 := hi' 0 _ rfl
    have h1 := hi' 1 _ rfl
    simp [hc1, hc2] at h0 h1
    obtain ⟨a, ha, wa⟩ := trod_str Tryd.underlying9 h0
    obtain ⟨b, hb⟩ := cells_arr2 h1
    simp at ha hb
    obtain ⟨rfl, rfl⟩ := hb
    subst ha
    exact ⟨⟨a, b⟩, rfl, wa⟩
theorem open_Card {H : Type} {enc : TypeId × Value → H} {w : World} {base : Nat} {spare : Nat → Bool} {held : Bool} {r : Reach} {b0 : Nat} {v : Value} {d : DataW H} {p : List MemPlace}
    (hv : Value.okWide Tryd.prog w r b0 61 v) (h : DataW.Trod enc Tryd.prog w base spare held 61 v d p) : ∃ y : Crd, v = .agg #[.string y.nm, .int .u64 (lo y.m), .int .u64 (hi y.m)] ∧ y.nm.size ≤ 9223372036854775807 := by
  obtain ⟨cs, rfl, hsz⟩ := okWide_struct Tryd.underlying61 hv
  obtain ⟨fuel, hf⟩ := h
  obtain ⟨y, hy, hk⟩ := cells_Card (cs := cs.toList) (by simpa [Value.cells] using hf)
  exact ⟨y, by obtain ⟨l⟩ := cs; simp at hy; rw [hy]; rfl, hk⟩
theorem open_u32 {w : World} {r : Reach} {b0 : Nat} {v : Value} {H : Type} {enc : TypeId × Value → H} {base : Nat} {spare : Nat → Bool} {held : Bool} {d : DataW H} {p : List MemPlace}
    (hv : Value.okWide Tryd.prog w r b0 182 v) (h : DataW.Trod enc Tryd.prog w base spare held 182 v d p) : ∃ n : Int, v = .int .u32 n ∧ 0 ≤ n ∧ n < 4294967296 := by
  obtain ⟨n, rfl⟩ := okWide_int Tryd.underlying182 hv
  obtain ⟨fuel, hf⟩ := h
  obtain ⟨a, ha, _, wa⟩ := DataW.trod_int Tryd.underlying182 hf
  simp [Value.cells] at ha
  subst ha
  simp [Lit.wf, IntKind.min, IntKind.max, IntKind.signed, IntKind.bits] at wa
  exact ⟨n, rfl, by omega, by omega⟩
