/-
  Opening the arguments of the laws: what a value that reads as data of a flat type is.
-/
import Derived.Test.YtegopgpnjgikeaaGreatDoorRows
import Derived.Test.YtegopgpnjgikeaaGreatDoorL0
import Derived.ProofKit
import Derived.OpenShut
import Derived.SizedLaws
set_option linter.unusedVariables false
set_option maxRecDepth 100000
namespace Go.Proofs.YtegopgpnjgikeaaGreatDoor
open Go.ChangeShapes Go.WideShapes Go.ChangeAt Go.RowKit

theorem own : ownKnob Tryz.prog.godebug = none := by kernel_rfl
theorem laidOut : laidOutB Tryz.prog = true := by kernel_rfl
section
variable {H : Type} {enc : TypeId × Value → H} {w : World} {base : Nat} {spare : Nat → Bool} {held : Bool} {fuel : Nat} {cs : List Value} {x : DataW H × List MemPlace}
theorem wf_u64 {n : Int} (h : (Lit.int .u64 n).wf = true) : 0 ≤ n ∧ n < 18446744073709551616 := by
  simp [Lit.wf, IntKind.min, IntKind.max, IntKind.signed, IntKind.bits] at h; omega
theorem cells_arr2 (h : DataW.trod enc Tryz.prog w base spare held fuel 46 cs = some x) : ∃ m : Mask, cs = [.int .u64 (lo m), .int .u64 (hi m)] := by
  obtain ⟨xs, m, rfl, rfl, hl, hx, hi'⟩ := DataW.trod_array Tryz.underlying46 h
  have hc : Tryz.prog.cellsOf 46 = 2 := by kernel_rfl
  have hc1 : Tryz.prog.cellsOf 45 = 1 := by kernel_rfl
  rw [hc] at hl
  rw [hc1] at hi'
  match cs, hl, xs, hx with
  | [c0, c1], _, [x0, x1], _ =>
    have h0 := hi' 0 (by omega)
    have h1 := hi' 1 (by omega)
    simp at h0 h1
    obtain ⟨a, ha, _, wa⟩ := DataW.trod_int Tryz.underlying45 h0
    obtain ⟨b, hb, _, wb⟩ := DataW.trod_int Tryz.underlying45 h1
    simp at ha hb
    subst ha hb
    have w0 := wf_u64 wa
    have w1 := wf_u64 wb
    exact ⟨mof a b, by rw [lo_mof w0.1 w0.2 w1.1 w1.2, hi_mof w0.1 w0.2 w1.1 w1.2]⟩
end
section
variable {H : Type} {enc : TypeId × Value → H} {w : World} {base : Nat} {spare : Nat → Bool} {held : Bool} {r : Reach} {b0 : Nat} {v : Value} {d : DataW H} {p : List MemPlace}
theorem open_arr2 (hv : Value.okWide Tryz.prog w r b0 46 v) (h : DataW.Trod enc Tryz.prog w base spare held 46 v d p) : ∃ m : Mask, v = .agg #[.int .u64 (lo m), .int .u64 (hi m)] := by
  obtain ⟨cs, rfl, hsz⟩ : ∃ cs, v = .agg cs ∧ cs.size = Tryz.prog.cellsOf 46 := by
    simp only [Value.okWide, Tryz.underlying46] at hv
    obtain ⟨cs, h1, h2, _⟩ := hv
    exact ⟨cs, h1, h2⟩
  obtain ⟨fuel, hf⟩ := h
  obtain ⟨m, hm⟩ := cells_arr2 (cs := cs.toList) (by simpa [Value.cells] using hf)
  exact ⟨m, by obtain ⟨l⟩ := cs; simp at hm; rw [hm]⟩
end
end Go.Proofs.YtegopgpnjgikeaaGreatDoor
