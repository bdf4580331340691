/-
  Contract of the program's function that tells the holes of a digit.
-/
import Derived.Test.YtdlpifgkponnmaaDoorF5
import Derived.Test.YtdlpifgkponnmaaDoorC6
set_option linter.unusedVariables false
set_option linter.unusedSimpArgs false
set_option maxRecDepth 100000
namespace Go.Proofs.YtdlpifgkponnmaaDoor
open Go.RowKit
theorem Rd.keepB {α : Type} {e : Enc α} {w w' : World} {b off : Nat} {xs : List α} (h : Rd e w (some ⟨b, off, none⟩) xs) (hm : w'.heap[b]? = w.heap[b]?) : Rd e w' (some ⟨b, off, none⟩) xs := fun k hk => by
  obtain ⟨b', off', e1, hlt, hc⟩ := h k hk
  simp only [Option.some.injEq, Addr.mk.injEq, and_true] at e1
  obtain ⟨rfl, rfl⟩ := e1
  have hlt2 : b < w'.heap.size := by
    have h1 : w.heap[b]? = some w.heap[b] := Array.getElem?_eq_getElem hlt
    rw [h1] at hm
    exact (Array.getElem?_eq_some_iff.1 hm).1
  exact ⟨b, off, rfl, hlt2, fun j v hv => by have := hc j v hv; simpa only [World.cell?, hm] using this⟩
theorem Rd.setB {α : Type} {e : Enc α} {w : World} {b off : Nat} {xs : List α} (h : Rd e w (some ⟨b, off, none⟩) xs) {p : Addr} (hp : b ≠ p.block) (u : Value) : Rd e (w.setCell p u) (some ⟨b, off, none⟩) xs :=
  h.keepB (Below.heap_setCell w p u b hp)
theorem Rd.two {w : World} {b : Nat} {x y : Int} (hb : b < w.heap.size) (h0 : w.cell? ⟨b, 0, none⟩ = some (.int .i64 x)) (h1 : w.cell? ⟨b, 1, none⟩ = some (.int .i64 y)) : Rd encI64 w (some ⟨b, 0, none⟩) [x, y] := fun k hk => by
  refine ⟨b, 0, rfl, hb, fun j v hv => ?_⟩
  match k, hk, j, hv with
  | 0, _, 0, hv => cases hv; exact h0
  | 1, _, 0, hv => cases hv; exact h1
  | 0, _, j + 1, hv => simp [encI64] at hv
  | 1, _, j + 1, hv => simp [encI64] at hv
theorem Rd.one {w : World} {b : Nat} {x : Int} (hb : b < w.heap.size) (h0 : w.cell? ⟨b, 0, none⟩ = some (.int .i64 x)) : Rd encI64 w (some ⟨b, 0, none⟩) [x] := fun k hk => by
  refine ⟨b, 0, rfl, hb, fun j v hv => ?_⟩
  match k, hk, j, hv with
  | 0, _, 0, hv => cases hv; exact h0
  | 0, _, j + 1, hv => simp [encI64] at hv
