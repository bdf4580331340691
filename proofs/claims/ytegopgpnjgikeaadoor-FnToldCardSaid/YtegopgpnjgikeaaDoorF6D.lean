/-
  Contract of the program's function that tells the holes of a digit.
-/
import Derived.Test.YtegopgpnjgikeaaDoorF5
import Derived.Test.YtegopgpnjgikeaaDoorC6
set_option linter.unusedVariables false
set_option linter.unusedSimpArgs false
set_option maxRecDepth 100000
namespace Go.Proofs.YtegopgpnjgikeaaDoor
open Go.RowKit
theorem Rd.keepB {α : Type} {e : Enc α} {w w' : World} {b off : Nat} {xs : List α} (h : Rd e w (some ⟨b, off, none⟩) xs) (hm : w'.heap[b]? = w.heap[b]?) : Rd e w' (some ⟨b, off, none⟩) xs := fun k hk => by
  obtain ⟨b', off', e1, hlt, hc⟩ := h k hk
  simp only [Option.some.injEq, Addr.mk.injEq, and_true] at e1
  obtain ⟨rfl, rfl⟩ := e1
  have hlt2 : b < w'.heap.size := by
    have h1 : w.heap[b]? = some w.heap[b] := Array.getElem?_eq_getElem hlt
    rw [h1] at hm
    exact (Array.getElem?_eq_some_iff.1 hm).1
  exact ⟨b, off, rfl, hlt2, fun j v hv => by have := hc j v hv; simpa only [World.cell?, hm] using this⟩
theorem Rd.setB {α : Type} {e : Enc α} {w : World} {b off : Nat} {xs : List α} (h : Rd e w (some ⟨b, off, none⟩) xs) {p : Addr} (hp : b ≠ p.block) (u : Value) : Rd e (w.setCell p u) (some ⟨b, off, none⟩) xs :=
  h.keepB (Below.heap_setCell w p u b hp)
theorem Rd.two {w : World} {b : Nat} {x y : Int} (hb : b < w.heap.size) (h0 : w.cell? ⟨b, 0, none⟩ = some (.int .i64 x)) (h1 : w.cell? ⟨b, 1, none⟩ = some (.int .i64 y)) : Rd encI64 w (some ⟨b, 0, none⟩) [x, y] := fun k hk => by
  refine ⟨b, 0, rfl, hb, fun j v hv => ?_⟩
  match k, hk, j, hv with
  | 0, _, 0, hv => cases hv; exact h0
  | 1, _, 0, hv => cases hv; exact h1
  | 0, _, j + 1, hv => simp [encI64] at hv
  | 1, _, j + 1, hv => simp [encI64] at hv
theorem Rd.one {w : World} {b : Nat} {x : Int} (hb : b < w.heap.size) (h0 : w.cell? ⟨b, 0, none⟩ = some (.int .i64 x)) : Rd encI64 w (some ⟨b, 0, none⟩) [x] := fun k hk => by
  refine ⟨b, 0, rfl, hb, fun j v hv => ?_⟩
  match k, hk, j, hv with
  | 0, _, 0, hv => cases hv; exact h0
  | 0, _, j + 1, hv => simp [encI64] at hv
theorem idx_0 (b0 n0 b1 n1 b2 n2 b3 n3 b4 n4 b5 n5 b6 n6 b7 n7 b8 n8 b9 n9 : Nat) (w : World) : (Instr.index 147 (.agg #[.slice (some ⟨b0, 0, none⟩) n0 n0, .slice (some ⟨b1, 0, none⟩) n1 n1, .slice (some ⟨b2, 0, none⟩) n2 n2, .slice (some ⟨b3, 0, none⟩) n3 n3, .slice (some ⟨b4, 0, none⟩) n4 n4, .slice (some ⟨b5, 0, none⟩) n5 n5, .slice (some ⟨b6, 0, none⟩) n6 n6, .slice (some ⟨b7, 0, none⟩) n7 n7, .slice (some ⟨b8, 0, none⟩) n8 n8, .slice (some ⟨b9, 0, none⟩) n9 n9]) (.int .i64 0)).run Tryd.prog w = .ok (.slice (some ⟨b0, 0, none⟩) n0 n0) w := by kernel_rfl
theorem idx_1 (b0 n0 b1 n1 b2 n2 b3 n3 b4 n4 b5 n5 b6 n6 b7 n7 b8 n8 b9 n9 : Nat) (w : World) : (Instr.index 147 (.agg #[.slice (some ⟨b0, 0, none⟩) n0 n0, .slice (some ⟨b1, 0, none⟩) n1 n1, .slice (some ⟨b2, 0, none⟩) n2 n2, .slice (some ⟨b3, 0, none⟩) n3 n3, .slice (some ⟨b4, 0, none⟩) n4 n4, .slice (some ⟨b5, 0, none⟩) n5 n5, .slice (some ⟨b6, 0, none⟩) n6 n6, .slice (some ⟨b7, 0, none⟩) n7 n7, .slice (some ⟨b8, 0, none⟩) n8 n8, .slice (some ⟨b9, 0, none⟩) n9 n9]) (.int .i64 1)).run Tryd.prog w = .ok (.slice (some ⟨b1, 0, none⟩) n1 n1) w := by kernel_rfl
theorem idx_2 (b0 n0 b1 n1 b2 n2 b3 n3 b4 n4 b5 n5 b6 n6 b7 n7 b8 n8 b9 n9 : Nat) (w : World) : (Instr.index 147 (.agg #[.slice (some ⟨b0, 0, none⟩) n0 n0, .slice (some ⟨b1, 0, none⟩) n1 n1, .slice (some ⟨b2, 0, none⟩) n2 n2, .slice (some ⟨b3, 0, none⟩) n3 n3, .slice (some ⟨b4, 0, none⟩) n4 n4, .slice (some ⟨b5, 0, none⟩) n5 n5, .slice (some ⟨b6, 0, none⟩) n6 n6, .slice (some ⟨b7, 0, none⟩) n7 n7, .slice (some ⟨b8, 0, none⟩) n8 n8, .slice (some ⟨b9, 0, none⟩) n9 n9]) (.int .i64 2)).run Tryd.prog w = .ok (.slice (some ⟨b2, 0, none⟩) n2 n2) w := by kernel_rfl
theorem idx_3 (b0 n0 b1 n1 b2 n2 b3 n3 b4 n4 b5 n5 b6 n6 b7 n7 b8 n8 b9 n9 : Nat) (w : World) : (Instr.index 147 (.agg #[.slice (some ⟨b0, 0, none⟩) n0 n0, .slice (some ⟨b1, 0, none⟩) n1 n1, .slice (some ⟨b2, 0, none⟩) n2 n2, .slice (some ⟨b3, 0, none⟩) n3 n3, .slice (some ⟨b4, 0, none⟩) n4 n4, .slice (some ⟨b5, 0, none⟩) n5 n5, .slice (some ⟨b6, 0, none⟩) n6 n6, .slice (some ⟨b7, 0, none⟩) n7 n7, .slice (some ⟨b8, 0, none⟩) n8 n8, .slice (some ⟨b9, 0, none⟩) n9 n9]) (.int .i64 3)).run Tryd.prog w = .ok (.slice (some ⟨b3, 0, none⟩) n3 n3) w := by kernel_rfl
theorem idx_4 (b0 n0 b1 n1 b2 n2 b3 n3 b4 n4 b5 n5 b6 n6 b7 n7 b8 n8 b9 n9 : Nat) (w : World) : (Instr.index 147 (.agg #[.slice (some ⟨b0, 0, none⟩) n0 n0, .slice (some ⟨b1, 0, none⟩) n1 n1, .slice (some ⟨b2, 0, none⟩) n2 n2, .slice (some ⟨b3, 0, none⟩) n3 n3, .slice (some ⟨b4, 0, none⟩) n4 n4, .slice (some ⟨b5, 0, none⟩) n5 n5, .slice (some ⟨b6, 0, none⟩) n6 n6, .slice (some ⟨b7, 0, none⟩) n7 n7, .slice (some ⟨b8, 0, none⟩) n8 n8, .slice (some ⟨b9, 0, none⟩) n9 n9]) (.int .i64 4)).run Tryd.prog w = .ok (.slice (some ⟨b4, 0, none⟩) n4 n4) w := by kernel_rfl
theorem idx_5 (b0 n0 b1 n1 b2 n2 b3 n3 b4 n4 b5 n5 b6 n6 b7 n7 b8 n8 b9 n9 : Nat) (w : World) : (Instr.index 147 (.agg #[.slice (some ⟨b0, 0, none⟩) n0 n0, .slice (some ⟨b1, 0, none⟩) n1 n1, .slice (some ⟨b2, 0, none⟩) n2 n2, .slice (some ⟨b3, 0, none⟩) n3 n3, .slice (some ⟨b4, 0, none⟩) n4 n4, .slice (some ⟨b5, 0, none⟩) n5 n5, .slice (some ⟨b6, 0, none⟩) n6 n6, .slice (some ⟨b7, 0, none⟩) n7 n7, .slice (some ⟨b8, 0, none⟩) n8 n8, .slice (some ⟨b9, 0, none⟩) n9 n9]) (.int .i64 5)).run Tryd.prog w = .ok (.slice (some ⟨b5, 0, none⟩) n5 n5) w := by kernel_rfl
theorem idx_6 (b0 n0 b1 n1 b2 n2 b3 n3 b4 n4 b5 n5 b6 n6 b7 n7 b8 n8 b9 n9 : Nat) (w : World) : (Instr.index 147 (.agg #[.slice (some ⟨b0, 0, none⟩) n0 n0, .slice (some ⟨b1, 0, none⟩) n1 n1, .slice (some ⟨b2, 0, none⟩) n2 n2, .slice (some ⟨b3, 0, none⟩) n3 n3, .slice (some ⟨b4, 0, none⟩) n4 n4, .slice (some ⟨b5, 0, none⟩) n5 n5, .slice (some ⟨b6, 0, none⟩) n6 n6, .slice (some ⟨b7, 0, none⟩) n7 n7, .slice (some ⟨b8, 0, none⟩) n8 n8, .slice (some ⟨b9, 0, none⟩) n9 n9]) (.int .i64 6)).run Tryd.prog w = .ok (.slice (some ⟨b6, 0, none⟩) n6 n6) w := by kernel_rfl
theorem idx_7 (b0 n0 b1 n1 b2 n2 b3 n3 b4 n4 b5 n5 b6 n6 b7 n7 b8 n8 b9 n9 : Nat) (w : World) : (Instr.index 147 (.agg #[.slice (some ⟨b0, 0, none⟩) n0 n0, .slice (some ⟨b1, 0, none⟩) n1 n1, .slice (some ⟨b2, 0, none⟩) n2 n2, .slice (some ⟨b3, 0, none⟩) n3 n3, .slice (some ⟨b4, 0, none⟩) n4 n4, .slice (some ⟨b5, 0, none⟩) n5 n5, .slice (some ⟨b6, 0, none⟩) n6 n6, .slice (some ⟨b7, 0, none⟩) n7 n7, .slice (some ⟨b8, 0, none⟩) n8 n8, .slice (some ⟨b9, 0, none⟩) n9 n9]) (.int .i64 7)).run Tryd.prog w = .ok (.slice (some ⟨b7, 0, none⟩) n7 n7) w := by kernel_rfl
theorem idx_8 (b0 n0 b1 n1 b2 n2 b3 n3 b4 n4 b5 n5 b6 n6 b7 n7 b8 n8 b9 n9 : Nat) (w : World) : (Instr.index 147 (.agg #[.slice (some ⟨b0, 0, none⟩) n0 n0, .slice (some ⟨b1, 0, none⟩) n1 n1, .slice (some ⟨b2, 0, none⟩) n2 n2, .slice (some ⟨b3, 0, none⟩) n3 n3, .slice (some ⟨b4, 0, none⟩) n4 n4, .slice (some ⟨b5, 0, none⟩) n5 n5, .slice (some ⟨b6, 0, none⟩) n6 n6, .slice (some ⟨b7, 0, none⟩) n7 n7, .slice (some ⟨b8, 0, none⟩) n8 n8, .slice (some ⟨b9, 0, none⟩) n9 n9]) (.int .i64 8)).run Tryd.prog w = .ok (.slice (some ⟨b8, 0, none⟩) n8 n8) w := by kernel_rfl
theorem idx_9 (b0 n0 b1 n1 b2 n2 b3 n3 b4 n4 b5 n5 b6 n6 b7 n7 b8 n8 b9 n9 : Nat) (w : World) : (Instr.index 147 (.agg #[.slice (some ⟨b0, 0, none⟩) n0 n0, .slice (some ⟨b1, 0, none⟩) n1 n1, .slice (some ⟨b2, 0, none⟩) n2 n2, .slice (some ⟨b3, 0, none⟩) n3 n3, .slice (some ⟨b4, 0, none⟩) n4 n4, .slice (some ⟨b5, 0, none⟩) n5 n5, .slice (some ⟨b6, 0, none⟩) n6 n6, .slice (some ⟨b7, 0, none⟩) n7 n7, .slice (some ⟨b8, 0, none⟩) n8 n8, .slice (some ⟨b9, 0, none⟩) n9 n9]) (.int .i64 9)).run Tryd.prog w = .ok (.slice (some ⟨b9, 0, none⟩) n9 n9) w := by kernel_rfl
set_option maxHeartbeats 4000000 in
theorem impl_digitHoles (nm : ByteArray) (kd st sz d : Int) (hk : kd = 1 ∨ kd = 2) (d0 : 0 ≤ d) (d1 : d < 10) (w : World) :
    Calls Tryd.prog 111 #[.agg #[.string nm, .int .i8 kd, .int .i16 st, .int .i16 sz], .int .i64 d] w fun e w' => ∃ b cap, e = .returned (.slice (some ⟨b, 0, none⟩) (digL kd d).length cap) ∧ w.heap.size < b ∧ Rd encI64 w' (some ⟨b, 0, none⟩) (digL kd d) ∧ Ext w w' := by
  rcases hk with rfl | rfl
  all_goals
    rcases (show d = 0 ∨ d = 1 ∨ d = 2 ∨ d = 3 ∨ d = 4 ∨ d = 5 ∨ d = 6 ∨ d = 7 ∨ d = 8 ∨ d = 9 by omega) with rfl | rfl | rfl | rfl | rfl | rfl | rfl | rfl | rfl | rfl
    all_goals
      clear d0 d1
      have i0 := idx_0
      have i1 := idx_1
      have i2 := idx_2
      have i3 := idx_3
      have i4 := idx_4
      have i5 := idx_5
      have i6 := idx_6
      have i7 := idx_7
      have i8 := idx_8
      have i9 := idx_9
      go_enter Tryd.func111, Tryd.ntmps111
      go_wp2
      go_ret
      first
        | exact ⟨_, _, rfl, (by first | omega | (simp <;> omega)), Rd.two (by first | omega | (simp <;> omega)) (by go_simp) (by go_simp), by ((repeat (first | with_reducible exact Ext.refl _ | with_reducible exact hw | with_reducible exact hb9 | with_reducible exact hb8 | with_reducible exact hb7 | with_reducible exact hb6 | with_reducible exact hb5 | with_reducible exact hb4 | with_reducible exact hb3 | with_reducible exact hb2 | with_reducible exact hb1 | with_reducible refine Ext.alloc ?_ _ | with_reducible refine Ext.drew ?_ | ((with_reducible refine Ext.set ?_ ?_ _); focus (dsimp only; omega)) | with_reducible refine Ext.trans ?_ hb9 | with_reducible refine Ext.trans ?_ hb8 | with_reducible refine Ext.trans ?_ hb7 | with_reducible refine Ext.trans ?_ hb6 | with_reducible refine Ext.trans ?_ hb5 | with_reducible refine Ext.trans ?_ hb4 | with_reducible refine Ext.trans ?_ hb3 | with_reducible refine Ext.trans ?_ hb2 | with_reducible refine Ext.trans ?_ hb1 | with_reducible refine Ext.trans ?_ hw)))⟩
        | exact ⟨_, _, rfl, (by first | omega | (simp <;> omega)), Rd.one (by first | omega | (simp <;> omega)) (by go_simp), by ((repeat (first | with_reducible exact Ext.refl _ | with_reducible exact hw | with_reducible exact hb9 | with_reducible exact hb8 | with_reducible exact hb7 | with_reducible exact hb6 | with_reducible exact hb5 | with_reducible exact hb4 | with_reducible exact hb3 | with_reducible exact hb2 | with_reducible exact hb1 | with_reducible refine Ext.alloc ?_ _ | with_reducible refine Ext.drew ?_ | ((with_reducible refine Ext.set ?_ ?_ _); focus (dsimp only; omega)) | with_reducible refine Ext.trans ?_ hb9 | with_reducible refine Ext.trans ?_ hb8 | with_reducible refine Ext.trans ?_ hb7 | with_reducible refine Ext.trans ?_ hb6 | with_reducible refine Ext.trans ?_ hb5 | with_reducible refine Ext.trans ?_ hb4 | with_reducible refine Ext.trans ?_ hb3 | with_reducible refine Ext.trans ?_ hb2 | with_reducible refine Ext.trans ?_ hb1 | with_reducible refine Ext.trans ?_ hw)))⟩
end Go.Proofs.YtegopgpnjgikeaaDoor
