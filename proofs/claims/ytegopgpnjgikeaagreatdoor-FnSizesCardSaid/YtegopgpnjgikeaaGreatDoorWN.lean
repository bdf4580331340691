/-
  A relation of worlds of which some blocks alone have turned.
-/
import Derived.Test.YtegopgpnjgikeaaGreatDoorL3
import Derived.Test.YtegopgpnjgikeaaGreatDoorL5
set_option linter.unusedVariables false
set_option linter.unusedSimpArgs false
set_option maxRecDepth 100000
namespace Go.Proofs.YtegopgpnjgikeaaGreatDoor
open Go.RowKit
variable {α : Type}
/-- Blocks from lo up to hi alone have turned. -/
structure Win (lo hi : Nat) (w w' : World) : Prop where
  os : w'.os = w.os
  tape : w'.tape = w.tape
  output : w'.output = w.output
  size : w.heap.size ≤ w'.heap.size
  block : ∀ b, b < w.heap.size → (b < lo ∨ hi ≤ b) → w'.heap[b]? = w.heap[b]?
theorem Win.refl (lo hi : Nat) (w : World) : Win lo hi w w := ⟨rfl, rfl, rfl, Nat.le_refl _, fun _ _ _ => rfl⟩
theorem Win.ext {lo hi : Nat} {w w' w'' : World} (h : Win lo hi w w') (hb : Ext w' w'') : Win lo hi w w'' :=
  ⟨hb.os.trans h.os, hb.tape.trans h.tape, hb.output.trans h.output, Nat.le_trans h.size hb.size, fun b hb1 hb2 => (hb.block b (Nat.lt_of_lt_of_le hb1 h.size)).trans (h.block b hb1 hb2)⟩
theorem Win.grown {lo hi : Nat} {w w' w'' : World} {row : Option Nat} (h : Win lo hi w w') (hg : w'.grownBy w'' row) (hr : ∀ k, row = some k → lo ≤ k ∧ k < hi) : Win lo hi w w'' :=
  ⟨hg.os.trans h.os, hg.tape.trans h.tape, hg.output.trans h.output, Nat.le_trans h.size hg.size, fun b hb1 hb2 => (hg.block b (Nat.lt_of_lt_of_le hb1 h.size) (fun e => by have := hr b e.symm; omega)).trans (h.block b hb1 hb2)⟩
theorem Ow.win {α : Type} {e : Enc α} {T : TypeId} {w w' : World} {base lo hi : Nat} {v : Value} {xs : List α} (h : Ow e T w base v xs) (hW : Win lo hi w w') (hb : ∀ b, v.ownBlock = some b → b < lo ∨ hi ≤ b) : Ow e T w' base v xs :=
  h.keep fun k hk => hW.block k (h.lt k hk).2 (hb k hk)
theorem Ext.win {w0 w w' : World} {lo hi : Nat} (h : Ext w0 w) (hW : Win lo hi w w') (hb : w0.heap.size ≤ lo) : Ext w0 w' :=
  ⟨hW.os.trans h.os, hW.tape.trans h.tape, hW.output.trans h.output, Nat.le_trans h.size hW.size, fun k hk => (hW.block k (Nat.lt_of_lt_of_le hk h.size) (.inl (by omega))).trans (h.block k hk)⟩
theorem Win.trans {lo hi : Nat} {w w' w'' : World} (h : Win lo hi w w') (k : Win lo hi w' w'') : Win lo hi w w'' :=
  ⟨k.os.trans h.os, k.tape.trans h.tape, k.output.trans h.output, Nat.le_trans h.size k.size, fun b hb hn => (k.block b (Nat.lt_of_lt_of_le hb h.size) hn).trans (h.block b hb hn)⟩
theorem Win.of {lo hi : Nat} {w w' : World} (h : Ext w w') : Win lo hi w w' := (Win.refl lo hi w).ext h
theorem Win.set {lo hi : Nat} {w w' : World} {p : Addr} (h : Win lo hi w w') (h1 : lo ≤ p.block) (h2 : p.block < hi) (v : Value) : Win lo hi w (w'.setCell p v) :=
  have k : Below lo w' (w'.setCell p v) := Below.setCell (Below.refl _ _) h1 v
  ⟨k.os.trans h.os, k.tape.trans h.tape, k.output.trans h.output, Nat.le_trans h.size k.size, fun b hb hn => (Below.heap_setCell w' p v b (fun e => by subst e; omega)).trans (h.block b hb hn)⟩
theorem Win.set1 {b i : Nat} {w w' : World} (h : Win b (b + 1) w w') (v : Value) : Win b (b + 1) w (w'.setCell ⟨b, i, none⟩ v) := h.set (Nat.le_refl _) (Nat.lt_succ_self _) v
theorem BoxAt.win {lo hi : Nat} {w w' : World} {b : Nat} {cs : Array Value} {t : TypeId} (h : BoxAt w b cs t) (hW : Win lo hi w w') (hb : b < lo ∨ hi ≤ b) : BoxAt w' b cs t := (hW.block b h.lt hb).trans h
theorem cell_blockW {w w' : World} {a : Addr} (h : w'.heap[a.block]? = w.heap[a.block]?) : w'.cell? a = w.cell? a := by unfold World.cell?; rw [h]
theorem Rd.win {α : Type} {e : Enc α} {w w' : World} {lo hi : Nat} {A : Option Addr} {xs : List α} (h : Rd e w A xs) (hW : Win lo hi w w') (hb : ∀ p, A = some p → p.block < lo ∨ hi ≤ p.block) : Rd e w' A xs := fun k hk => by
  obtain ⟨b, off, hA, hlt, hc⟩ := h k hk
  exact ⟨b, off, hA, Nat.lt_of_lt_of_le hlt hW.size, fun j u hu => (cell_blockW (hW.block b hlt (hb _ hA))).trans (hc j u hu)⟩
theorem Win.setOut {lo hi : Nat} {w w' : World} (h : Win lo hi w w') {p : Addr} (hp : w.heap.size ≤ p.block) (v : Value) : Win lo hi w (w'.setCell p v) :=
  have k : Below w.heap.size w' (w'.setCell p v) := Below.setCell (Below.refl _ _) hp v
  ⟨k.os.trans h.os, k.tape.trans h.tape, k.output.trans h.output, Nat.le_trans h.size k.size, fun b hb hn => (k.block b hb).trans (h.block b hb hn)⟩
end Go.Proofs.YtegopgpnjgikeaaGreatDoor
