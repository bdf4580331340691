/-
  Several slices of the call's own: what lies apart stays, when one of them is marked.
-/
import Derived.Test.YtegopgpnjgikeaaGreatDoorMI
set_option linter.unusedVariables false
namespace Go.Proofs.YtegopgpnjgikeaaGreatDoor
open Go.RowKit
section
variable {α β : Type} {e : Enc α} {f : Enc β} {T U : TypeId} {w w' w1 : World} {base base' : Nat} {v v' : Value} {xs : List α} {ys : List β}
/-- Two slices of the call's own, the one made behind the other. -/
def Apart (v v' : Value) : Prop := v.ownBlock = none ∨ v.ownBlock ≠ v'.ownBlock
theorem Apart.of (h : Ow e T w base v xs) (h' : Ow f U w' base' v' ys) (hb : w.heap.size ≤ base') : Apart v v' := by
  cases hv : v.ownBlock with
  | none => exact .inl hv
  | some k =>
    refine .inr ?_
    rw [hv]
    intro he
    have h1 := (h.lt k hv).2
    have h2 := (h'.lt k he.symm).1
    omega
theorem Apart.of' (h : Ow e T w base v xs) (h' : Ow f U w' base' v' ys) (hb : w.heap.size ≤ base') : Apart v' v := by
  cases hv : v'.ownBlock with
  | none => exact .inl hv
  | some k =>
    refine .inr ?_
    rw [hv]
    intro he
    have h1 := (h.lt k he.symm).2
    have h2 := (h'.lt k hv).1
    omega
theorem Ow.apart (h : Ow e T w base v xs) (hg : w.grownBy w' v'.ownBlock) (ha : Apart v v') : Ow e T w' base v xs := h.grown hg ha
theorem Ext.mark {w0 : World} (h : Ext w0 w) (hO : Ow e T w1 base v xs) (hb : w0.heap.size ≤ base) (hg : w.grownBy w' v.ownBlock) : Ext w0 w' :=
  h.trans' hg (fun k hk => Nat.le_trans hb (hO.lt k hk).1)
theorem Ow.rdA {A : Option Addr} {n cap : Nat} (h : Ow e T w base (.slice A n cap) xs) : Rd e w A xs := by
  obtain ⟨A', c, h1, _, h2⟩ := h.slice
  simp only [Value.slice.injEq] at h1
  obtain ⟨rfl, _⟩ := h1
  exact h2
end
end Go.Proofs.YtegopgpnjgikeaaGreatDoor
