/-
  The number of false drops of a lot, in both orders of its words (plain Lean).
-/
import Derived.Test.YtegopgpnjgikeaaGreatDoorG4
set_option linter.unusedVariables false
namespace Go.Proofs.YtegopgpnjgikeaaGreatDoor
open Go.RowKit
theorem wallM_one (x : Mx) (w : ByteArray) : wallM x [w] = wholes x w := by
  show mjoin 0 (wholes x w) = wholes x w
  unfold mjoin
  exact BitVec.zero_or
theorem hasAll_one (list : List ByteArray) (w : ByteArray) : hasAllB list [w] = list.contains w := by simp [hasAllB]
/-- The sum of the false drops of each word of a lot. -/
noncomputable def sumF (x : Mx) (lot : List (List ByteArray)) : Nat := ((firsts lot.flatten).map fun w => (falseL x lot [w]).length).sum
theorem falseL_one (x : Mx) (lot : List (List ByteArray)) (w : ByteArray) :
    falseL x lot [w] = idxTo (fun i => mwin (wholes x w) (wallM x (lot.getD i [])) && !(lot.getD i []).contains w) lot.length := by
  unfold falseL
  rw [wallM_one]
  exact idxTo_congr _ fun i _ => by rw [hasAll_one]
theorem firsts_map {α β : Type} [DecidableEq α] [DecidableEq β] (g : α → β) (inj : ∀ a b, g a = g b → a = b) (xs : List α) : ∀ acc : List α,
    (xs.map g).foldl (fun acc x => if acc.contains x then acc else acc ++ [x]) (acc.map g) = (xs.foldl (fun acc x => if acc.contains x then acc else acc ++ [x]) acc).map g := by
  induction xs with
  | nil => intro acc; rfl
  | cons x xs ih =>
    intro acc
    rw [List.map_cons, List.foldl_cons, List.foldl_cons]
    have hc : (acc.map g).contains (g x) = acc.contains x := by
      rw [Bool.eq_iff_iff, List.contains_iff_mem, List.contains_iff_mem, List.mem_map]
      exact ⟨fun ⟨a, h1, h2⟩ => inj _ _ h2 ▸ h1, fun h => ⟨x, h, rfl⟩⟩
    rw [hc]
    by_cases e : acc.contains x = true
    · rw [if_pos e, if_pos e, ih]
    · rw [if_neg e, if_neg e, ← ih, List.map_append, List.map_cons, List.map_nil]
def txtL (s : ByteArray) : List UInt8 := s.data.toList
theorem txtL_inj (a b : ByteArray) (h : txtL a = txtL b) : a = b := by
  obtain ⟨⟨a⟩⟩ := a; obtain ⟨⟨b⟩⟩ := b
  unfold txtL at h
  dsimp only at h
  rw [h]
/-- The words sorted and made compact give the same sum. -/
theorem sumF_sorted (ws : List ByteArray) (f : List UInt8 → Nat) :
    ((Lib.compact ((ws.map txtL).mergeSort fun x y => decide (x ≤ y))).map f).sum = ((firsts ws).map fun w => f (txtL w)).sum := by
  obtain ⟨h1, h2⟩ := sorted_compact (ws.map txtL)
  rw [sum_firsts (ws.map txtL) _ h1 h2 f]
  have := firsts_map txtL txtL_inj ws []
  rw [List.map_nil] at this
  unfold firsts
  rw [this, List.map_map]
  rfl
end Go.Proofs.YtegopgpnjgikeaaGreatDoor
