/-
  The head of a slice that is read.
-/
import Derived.Test.YtegopgpnjgikeaaDoorL3
set_option linter.unusedVariables false
namespace Go.Proofs.YtegopgpnjgikeaaDoor
open Go.RowKit
theorem Rd.take {α : Type} {e : Enc α} {w : World} {A : Option Addr} {xs : List α} (h : Rd e w A xs) (n : Nat) : Rd e w A (xs.take n) := fun k hk => by
  have hk2 : k < xs.length := by rw [List.length_take] at hk; omega
  obtain ⟨b, off, hA, hlt, hc⟩ := h k hk2
  refine ⟨b, off, hA, hlt, fun j u hu => hc j u ?_⟩
  rwa [List.getElem_take] at hu
end Go.Proofs.YtegopgpnjgikeaaDoor
