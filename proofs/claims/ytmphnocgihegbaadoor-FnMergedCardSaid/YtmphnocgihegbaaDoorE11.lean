/-
  Contracts of the functions that list the tops of a catalogue, and the synonyms of an entry.
-/
import Derived.Test.YtmphnocgihegbaaDoorE9
import Derived.Test.YtmphnocgihegbaaDoorL5
set_option linter.unusedVariables false
set_option linter.unusedSimpArgs false
set_option maxRecDepth 100000
namespace Go.Proofs.YtmphnocgihegbaaDoor
open Go.RowKit
/-- The numbers below n of which p holds, in order. -/
def pickI (p : Nat → Bool) : Nat → List Int
  | 0 => []
  | n + 1 => if p n = true then pickI p n ++ [(n : Int)] else pickI p n
theorem pickI_zero (p : Nat → Bool) : pickI p 0 = [] := rfl
theorem pickI_hit (p : Nat → Bool) (k : Nat) (h : p k = true) : pickI p (k + 1) = pickI p k ++ [(k : Int)] := by rw [pickI, if_pos h]
theorem pickI_miss (p : Nat → Bool) (k : Nat) (h : p k = false) : pickI p (k + 1) = pickI p k := by rw [pickI, if_neg (by simp [h])]
theorem pickI_len (p : Nat → Bool) : ∀ k, (pickI p k).length ≤ k
  | 0 => Nat.le_refl _
  | k + 1 => by
    rw [pickI]
    have := pickI_len p k
    split
    · rw [List.length_append, List.length_singleton]; omega
    · omega
attribute [irreducible] pickI
def topB (xs : List Ent) (k : Nat) : Bool := xs[k]!.see == -1 && xs[k]!.br == -1
def topsF (xs : List Ent) : List Int × Int := if catB xs = true then (pickI (topB xs) xs.length, 0) else ([], 1)
