/-
  The search for the fewest words, as data (plain Lean): lists of places, in order, with a number of tries.
-/
import Derived.Test.YtegopgpnjgikeaaGreatDoorG5
set_option linter.unusedVariables false
namespace Go.Proofs.YtegopgpnjgikeaaGreatDoor
open Go.RowKit
/-- What a search ends with: a list, nothing, or no tries left. -/
inductive Cov
  | hit (l : List Int)
  | no
  | over
/-- Tries for a further place from i on, c of them. -/
def covL (f : Nat → List Int → Nat → Cov × Nat) (l : List Int) : Nat → Nat → Nat → Cov × Nat
  | 0, _, b => (.no, b)
  | c + 1, i, b => match f (i + 1) (l ++ [(i : Int)]) b with
    | (.no, b') => covL f l c (i + 1) b'
    | r => r
/-- Tries for n further places of N behind a list, from a place on, with b tries left. -/
def covN (ok : List Int → Bool) (N : Nat) : Nat → Nat → List Int → Nat → Cov × Nat
  | 0, _, l, b => if b = 0 then (.over, 0) else (if ok l = true then .hit l else .no, b - 1)
  | n + 1, i, l, b => covL (covN ok N n) l (N - n - i) i b
/-- Tries with m places, with m + 1, and so on, c of them. -/
def covAll (ok : List Int → Bool) (N : Nat) : Nat → Nat → Nat → Cov × Nat
  | 0, _, b => (.no, b)
  | c + 1, m, b => match covN ok N m 0 [] b with
    | (.no, b') => covAll ok N c (m + 1) b'
    | r => r
/-- All places from i on. -/
def placesFrom (i : Nat) : Nat → List Int
  | 0 => []
  | n + 1 => (i : Int) :: placesFrom (i + 1) n
theorem covN_full (ok : List Int → Bool) (N : Nat) : ∀ (n i : Nat) (l : List Int) (b : Nat), i + n = N → ok (l ++ placesFrom i n) = true → (covN ok N n i l b).1 ≠ .no
  | 0, i, l, b, _, h => by
    rw [placesFrom, List.append_nil] at h
    rw [covN]
    by_cases e : b = 0
    · rw [if_pos e]; intro hh; cases hh
    · rw [if_neg e, if_pos h]; intro hh; cases hh
  | n + 1, i, l, b, hN, h => by
    rw [covN, show N - n - i = 0 + 1 by omega, covL]
    have := covN_full ok N n (i + 1) (l ++ [(i : Int)]) b (by omega) (by rw [List.append_assoc]; exact h)
    generalize covN ok N n (i + 1) (l ++ [(i : Int)]) b = r at this
    obtain ⟨r, b'⟩ := r
    cases r with
    | hit l' => intro hh; cases hh
    | no => exact absurd rfl this
    | over => intro hh; cases hh
/-- If all places together will do, the search finds a list or has no tries left. -/
theorem covAll_full (ok : List Int → Bool) (N : Nat) (h : ok (placesFrom 0 N) = true) : ∀ (c m b : Nat), m + c = N + 1 → 0 < c → (covAll ok N c m b).1 ≠ .no
  | 0, _, _, _, h0 => by omega
  | c + 1, m, b, hm, _ => by
    rw [covAll]
    have hf : m = N → (covN ok N m 0 [] b).1 ≠ .no := fun e => by rw [e]; exact covN_full ok N N 0 [] b (by omega) h
    generalize covN ok N m 0 [] b = r at hf
    obtain ⟨r, b'⟩ := r
    cases r with
    | hit l' => intro hh; cases hh
    | over => intro hh; cases hh
    | no =>
      have hmN : m ≠ N := fun e => hf e rfl
      exact covAll_full ok N h c (m + 1) b' (by omega) (by omega)
end Go.Proofs.YtegopgpnjgikeaaGreatDoor
