/-
  Fields of cards as data, with no program in sight.
-/
import Derived.Test.YtegopgpnjgikeaaGreatDoorN1
set_option linter.unusedVariables false
namespace Go.Proofs.YtegopgpnjgikeaaGreatDoor
open Go.RowKit
structure Fld where
  nm : ByteArray
  kd : Int
  st : Int
  sz : Int
/-- The greatest size of a field of a kind. -/
def mostSz (kd : Int) : Int := if kd = 0 then 24 else if kd = 3 then 12 else 4
/-- How many holes a field has. -/
def manyF (kd sz : Int) : Int := if kd = 1 then 4 * sz else if kd = 2 then 5 * sz else if kd = 3 then sz + 1 else sz
/-- Is a field valid? -/
def fldB (f : Fld) : Bool := isNameB f.nm && decide (0 ≤ f.kd ∧ f.kd ≤ 3 ∧ 0 ≤ f.st ∧ 1 ≤ f.sz ∧ f.sz ≤ mostSz f.kd ∧ f.st + manyF f.kd f.sz ≤ 96)
/-- Its numbers are in their kinds' bounds. -/
def Fld.ok (f : Fld) : Prop := (-128 ≤ f.kd ∧ f.kd < 128) ∧ (-32768 ≤ f.st ∧ f.st < 32768) ∧ (-32768 ≤ f.sz ∧ f.sz < 32768)
/-- The greatest value of a field. -/
def mostF (f : Fld) : Int := if f.kd = 0 then f.sz - 1 else if f.kd = 3 then 2 ^ f.sz.toNat - 1 else 10 ^ f.sz.toNat - 1
/-- What LeastDistance returns. -/
def leastF (f : Fld) : Int × Int := if fldB f = true then (if f.kd = 1 then (1, 0) else if mostF f = 0 then (0, 0) else (2, 0)) else (0, 1)
theorem mostF_zero {f : Fld} (h : 1 ≤ f.sz) : mostF f = 0 ↔ f.kd = 0 ∧ f.sz = 1 := by
  have hz : ∃ n : Nat, f.sz.toNat = n + 1 := ⟨f.sz.toNat - 1, by omega⟩
  obtain ⟨n, hn⟩ := hz
  unfold mostF
  split
  · constructor
    · intro h1; exact ⟨by assumption, by omega⟩
    · rintro ⟨_, h1⟩; omega
  · rename_i h0
    have p2 : (1 : Int) ≤ 2 ^ n := by
      have := Nat.one_le_two_pow (n := n)
      exact_mod_cast this
    have p10 : (1 : Int) ≤ 10 ^ n := by
      have : 1 ≤ 10 ^ n := Nat.one_le_pow _ _ (by omega)
      exact_mod_cast this
    split
    · rw [hn, Int.pow_succ]
      constructor
      · intro h1; omega
      · rintro ⟨h1, _⟩; exact absurd h1 h0
    · rw [hn, Int.pow_succ]
      constructor
      · intro h1; omega
      · rintro ⟨h1, _⟩; exact absurd h1 h0
end Go.Proofs.YtegopgpnjgikeaaGreatDoor
