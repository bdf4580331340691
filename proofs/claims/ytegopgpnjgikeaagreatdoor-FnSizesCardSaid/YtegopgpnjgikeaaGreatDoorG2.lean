/-
  Mixes, the check of a word, the holes of words, as data (plain Lean).
-/
import Derived.Test.YtegopgpnjgikeaaGreatDoorG1
set_option linter.unusedVariables false
namespace Go.Proofs.YtegopgpnjgikeaaGreatDoor
open Go.RowKit
/-- A mix: start, size, holes a word. -/
structure Mx where
  st : Int
  sz : Int
  per : Int
/-- Is a mix valid? -/
def mixB (x : Mx) : Bool := decide (4 ≤ x.sz) && (decide (x.sz ≤ 96) && (decide (1 ≤ x.per) && (decide (x.per ≤ 8) && (decide (2 * x.per ≤ x.sz) && (decide (0 ≤ x.st) && decide (x.st ≤ 96 - x.sz))))))
theorem mixB_iff (x : Mx) : mixB x = true ↔ 4 ≤ x.sz ∧ x.sz ≤ 96 ∧ 1 ≤ x.per ∧ x.per ≤ 8 ∧ 2 * x.per ≤ x.sz ∧ 0 ≤ x.st ∧ x.st ≤ 96 - x.sz := by simp [mixB]
/-- The check behind the first k bytes. -/
def chkTo (s : ByteArray) : Nat → Int
  | 0 => 1
  | k + 1 => (chkTo s k * 16777619 % 4294967296 + ((s.data.toList.getD k 0).toNat : Int)) % 4294967296
theorem chkTo_zero (s : ByteArray) : chkTo s 0 = 1 := rfl
theorem chkTo_succ (s : ByteArray) (k : Nat) : chkTo s (k + 1) = (chkTo s k * 16777619 % 4294967296 + ((s.data.toList.getD k 0).toNat : Int)) % 4294967296 := rfl
theorem chkTo_in (s : ByteArray) (k : Nat) : 0 ≤ chkTo s k ∧ chkTo s k < 4294967296 := by
  cases k with
  | zero => rw [chkTo_zero]; omega
  | succ k => rw [chkTo_succ]; omega
attribute [irreducible] chkTo
/-- The holes that the rounds from a on come to. -/
noncomputable def whM (x : Mx) (a : Int) : Mask :=
  open Classical in if h : ∃ kr : Nat × Mask, WH x.st x.sz x.per kr.1 a 0 kr.2 then h.choose.2 else 0
theorem whM_eq {x : Mx} {a : Int} {k : Nat} {r : Mask} (h : WH x.st x.sz x.per k a 0 r) : whM x a = r := by
  have hx : ∃ kr : Nat × Mask, WH x.st x.sz x.per kr.1 a 0 kr.2 := ⟨(k, r), h⟩
  unfold whM
  rw [dif_pos hx]
  exact (WH_fun hx.choose_spec h).2
theorem whM_rounds (x : Mx) (hx : mixB x = true) (a : Int) (h0 : 0 ≤ a) (h1 : a < 4294967296) : ∃ k, WH x.st x.sz x.per k a 0 (whM x a) := by
  obtain ⟨a1, a2, a3, a4, a5, a6, a7⟩ := (mixB_iff x).1 hx
  obtain ⟨st, hst⟩ := Int.eq_ofNat_of_zero_le a6
  obtain ⟨sz, hsz⟩ := Int.eq_ofNat_of_zero_le (show 0 ≤ x.sz by omega)
  obtain ⟨per, hper⟩ := Int.eq_ofNat_of_zero_le (show 0 ≤ x.per by omega)
  obtain ⟨n, rfl⟩ := Int.eq_ofNat_of_zero_le h0
  obtain ⟨k, r, h⟩ := WH_all st sz per (by omega) (by omega) per n 0 (by omega) (by have := mcount_ge 0; omega)
  rw [← hst, ← hsz, ← hper] at h
  exact ⟨k, by rw [whM_eq h]; exact h⟩
/-- The holes of a word, of words. -/
noncomputable def wholes (x : Mx) (s : ByteArray) : Mask := whM x (chkTo s s.size)
noncomputable def wallM (x : Mx) (ws : List ByteArray) : Mask := ws.foldl (fun m s => mjoin m (wholes x s)) 0
theorem wallM_nil (x : Mx) : wallM x [] = 0 := rfl
theorem wallM_take (x : Mx) (ws : List ByteArray) (k : Nat) (hk : k < ws.length) : wallM x (ws.take (k + 1)) = mjoin (wallM x (ws.take k)) (wholes x ws[k]) := by
  unfold wallM
  rw [List.take_succ_eq_append_getElem hk, List.foldl_append]
  rfl
end Go.Proofs.YtegopgpnjgikeaaGreatDoor
