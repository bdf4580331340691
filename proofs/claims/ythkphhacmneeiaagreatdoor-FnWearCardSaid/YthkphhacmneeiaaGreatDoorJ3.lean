/-
  Numbers read from texts: data; contracts of the reference's l01Number and the program's readNumber.
-/
import Derived.Test.YthkphhacmneeiaaGreatDoorJ2
import Derived.Test.YthkphhacmneeiaaGreatDoorE27
import Derived.Lib.ParseIntBCases
import Derived.Lib.ParseIntBTie
import Derived.Lib.SmallJoins
set_option linter.unusedVariables false
set_option linter.unusedSimpArgs false
set_option maxRecDepth 100000
namespace Go.Proofs.YthkphhacmneeiaaGreatDoor
open Go.RowKit
theorem snocRec {α : Type} {p : List α → Prop} (h0 : p []) (h1 : ∀ l c, p l → p (l ++ [c])) (l : List α) : p l := by
  rw [← List.reverse_reverse l]
  induction l.reverse with
  | nil => exact h0
  | cons c r ih => rw [List.reverse_cons]; exact h1 _ _ ih
def digB (c : UInt8) : Bool := decide (48 ≤ c.toNat) && decide (c.toNat ≤ 57)
/-- The value of a row of digits. -/
def valL (l : List UInt8) : Nat := l.foldl (fun a c => 10 * a + (c.toNat - 48)) 0
theorem valL_snoc (l : List UInt8) (c : UInt8) : valL (l ++ [c]) = 10 * valL l + (c.toNat - 48) := by unfold valL; rw [List.foldl_append]; rfl
/-- A row of digits is the shortest one of its number. -/
def shortB (l : List UInt8) : Bool := !(decide (1 < l.length) && (l.head? == some 48))
def numB (l : List UInt8) : Bool := (decide (1 ≤ l.length) && decide (l.length ≤ 10)) && (shortB l && l.all digB)
theorem dig_range {c : UInt8} (h : digB c = true) : 48 ≤ c.toNat ∧ c.toNat ≤ 57 := by unfold digB at h; simpa using h
theorem val_pos : ∀ (l : List UInt8), l ≠ [] → l.all digB = true → l.head? ≠ some 48 → 1 ≤ valL l := by
  refine snocRec ?_ ?_
  · intro h; exact absurd rfl h
  · intro l c ih
    intro _ ha hh
    rw [List.all_append, Bool.and_eq_true] at ha
    rw [valL_snoc]
    cases l with
    | nil =>
      have hc := dig_range (c := c) (by simpa using ha.2)
      have : c.toNat ≠ 48 := fun e => hh (by rw [List.nil_append, List.head?_cons]; congr 1; exact UInt8.toNat_inj.1 e)
      show 1 ≤ 10 * 0 + _
      omega
    | cons x l =>
      have := ih (List.cons_ne_nil _ _) ha.1 (by simpa using hh)
      omega
theorem dec_val : ∀ (l : List UInt8), l ≠ [] → l.all digB = true → shortB l = true → Lib.decDigits (valL l) = l := by
  refine snocRec ?_ ?_
  · intro h; exact absurd rfl h
  · intro l c ih
    intro _ ha hs
    rw [List.all_append, Bool.and_eq_true] at ha
    have hc := dig_range (c := c) (by simpa using ha.2)
    rw [valL_snoc]
    cases l with
    | nil =>
      have e : 10 * valL [] + (c.toNat - 48) = c.toNat - 48 := by show 10 * 0 + _ = _; omega
      rw [e, Lib.decDigits, dif_pos (by omega), List.nil_append, show 48 + (c.toNat - 48) = c.toNat by omega]
      congr 1
      exact UInt8.toNat_inj.1 (by rw [UInt8.toNat_ofNat']; omega)
    | cons x l =>
      have hh : (x :: l).head? ≠ some 48 := fun e => by
        unfold shortB at hs
        rw [List.cons_append, List.head?_cons] at hs
        rw [List.head?_cons] at e
        rw [e] at hs
        simp at hs
      have hp := val_pos (x :: l) (List.cons_ne_nil _ _) ha.1 hh
      have ih := ih (List.cons_ne_nil _ _) ha.1 (by unfold shortB; simp at hh ⊢; exact .inr hh)
      rw [Lib.decDigits, dif_neg (by omega), show (10 * valL (x :: l) + (c.toNat - 48)) / 10 = valL (x :: l) by omega, show (10 * valL (x :: l) + (c.toNat - 48)) % 10 = c.toNat - 48 by omega, ih, show 48 + (c.toNat - 48) = c.toNat by omega]
      congr 2
      exact UInt8.toNat_inj.1 (by rw [UInt8.toNat_ofNat']; omega)
theorem num_dec {s : ByteArray} (h : numB s.data.toList = true) : s = decT (valL s.data.toList) := by
  unfold numB at h
  simp only [Bool.and_eq_true, decide_eq_true_eq] at h
  obtain ⟨⟨h1, h2⟩, h3, h4⟩ := h
  unfold decT
  rw [dec_val _ (fun e => by rw [e] at h1; simp at h1) h4 h3]
theorem digits_small (n : Nat) (h : n < 10) : Lib.decDigits n = [UInt8.ofNat (48 + n)] := by rw [Lib.decDigits, dif_pos h]
theorem digits_two (n : Nat) (h : n < 100) (h1 : ¬ n < 10) : Lib.decDigits n = [UInt8.ofNat (48 + n / 10), UInt8.ofNat (48 + n % 10)] := by rw [Lib.decDigits, dif_neg h1, digits_small _ (by omega)]; rfl
theorem num_small (n : Nat) (h : n < 100) : numB (Lib.decDigits n) = true ∧ valL (Lib.decDigits n) = n := by
  by_cases h1 : n < 10
  · rw [digits_small n h1]
    have : ∀ k : Fin 10, numB [UInt8.ofNat (48 + k.val)] = true ∧ valL [UInt8.ofNat (48 + k.val)] = k.val := by decide +kernel
    exact this ⟨n, h1⟩
  · rw [digits_two n h h1]
    have : ∀ k : Fin 100, k.val < 10 ∨ (numB [UInt8.ofNat (48 + k.val / 10), UInt8.ofNat (48 + k.val % 10)] = true ∧ valL [UInt8.ofNat (48 + k.val / 10), UInt8.ofNat (48 + k.val % 10)] = k.val) := by decide +kernel
    exact (this ⟨n, h⟩).resolve_left h1
theorem parse_small (n : Nat) (h : n < 100) : Lib.parseIntB 64 (Lib.decDigits n) = .ok (n : Int) := by
  by_cases h1 : n < 10
  · rw [digits_small n h1]
    have : ∀ k : Fin 10, Lib.parseIntB 64 [UInt8.ofNat (48 + k.val)] = .ok (k.val : Int) := by decide +kernel
    exact this ⟨n, h1⟩
  · rw [digits_two n h h1]
    have : ∀ k : Fin 100, k.val < 10 ∨ Lib.parseIntB 64 [UInt8.ofNat (48 + k.val / 10), UInt8.ofNat (48 + k.val % 10)] = .ok (k.val : Int) := by decide +kernel
    exact (this ⟨n, h⟩).resolve_left h1
theorem val_le : ∀ (l : List UInt8), l.all digB = true → valL l < 10 ^ l.length := by
  refine snocRec ?_ ?_
  · intro _; decide
  · intro l c ih
    intro ha
    rw [List.all_append, Bool.and_eq_true] at ha
    have hc := dig_range (c := c) (by simpa using ha.2)
    have := ih ha.1
    rw [valL_snoc, List.length_append, List.length_singleton, Nat.pow_succ]
    omega
theorem valL_take (l : List UInt8) (k : Nat) (h : k < l.length) : valL (l.take (k + 1)) = 10 * valL (l.take k) + (l[k].toNat - 48) := by rw [List.take_succ_eq_append_getElem h, valL_snoc]
theorem valL_zero : valL [] = 0 := rfl
theorem num_len {l : List UInt8} (h : ¬ (1 ≤ l.length ∧ l.length ≤ 10)) : numB l = false := by
  unfold numB
  cases h2 : (decide (1 ≤ l.length) && decide (l.length ≤ 10)) with
  | false => rfl
  | true => rw [Bool.and_eq_true, decide_eq_true_eq, decide_eq_true_eq] at h2; exact absurd h2 h
theorem num_short {l : List UInt8} (h1 : 1 < l.length) (h : l[0]'(by omega) = 48) : numB l = false := by
  have : shortB l = false := by
    unfold shortB
    cases l with
    | nil => simp at h1
    | cons x l => simp at h h1 ⊢; exact ⟨h1, h⟩
  unfold numB; rw [this, Bool.false_and, Bool.and_false]
theorem num_dig {l : List UInt8} {k : Nat} (h : k < l.length) (hd : digB l[k] = false) : numB l = false := by
  have : l.all digB = false := all_miss _ l k h hd
  unfold numB; rw [this, Bool.and_false, Bool.and_false]
theorem num_yes {l : List UInt8} (h1 : 1 ≤ l.length) (h2 : l.length ≤ 10) (h3 : l.length = 1 ∨ l[0]'(by omega) ≠ 48) (h4 : l.all digB = true) : numB l = true := by
  have : shortB l = true := by
    unfold shortB
    cases l with
    | nil => simp at h1
    | cons x l =>
      simp at h3 ⊢
      rcases h3 with h3 | h3
      · exact .inl h3
      · exact .inr h3
  unfold numB; rw [this, h4, decide_eq_true h1, decide_eq_true h2]; rfl
theorem val_num {l : List UInt8} (h : numB l = true) : valL l < 10000000000 := by
  unfold numB at h
  simp only [Bool.and_eq_true, decide_eq_true_eq] at h
  have h1 := val_le l h.2.2
  have h3 : 10 ^ l.length ≤ 10 ^ 10 := Nat.pow_le_pow_right (by decide) h.1.2
  omega
attribute [irreducible] valL
