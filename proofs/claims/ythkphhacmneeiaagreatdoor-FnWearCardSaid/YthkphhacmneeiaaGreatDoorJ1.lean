/-
  Contracts of WearText.
-/
import Derived.Test.YthkphhacmneeiaaGreatDoorJ0
import Derived.Test.YthkphhacmneeiaaGreatDoorE3
set_option linter.unusedVariables false
set_option linter.unusedSimpArgs false
set_option maxRecDepth 100000
namespace Go.Proofs.YthkphhacmneeiaaGreatDoor
open Go.RowKit
theorem digits_len {n : Nat} (h : n < 100) : (Lib.decDigits n).length ≤ 2 := by
  by_cases h1 : n < 10
  · rw [Lib.decDigits, dif_pos h1]; simp
  · rw [Lib.decDigits, dif_neg h1, Lib.decDigits, dif_pos (by omega)]; simp
theorem decT_len {n : Nat} (h : n < 100) : (decT n).size ≤ 2 := by unfold decT; exact digits_len h
theorem holes_in (m : Mask) : ∀ (k : Nat), ∀ x ∈ holesTo m k, 0 ≤ x ∧ x < k
  | 0, x, hx => by unfold holesTo at hx; cases hx
  | k + 1, x, hx => by
    cases h : mhas m k with
    | true =>
      rw [holesTo_hit m k h, List.mem_append, List.mem_singleton] at hx
      rcases hx with hx | rfl
      · have := holes_in m k x hx; omega
      · omega
    | false =>
      rw [holesTo_miss m k h] at hx
      have := holes_in m k x hx; omega
theorem word_len (f : Mask) {h : Int} (h1 : h < 100) : (wordW f h).size ≤ 4 := by
  unfold wordW
  rw [app_size]
  have h2 : (if mhas f h = true then (⟨#[45]⟩ : ByteArray) else ⟨#[43]⟩).size = 1 := by split <;> rfl
  have := decT_len (n := h.toNat) (by omega)
  omega
theorem joinTail_len (sep : List UInt8) : ∀ (r : List (List UInt8)) (b : Nat), (∀ x ∈ r, x.length ≤ b) → (Lib.joinTail sep r).length ≤ r.length * (sep.length + b)
  | [], b, _ => by simp [Lib.joinTail]
  | x :: r, b, h => by
    have h1 := joinTail_len sep r b (fun y hy => h y (List.mem_cons_of_mem _ hy))
    have h2 := h x (List.mem_cons_self ..)
    unfold Lib.joinTail at *
    rw [List.map_cons, List.flatten_cons, List.length_append, List.length_append, List.length_cons, Nat.add_mul]
    omega
theorem join_len (ws : List (List UInt8)) (sep : List UInt8) (b : Nat) (h : ∀ x ∈ ws, x.length ≤ b) : (Lib.join ws sep).length ≤ ws.length * (sep.length + b) := by
  cases ws with
  | nil => rw [Lib.join_nil]; exact Nat.zero_le _
  | cons x r =>
    have h1 := joinTail_len sep r b (fun y hy => h y (List.mem_cons_of_mem _ hy))
    have h2 := h x (List.mem_cons_self ..)
    rw [Lib.join_cons, List.length_append, List.length_cons, Nat.add_mul]
    omega
theorem words_len (t f : Mask) : (wordsW t f 96).length ≤ 96 := by unfold wordsW; rw [List.length_map]; exact holesTo_len _ 96
theorem words_join (t f : Mask) : (Lib.join ((wordsW t f 96).map (·.data.toList)) [32]).length ≤ 480 := by
  have h1 := words_len t f
  have h2 := join_len ((wordsW t f 96).map (·.data.toList)) [32] 4 (fun x hx => by
    obtain ⟨y, hy, rfl⟩ := List.mem_map.1 hx
    unfold wordsW at hy
    obtain ⟨h, hh, rfl⟩ := List.mem_map.1 hy
    have := holes_in _ 96 h hh
    exact word_len f (by omega))
  rw [List.length_map] at h2
  simp only [List.length_singleton] at h2
  omega
theorem FormatInt_small (i : Nat) (hi : i < 100) (w : World) : Calls Tryz.prog 54 #[.int .i64 i, .int .i64 10] w fun e w' => e = .returned (.string (decT i)) ∧ Ext w w' := by
  unfold decT
  exact (Tryz.strconv_FormatInt_10_small i hi w).mono fun e w' h => ⟨h.1, by rw [h.2]; exact Ext.refl _⟩
theorem strings_Join32 (ws : List ByteArray) (A : Option Addr) (c : Nat) (w : World) (hR : Rd encStr w A ws) (hc : ws.length ≤ c) (hN : ws.length ≤ 1048576) (hl : (Lib.join (ws.map (·.data.toList)) [32]).length ≤ 140737488355328) :
    Calls Tryz.prog 56 #[.slice A ws.length c, .string ⟨#[32]⟩] w fun e w' => e = .returned (.string (joinB ws)) ∧ Ext w w' := by
  unfold joinB
  cases ws with
  | nil => exact (Tryz.strings_Join_none A c ⟨#[32]⟩ w).mono fun e w' h => ⟨h.1, by rw [h.2]; exact Ext.refl _⟩
  | cons x r =>
    obtain ⟨b, o, rfl, hb, _⟩ := hR 0 (Nat.zero_lt_succ _)
    refine (Tryz.strings_Join b o c (x :: r) ⟨#[32]⟩ w (fun j y hj => ?_) hb (by omega) hc hl).mono fun e w' h => ⟨h.1, h.2⟩
    obtain ⟨hj1, hj2⟩ := List.getElem?_eq_some_iff.1 hj
    rw [← hj2]
    exact hR.str j hj1
end Go.Proofs.YthkphhacmneeiaaGreatDoor
