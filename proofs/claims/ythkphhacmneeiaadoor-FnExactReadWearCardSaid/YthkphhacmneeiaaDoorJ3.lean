/-
  Numbers read from texts: data; contracts of the reference's l01Number and the program's readNumber.
-/
import Derived.Test.YthkphhacmneeiaaDoorJ2
import Derived.Test.YthkphhacmneeiaaDoorE27
import Derived.Lib.ParseIntBCases
import Derived.Lib.ParseIntBTie
import Derived.Lib.SmallJoins
set_option linter.unusedVariables false
set_option linter.unusedSimpArgs false
set_option maxRecDepth 100000
namespace Go.Proofs.YthkphhacmneeiaaDoor
open Go.RowKit
theorem snocRec {α : Type} {p : List α → Prop} (h0 : p []) (h1 : ∀ l c, p l → p (l ++ [c])) (l : List α) : p l := by
  rw [← List.reverse_reverse l]
  induction l.reverse with
  | nil => exact h0
  | cons c r ih => rw [List.reverse_cons]; exact h1 _ _ ih
def digB (c : UInt8) : Bool := decide (48 ≤ c.toNat) && decide (c.toNat ≤ 57)
/-- The value of a row of digits. -/
def valL (l : List UInt8) : Nat := l.foldl (fun a c => 10 * a + (c.toNat - 48)) 0
theorem valL_snoc (l : List UInt8) (c : UInt8) : valL (l ++ [c]) = 10 * valL l + (c.toNat - 48) := by unfold valL; rw [List.foldl_append]; rfl
/-- A row of digits is the shortest one of its number. -/
def shortB (l : List UInt8) : Bool := !(decide (1 < l.length) && (l.head? == some 48))
def numB (l : List UInt8) : Bool := (decide (1 ≤ l.length) && decide (l.length ≤ 10)) && (shortB l && l.all digB)
theorem dig_range {c : UInt8} (h : digB c = true) : 48 ≤ c.toNat ∧ c.toNat ≤ 57 := by unfold digB at h; simpa using h
theorem val_pos : ∀ (l : List UInt8), l ≠ [] → l.all digB = true → l.head? ≠ some 48 → 1 ≤ valL l := by
  refine snocRec ?_ ?_
  · intro h; exact absurd rfl h
  · intro l c ih
    intro _ ha hh
    rw [List.all_append, Bool.and_eq_true] at ha
    rw [valL_snoc]
    cases l with
    | nil =>
      have hc := dig_range (c := c) (by simpa using ha.2)
      have : c.toNat ≠ 48 := fun e => hh (by rw [List.nil_append, List.head?_cons]; congr 1; exact UInt8.toNat_inj.1 e)
      show 1 ≤ 10 * 0 + _
      omega
    | cons x l =>
      have := ih (List.cons_ne_nil _ _) ha.1 (by simpa using hh)
      omega
theorem dec_val : ∀ (l : List UInt8), l ≠ [] → l.all digB = true → shortB l = true → Lib.decDigits (valL l) = l := by
  refine snocRec ?_ ?_
  · intro h; exact absurd rfl h
  · intro l c ih
    intro _ ha hs
    rw [List.all_append, Bool.and_eq_true] at ha
    have hc := dig_range (c := c) (by simpa using ha.2)
    rw [valL_snoc]
    cases l with
    | nil =>
      have e : 10 * valL [] + (c.toNat - 48) = c.toNat - 48 := by show 10 * 0 + _ = _; omega
      rw [e, Lib.decDigits, dif_pos (by omega), List.nil_append, show 48 + (c.toNat - 48) = c.toNat by omega]
      congr 1
      exact UInt8.toNat_inj.1 (by rw [UInt8.toNat_ofNat']; omega)
    | cons x l =>
      have hh : (x :: l).head? ≠ some 48 := fun e => by
        unfold shortB at hs
        rw [List.cons_append, List.head?_cons] at hs
        rw [List.head?_cons] at e
        rw [e] at hs
        simp at hs
      have hp := val_pos (x :: l) (List.cons_ne_nil _ _) ha.1 hh
      have ih := ih (List.cons_ne_nil _ _) ha.1 (by unfold shortB; simp at hh ⊢; exact .inr hh)
      rw [Lib.decDigits, dif_neg (by omega), show (10 * valL (x :: l) + (c.toNat - 48)) / 10 = valL (x :: l) by omega, show (10 * valL (x :: l) + (c.toNat - 48)) % 10 = c.toNat - 48 by omega, ih, show 48 + (c.toNat - 48) = c.toNat by omega]
      congr 2
      exact UInt8.toNat_inj.1 (by rw [UInt8.toNat_ofNat']; omega)
theorem num_dec {s : ByteArray} (h : numB s.data.toList = true) : s = decT (valL s.data.toList) := by
  unfold numB at h
  simp only [Bool.and_eq_true, decide_eq_true_eq] at h
  obtain ⟨⟨h1, h2⟩, h3, h4⟩ := h
  unfold decT
  rw [dec_val _ (fun e => by rw [e] at h1; simp at h1) h4 h3]
theorem digits_small (n : Nat) (h : n < 10) : Lib.decDigits n = [UInt8.ofNat (48 + n)] := by rw [Lib.decDigits, dif_pos h]
theorem digits_two (n : Nat) (h : n < 100) (h1 : ¬ n < 10) : Lib.decDigits n = [UInt8.ofNat (48 + n / 10), UInt8.ofNat (48 + n % 10)] := by rw [Lib.decDigits, dif_neg h1, digits_small _ (by omega)]; rfl
theorem num_small (n : Nat) (h : n < 100) : numB (Lib.decDigits n) = true ∧ valL (Lib.decDigits n) = n := by
  by_cases h1 : n < 10
  · rw [digits_small n h1]
    have : ∀ k : Fin 10, numB [UInt8.ofNat (48 + k.val)] = true ∧ valL [UInt8.ofNat (48 + k.val)] = k.val := by decide +kernel
    exact this ⟨n, h1⟩
  · rw [digits_two n h h1]
    have : ∀ k : Fin 100, k.val < 10 ∨ (numB [UInt8.ofNat (48 + k.val / 10), UInt8.ofNat (48 + k.val % 10)] = true ∧ valL [UInt8.ofNat (48 + k.val / 10), UInt8.ofNat (48 + k.val % 10)] = k.val) := by decide +kernel
    exact (this ⟨n, h⟩).resolve_left h1
theorem parse_small (n : Nat) (h : n < 100) : Lib.parseIntB 64 (Lib.decDigits n) = .ok (n : Int) := by
  by_cases h1 : n < 10
  · rw [digits_small n h1]
    have : ∀ k : Fin 10, Lib.parseIntB 64 [UInt8.ofNat (48 + k.val)] = .ok (k.val : Int) := by decide +kernel
    exact this ⟨n, h1⟩
  · rw [digits_two n h h1]
    have : ∀ k : Fin 100, k.val < 10 ∨ Lib.parseIntB 64 [UInt8.ofNat (48 + k.val / 10), UInt8.ofNat (48 + k.val % 10)] = .ok (k.val : Int) := by decide +kernel
    exact (this ⟨n, h⟩).resolve_left h1
theorem val_le : ∀ (l : List UInt8), l.all digB = true → valL l < 10 ^ l.length := by
  refine snocRec ?_ ?_
  · intro _; decide
  · intro l c ih
    intro ha
    rw [List.all_append, Bool.and_eq_true] at ha
    have hc := dig_range (c := c) (by simpa using ha.2)
    have := ih ha.1
    rw [valL_snoc, List.length_append, List.length_singleton, Nat.pow_succ]
    omega
theorem valL_take (l : List UInt8) (k : Nat) (h : k < l.length) : valL (l.take (k + 1)) = 10 * valL (l.take k) + (l[k].toNat - 48) := by rw [List.take_succ_eq_append_getElem h, valL_snoc]
theorem valL_zero : valL [] = 0 := rfl
theorem num_len {l : List UInt8} (h : ¬ (1 ≤ l.length ∧ l.length ≤ 10)) : numB l = false := by
  unfold numB
  cases h2 : (decide (1 ≤ l.length) && decide (l.length ≤ 10)) with
  | false => rfl
  | true => rw [Bool.and_eq_true, decide_eq_true_eq, decide_eq_true_eq] at h2; exact absurd h2 h
theorem num_short {l : List UInt8} (h1 : 1 < l.length) (h : l[0]'(by omega) = 48) : numB l = false := by
  have : shortB l = false := by
    unfold shortB
    cases l with
    | nil => simp at h1
    | cons x l => simp at h h1 ⊢; exact ⟨h1, h⟩
  unfold numB; rw [this, Bool.false_and, Bool.and_false]
theorem num_dig {l : List UInt8} {k : Nat} (h : k < l.length) (hd : digB l[k] = false) : numB l = false := by
  have : l.all digB = false := all_miss _ l k h hd
  unfold numB; rw [this, Bool.and_false, Bool.and_false]
theorem num_yes {l : List UInt8} (h1 : 1 ≤ l.length) (h2 : l.length ≤ 10) (h3 : l.length = 1 ∨ l[0]'(by omega) ≠ 48) (h4 : l.all digB = true) : numB l = true := by
  have : shortB l = true := by
    unfold shortB
    cases l with
    | nil => simp at h1
    | cons x l =>
      simp at h3 ⊢
      rcases h3 with h3 | h3
      · exact .inl h3
      · exact .inr h3
  unfold numB; rw [this, h4, decide_eq_true h1, decide_eq_true h2]; rfl
theorem val_num {l : List UInt8} (h : numB l = true) : valL l < 10000000000 := by
  unfold numB at h
  simp only [Bool.and_eq_true, decide_eq_true_eq] at h
  have h1 := val_le l h.2.2
  have h3 : 10 ^ l.length ≤ 10 ^ 10 := Nat.pow_le_pow_right (by decide) h.1.2
  omega
attribute [irreducible] valL
set_option maxHeartbeats 1000000 in
theorem spec_l01Number (s : ByteArray) (w : World) :
    Calls Tryd.prog 17 #[.string s] w fun e w' => ∃ n : Int, e = .returned (.tuple #[.int .i64 n, .bool (numB s.data.toList)]) ∧ (numB s.data.toList = true → n = valL s.data.toList) ∧ Ext w w' := by
  have hlen : s.data.toList.length = s.size := rfl
  by_cases h0 : s.size = 0
  · obtain rfl : s = ⟨#[]⟩ := size_zero h0
    go_enter Tryd.func17, Tryd.ntmps17
    go_wp2
    refine bodyPost_ret (v := .tuple #[.int .i64 0, .bool false]) (by simp [results, Tryd.results17, go_sem]) rfl ⟨0, rfl, fun h => absurd h (by decide), Ext.refl _⟩
  have hq : s.toList.isEmpty = false := by
    rw [Lib.toList_data, List.isEmpty_eq_false_iff]
    intro h
    exact h0 (by show s.data.toList.length = 0; rw [h]; rfl)
  by_cases h10 : 10 < s.size
  · have hv := hd (num_len (l := s.data.toList) (by rw [hlen]; omega))
    have i1 : (10 : Int) < s.size := by omega
    go_enter Tryd.func17, Tryd.ntmps17
    go_wp2
    refine bodyPost_ret (v := .tuple #[.int .i64 0, .bool false]) (by simp [results, Tryd.results17, go_sem]) rfl ⟨0, by rw [hv.out], fun h => absurd (hv.out.symm.trans h) (by decide), Ext.refl _⟩
  have i1 : ((10 : Int) < s.size) = False := eq_false (by omega)
  have hs0 : 0 < s.size := by omega
  have hge : s[0] = s.data.toList[0]'(by rw [hlen]; exact hs0) := rfl
  by_cases h48 : s[0].toNat = 48 ∧ 1 < s.size
  · have hv := hd (num_short (l := s.data.toList) (by rw [hlen]; exact h48.2) (UInt8.toNat_inj.1 (by rw [← hge]; exact h48.1)))
    have i2 : ((s.data[0]'hs0).toNat : Int) = 48 := by have : s[0].toNat = 48 := h48.1; have e : s.data[0]'hs0 = s[0] := rfl; rw [e]; omega
    have i3 : (1 : Int) < s.size := by have := h48.2; omega
    clear h48 hge
    go_enter Tryd.func17, Tryd.ntmps17
    go_wp2
    refine bodyPost_ret (v := .tuple #[.int .i64 0, .bool false]) (by simp [results, Tryd.results17, go_sem]) rfl ⟨0, by rw [hv.out], fun h => absurd (hv.out.symm.trans h) (by decide), Ext.refl _⟩
  have hsh : s.data.toList.length = 1 ∨ s.data.toList[0]'(by rw [hlen]; exact hs0) ≠ 48 := by
    by_cases e : s[0].toNat = 48
    · exact .inl (by rw [hlen]; have := fun h => h48 ⟨e, h⟩; omega)
    · exact .inr (fun h => e (by rw [hge, h]; rfl))
  have hyes := fun h => hd (num_yes (l := s.data.toList) (by rw [hlen]; omega) (by rw [hlen]; omega) hsh h)
  have hdig := fun k h e => hd (num_dig (l := s.data.toList) (k := k) h e)
  have hvt := fun k h => hd (valL_take s.data.toList k h)
  have hvl := hd (fun k => val_le (s.data.toList.take k))
  have hat := hd (fun k h => all_take digB s.data.toList k h)
  have hget : ∀ k (h : k < s.size), s[k] = s.data.toList[k]'(by rw [hlen]; exact h) := fun k h => rfl
  have hcase : (s[0].toNat = 48 ∧ ¬ (1 : Int) < s.size) ∨ ¬ s[0].toNat = 48 := by
    by_cases e : s[0].toNat = 48
    · exact .inl ⟨e, by have := fun h => h48 ⟨e, h⟩; omega⟩
    · exact .inr e
  clear h48 hsh hge
  rcases hcase with ⟨i2, i3⟩ | i2
  · replace i2 : ((s.data[0]'hs0).toNat : Int) = 48 := by have e : s.data[0]'hs0 = s[0] := rfl; rw [e]; omega
    have i5 : decide ((1 : Int) < s.size) = false := decide_eq_false i3
    have i6 : (1 < s.size) = False := eq_false (by omega)
    replace i3 : ((1 : Int) < s.size) = False := eq_false i3
    go_enter Tryd.func17, Tryd.ntmps17
    go_wp2
    go_loopg [4, 5] s.size (fun g nv iv wr => ∃ k c : Nat, g = s.size - k ∧ k ≤ s.size ∧ iv = .int .i64 k ∧ nv = .int .i64 c ∧ Hd (c = valL (s.data.toList.take k)) ∧ Hd ((s.data.toList.take k).all digB = true) ∧ Ext w wr)
    case atStart => exact ⟨0, 0, by omega, by omega, rfl, rfl, hd (by rw [List.take_zero, valL_zero]), hd rfl, Ext.refl _⟩
    case round =>
      obtain ⟨k, c, hg, hk, rfl, rfl, hc, ha, hw⟩ := hrel
      clear i2 i3 i5 i6
      by_cases hkl : k < s.size
      · have hkk : k < s.data.toList.length := by rw [hlen]; exact hkl
        have hge := hget k hkl
        have hdg := hdig k hkk
        have hvk := hvt k hkk
        have hak := hd (hat.out k hkk)
        rw [← hge] at hdg
        have hcl : c < 10000000000 := by
          have h1 := hvl.out k ha.out
          have h2 : (s.data.toList.take k).length ≤ 10 := by rw [List.length_take]; omega
          have h3 : 10 ^ (s.data.toList.take k).length ≤ 10 ^ 10 := Nat.pow_le_pow_right (by decide) h2
          rw [hc.out]
          omega
        have i4 : (k : Int) < s.size := by omega
        have hdd : digB s[k] = (decide (48 ≤ s[k].toNat) && decide (s[k].toNat ≤ 57)) := rfl
        replace hvk : Hd (valL (s.data.toList.take (k + 1)) = 10 * valL (s.data.toList.take k) + (s[k].toNat - 48)) := hvk
        replace hak : Hd ((s.data.toList.take (k + 1)).all digB = ((s.data.toList.take k).all digB && digB s[k])) := hak
        clear hge hget hdig hvt hvl hat hyes
        generalize hx : s[k] = x at hdg hdd hvk hak
        have hlt := x.toNat_lt
        by_cases q1 : x.toNat < 48
        · have hv := hdg (by rw [hdd, decide_eq_false (by omega)]; rfl)
          have q2 : (s[k].toNat : Int) < 48 := by rw [hx]; omega
          have q3 : s[k].toNat < 48 := by rw [hx]; exact q1
          clear hdg hdd hvk hak hc ha hx
          go_wp2
          refine bodyPost_ret (v := .tuple #[.int .i64 0, .bool false]) (by simp [results, Tryd.results17, go_sem]) rfl ⟨0, by rw [hv.out], fun h => absurd (hv.out.symm.trans h) (by decide), hw⟩
        · by_cases q4 : 57 < x.toNat
          · have hv := hdg (by rw [hdd, decide_eq_false (by omega : ¬ x.toNat ≤ 57), Bool.and_false])
            have q2 : ((s[k].toNat : Int) < 48) = False := eq_false (by rw [hx]; omega)
            have q3 : (s[k].toNat < 48) = False := eq_false (by rw [hx]; omega)
            have q5 : (57 : Int) < s[k].toNat := by rw [hx]; omega
            have q6 : 57 < s[k].toNat := by rw [hx]; omega
            clear hdg hdd hvk hak hc ha hx
            go_wp2
            refine bodyPost_ret (v := .tuple #[.int .i64 0, .bool false]) (by simp [results, Tryd.results17, go_sem]) rfl ⟨0, by rw [hv.out], fun h => absurd (hv.out.symm.trans h) (by decide), hw⟩
          · have q2 : ((s[k].toNat : Int) < 48) = False := eq_false (by rw [hx]; omega)
            have q3 : (s[k].toNat < 48) = False := eq_false (by rw [hx]; omega)
            have q5 : ((57 : Int) < s[k].toNat) = False := eq_false (by rw [hx]; omega)
            have q6 : (57 < s[k].toNat) = False := eq_false (by rw [hx]; omega)
            obtain ⟨d, hd0⟩ : ∃ d : Nat, x.toNat - 48 = d := ⟨_, rfl⟩
            have e1 : IntKind.u8.wrap ((s[k].toNat : Int) - 48) = (d : Int) := by rw [hx]; exact (IntWalk.u8_in _ (by omega)).trans (by omega)
            have e2 : IntKind.i64.wrap (10 * (c : Int)) = 10 * (c : Int) := IntWalk.i64_in _ (by omega)
            have e3 : IntKind.i64.wrap (10 * (c : Int) + d) = 10 * (c : Int) + d := IntWalk.i64_in _ (by omega)
            have e4 : IntKind.i64.wrap (d : Int) = (d : Int) := IntWalk.i64_in _ (by omega)
            have hc2 : Hd (10 * c + d = valL (s.data.toList.take (k + 1))) := hd (by rw [hvk.out, ← hc.out, hd0])
            have ha2 : Hd ((s.data.toList.take (k + 1)).all digB = true) := hd (by rw [hak.out, ha.out, hdd, decide_eq_true (by omega), decide_eq_true (by omega)]; rfl)
            clear hdg hdd hvk hak hc ha hx hd0
            go_wp2
            go_roundg (s.size - (k + 1))
            case rel => exact ⟨k + 1, 10 * c + d, rfl, hkl, by simp, by first | rfl | simp | (congr 1; omega), hc2, ha2, hw⟩
            case measure => omega
      · obtain rfl : k = s.size := by omega
        have hfull : s.data.toList.take s.size = s.data.toList := by rw [← hlen]; exact List.take_length
        have hv := hyes (by rw [← hfull]; exact ha.out)
        have hc2 := hc.out
        rw [hfull] at hc2
        replace hc2 := hd hc2
        clear hfull hc ha hyes hdig hvt hvl hat hget
        go_wp2
        refine bodyPost_ret (v := .tuple #[.int .i64 c, .bool true]) (by simp [results, Tryd.results17, go_sem]) rfl ⟨c, by rw [hv.out], fun _ => by rw [hc2.out], hw⟩
  · have e : s.data[0]'hs0 = s[0] := rfl
    have i3 : (((s.data[0]'hs0).toNat : Int) = 48) = False := eq_false (by rw [e]; omega)
    have i5 : (((s.data[0]'hs0).toNat : Int) == 48) = false := by rw [beq_eq_false_iff_ne]; exact of_eq_false i3
    have i6 : ((s.data[0]'hs0).toNat == 48) = false := by rw [beq_eq_false_iff_ne, e]; exact i2
    clear e i2
    have i2 : True := trivial
    go_enter Tryd.func17, Tryd.ntmps17
    go_wp2
    go_loopg [4, 5] s.size (fun g nv iv wr => ∃ k c : Nat, g = s.size - k ∧ k ≤ s.size ∧ iv = .int .i64 k ∧ nv = .int .i64 c ∧ Hd (c = valL (s.data.toList.take k)) ∧ Hd ((s.data.toList.take k).all digB = true) ∧ Ext w wr)
    case atStart => exact ⟨0, 0, by omega, by omega, rfl, rfl, hd (by rw [List.take_zero, valL_zero]), hd rfl, Ext.refl _⟩
    case round =>
      obtain ⟨k, c, hg, hk, rfl, rfl, hc, ha, hw⟩ := hrel
      clear i2 i3 i5 i6
      by_cases hkl : k < s.size
      · have hkk : k < s.data.toList.length := by rw [hlen]; exact hkl
        have hge := hget k hkl
        have hdg := hdig k hkk
        have hvk := hvt k hkk
        have hak := hd (hat.out k hkk)
        rw [← hge] at hdg
        have hcl : c < 10000000000 := by
          have h1 := hvl.out k ha.out
          have h2 : (s.data.toList.take k).length ≤ 10 := by rw [List.length_take]; omega
          have h3 : 10 ^ (s.data.toList.take k).length ≤ 10 ^ 10 := Nat.pow_le_pow_right (by decide) h2
          rw [hc.out]
          omega
        have i4 : (k : Int) < s.size := by omega
        have hdd : digB s[k] = (decide (48 ≤ s[k].toNat) && decide (s[k].toNat ≤ 57)) := rfl
        replace hvk : Hd (valL (s.data.toList.take (k + 1)) = 10 * valL (s.data.toList.take k) + (s[k].toNat - 48)) := hvk
        replace hak : Hd ((s.data.toList.take (k + 1)).all digB = ((s.data.toList.take k).all digB && digB s[k])) := hak
        clear hge hget hdig hvt hvl hat hyes
        generalize hx : s[k] = x at hdg hdd hvk hak
        have hlt := x.toNat_lt
        by_cases q1 : x.toNat < 48
        · have hv := hdg (by rw [hdd, decide_eq_false (by omega)]; rfl)
          have q2 : (s[k].toNat : Int) < 48 := by rw [hx]; omega
          have q3 : s[k].toNat < 48 := by rw [hx]; exact q1
          clear hdg hdd hvk hak hc ha hx
          go_wp2
          refine bodyPost_ret (v := .tuple #[.int .i64 0, .bool false]) (by simp [results, Tryd.results17, go_sem]) rfl ⟨0, by rw [hv.out], fun h => absurd (hv.out.symm.trans h) (by decide), hw⟩
        · by_cases q4 : 57 < x.toNat
          · have hv := hdg (by rw [hdd, decide_eq_false (by omega : ¬ x.toNat ≤ 57), Bool.and_false])
            have q2 : ((s[k].toNat : Int) < 48) = False := eq_false (by rw [hx]; omega)
            have q3 : (s[k].toNat < 48) = False := eq_false (by rw [hx]; omega)
            have q5 : (57 : Int) < s[k].toNat := by rw [hx]; omega
            have q6 : 57 < s[k].toNat := by rw [hx]; omega
            clear hdg hdd hvk hak hc ha hx
            go_wp2
            refine bodyPost_ret (v := .tuple #[.int .i64 0, .bool false]) (by simp [results, Tryd.results17, go_sem]) rfl ⟨0, by rw [hv.out], fun h => absurd (hv.out.symm.trans h) (by decide), hw⟩
          · have q2 : ((s[k].toNat : Int) < 48) = False := eq_false (by rw [hx]; omega)
            have q3 : (s[k].toNat < 48) = False := eq_false (by rw [hx]; omega)
            have q5 : ((57 : Int) < s[k].toNat) = False := eq_false (by rw [hx]; omega)
            have q6 : (57 < s[k].toNat) = False := eq_false (by rw [hx]; omega)
            obtain ⟨d, hd0⟩ : ∃ d : Nat, x.toNat - 48 = d := ⟨_, rfl⟩
            have e1 : IntKind.u8.wrap ((s[k].toNat : Int) - 48) = (d : Int) := by rw [hx]; exact (IntWalk.u8_in _ (by omega)).trans (by omega)
            have e2 : IntKind.i64.wrap (10 * (c : Int)) = 10 * (c : Int) := IntWalk.i64_in _ (by omega)
            have e3 : IntKind.i64.wrap (10 * (c : Int) + d) = 10 * (c : Int) + d := IntWalk.i64_in _ (by omega)
            have e4 : IntKind.i64.wrap (d : Int) = (d : Int) := IntWalk.i64_in _ (by omega)
            have hc2 : Hd (10 * c + d = valL (s.data.toList.take (k + 1))) := hd (by rw [hvk.out, ← hc.out, hd0])
            have ha2 : Hd ((s.data.toList.take (k + 1)).all digB = true) := hd (by rw [hak.out, ha.out, hdd, decide_eq_true (by omega), decide_eq_true (by omega)]; rfl)
            clear hdg hdd hvk hak hc ha hx hd0
            go_wp2
            go_roundg (s.size - (k + 1))
            case rel => exact ⟨k + 1, 10 * c + d, rfl, hkl, by simp, by first | rfl | simp | (congr 1; omega), hc2, ha2, hw⟩
            case measure => omega
      · obtain rfl : k = s.size := by omega
        have hfull : s.data.toList.take s.size = s.data.toList := by rw [← hlen]; exact List.take_length
        have hv := hyes (by rw [← hfull]; exact ha.out)
        have hc2 := hc.out
        rw [hfull] at hc2
        replace hc2 := hd hc2
        clear hfull hc ha hyes hdig hvt hvl hat hget
        go_wp2
        refine bodyPost_ret (v := .tuple #[.int .i64 c, .bool true]) (by simp [results, Tryd.results17, go_sem]) rfl ⟨c, by rw [hv.out], fun _ => by rw [hc2.out], hw⟩
end Go.Proofs.YthkphhacmneeiaaDoor
