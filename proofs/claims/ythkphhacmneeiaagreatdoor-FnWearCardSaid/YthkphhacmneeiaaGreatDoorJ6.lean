/-
  Reading wear from its text: texts and words.
-/
import Derived.Test.YthkphhacmneeiaaGreatDoorJ5
set_option linter.unusedVariables false
set_option linter.unusedSimpArgs false
set_option maxRecDepth 100000
namespace Go.Proofs.YthkphhacmneeiaaGreatDoor
open Go.RowKit
theorem digits_all (n : Nat) : ∀ c ∈ Lib.decDigits n, 48 ≤ c.toNat ∧ c.toNat ≤ 57 := by
  induction n using Nat.strongRecOn with
  | _ n ih =>
    intro c hc
    by_cases h : n < 10
    · rw [Lib.decDigits, dif_pos h, List.mem_singleton] at hc
      rw [hc, UInt8.toNat_ofNat']; omega
    · rw [Lib.decDigits, dif_neg h, List.mem_append, List.mem_singleton] at hc
      rcases hc with hc | hc
      · exact ih (n / 10) (by omega) c hc
      · rw [hc, UInt8.toNat_ofNat']; omega
theorem decT_data (n : Nat) : (decT n).data.toList = Lib.decDigits n := by unfold decT; rw [List.toList_toArray]
theorem decT_clean (n : Nat) : hasC 32 (decT n) = false := by
  unfold hasC
  rw [decT_data, List.any_eq_false]
  intro c hc e
  have := digits_all n c hc
  rw [beq_iff_eq] at e
  rw [e] at this
  exact absurd this.1 (by decide)
theorem wd_clean (p : Nat × Bool) : hasC 32 (wd p) = false := by
  unfold wd
  rw [hasC_app, decT_clean, Bool.or_false]
  cases p.2 <;> rfl
theorem joinB_cons2 (y z : ByteArray) (r : List ByteArray) : joinB (y :: z :: r) = y ++ (⟨#[32]⟩ ++ joinB (z :: r)) := by
  unfold joinB
  rw [List.map_cons, List.map_cons, Lib.join_cons, Lib.join_cons]
  unfold Lib.joinTail
  rw [List.map_cons, List.flatten_cons, List.append_assoc, mk_app, mk_app [32]]
theorem split_join : ∀ (ws : List ByteArray), ws ≠ [] → (∀ x ∈ ws, hasC 32 x = false) → splitC 32 (joinB ws) = ws
  | [], h, _ => absurd rfl h
  | [y], _, h => by rw [joinB_one]; exact splitC_none (h y (List.mem_cons_self ..))
  | y :: z :: r, _, h => by
    rw [joinB_cons2, splitC_app (h y (List.mem_cons_self ..)), split_join (z :: r) (List.cons_ne_nil _ _) (fun x hx => h x (List.mem_cons_of_mem _ hx))]
theorem part_at {c : UInt8} : ∀ (l : List UInt8), l.any (· == c) = true → ∃ a t, l = a ++ (c :: t) ∧ a.any (· == c) = false
  | [], h => by simp at h
  | x :: l, h => by
    by_cases e : x = c
    · exact ⟨[], l, by rw [e]; rfl, rfl⟩
    · rw [List.any_cons, Bool.or_eq_true] at h
      obtain ⟨a, t, h1, h2⟩ := part_at l (h.resolve_left (fun h => e (by simpa using h)))
      exact ⟨x :: a, t, by rw [h1]; rfl, by rw [List.any_cons, h2, Bool.or_false]; simpa using e⟩
theorem split_ne (s : ByteArray) : splitC 32 s ≠ [] := fun e => by
  have := splitC_len s 32
  rw [e] at this
  simp at this
theorem join_split : ∀ (n : Nat) (s : ByteArray), s.size ≤ n → joinB (splitC 32 s) = s := by
  intro n
  induction n with
  | zero =>
    intro s hs
    obtain rfl : s = ⟨#[]⟩ := size_zero (by omega)
    rw [splitC_none (by rfl), joinB_one]
  | succ n ih =>
    intro s hs
    cases h : hasC 32 s with
    | false => rw [splitC_none h, joinB_one]
    | true =>
      obtain ⟨a, t, e, ha⟩ := part_at s.data.toList h
      have hs2 : s = ⟨a.toArray⟩ ++ (⟨#[32]⟩ ++ ⟨t.toArray⟩) := by
        rw [← mk_app [32], ← mk_app]
        show s = ⟨(a ++ (32 :: t)).toArray⟩
        rw [← e, Array.toArray_toList]
      have hsz : t.length + 1 ≤ s.size := by
        have : s.data.toList.length = s.size := rfl
        rw [e, List.length_append, List.length_cons] at this
        omega
      rw [hs2, splitC_app (by unfold hasC; rw [List.toList_toArray]; exact ha)]
      have ih := ih ⟨t.toArray⟩ (by show t.toArray.size ≤ n; rw [List.size_toArray]; omega)
      cases hq : splitC 32 (⟨t.toArray⟩ : ByteArray) with
      | nil => exact absurd hq (split_ne _)
      | cons z r => rw [joinB_cons2, ← hq, ih]
/-- The wear (t, f) is valid and has this text. -/
def good (s : ByteArray) (t f : Mask) : Prop := isWearB t f = true ∧ wearT t f = s
theorem wear_join (t f : Mask) : wearT t f = joinB ((prs t f 96).map wd) := by rw [← words_prs]; rfl
theorem wd_size (p : Nat × Bool) : 2 ≤ (wd p).size := by
  unfold wd
  rw [app_size]
  have h1 : (if p.2 = true then (⟨#[45]⟩ : ByteArray) else ⟨#[43]⟩).size = 1 := by split <;> rfl
  have h2 : 1 ≤ (decT p.1).size := by
    show 1 ≤ (decT p.1).data.toList.length
    rw [decT_data, Lib.decDigits]
    split <;> simp
  omega
theorem good_words {s : ByteArray} {t f : Mask} (h : good s t f) (hs : s.size ≠ 0) : splitC 32 s = (prs t f 96).map wd := by
  rw [← h.2, wear_join]
  refine split_join _ (fun e => hs ?_) (fun x hx => ?_)
  · rw [← h.2, wear_join, e]; unfold joinB; rfl
  · obtain ⟨p, _, rfl⟩ := List.mem_map.1 hx; exact wd_clean p
theorem good_zero {s : ByteArray} {t f : Mask} (h : good s t f) (hs : s.size = 0) : t = 0 ∧ f = 0 := by
  have e : prs t f 96 = [] := by
    cases hq : prs t f 96 with
    | nil => rfl
    | cons p r =>
      have h2 := joinB_size (ws := (prs t f 96).map wd) (by rw [hq]; exact List.cons_ne_nil _ _) (fun x hx => by obtain ⟨p, _, rfl⟩ := List.mem_map.1 hx; have := wd_size p; omega)
      rw [← wear_join, h.2] at h2
      exact absurd hs h2
  exact ⟨by rw [← tP_prs h.1, e]; rfl, by rw [← fP_prs h.1, e]; rfl⟩
theorem good_empty {s : ByteArray} (hs : s.size = 0) : good s 0 0 := by
  have e : prs 0 0 96 = [] := by
    have := prs_of inc_nil
    exact this
  exact ⟨by decide +kernel, by rw [wear_join, e, size_zero hs]; unfold joinB; rfl⟩
theorem good_of {s : ByteArray} {ps : List (Nat × Bool)} (hi : Inc ps) (h : splitC 32 s = ps.map wd) : good s (tP ps) (fP ps) :=
  ⟨inc_wear hi, by rw [wear_join, prs_of hi, ← h]; exact join_split _ s (Nat.le_refl _)⟩
theorem wd_data (p : Nat × Bool) : (wd p).data.toList = (if p.2 = true then 45 else 43) :: Lib.decDigits p.1 := by
  unfold wd
  rw [app_data, decT_data]
  cases p.2 <;> rfl
theorem wd_inj {p q : Nat × Bool} (h : wd p = wd q) (hp : p.1 < 100) (hq : q.1 < 100) : p = q := by
  have e := congrArg (fun s : ByteArray => s.data.toList) h
  simp only [wd_data, List.cons.injEq] at e
  have e1 : p.1 = q.1 := by rw [← (num_small p.1 hp).2, ← (num_small q.1 hq).2, e.2]
  have e2 : p.2 = q.2 := by
    have := e.1
    cases h1 : p.2 <;> cases h2 : q.2 <;> rw [h1, h2] at this <;> first | rfl | exact absurd this (by decide)
  exact Prod.ext e1 e2
theorem map_inj : ∀ (a b : List (Nat × Bool)), (∀ p ∈ a, p.1 < 96) → (∀ p ∈ b, p.1 < 96) → a.map wd = b.map wd → a = b
  | [], [], _, _, _ => rfl
  | [], y :: b, _, _, h => by cases h
  | x :: a, [], _, _, h => by cases h
  | x :: a, y :: b, ha, hb, h => by
    rw [List.map_cons, List.map_cons, List.cons.injEq] at h
    have h1 := ha x (List.mem_cons_self ..)
    have h2 := hb y (List.mem_cons_self ..)
    rw [wd_inj h.1 (by omega) (by omega), map_inj a b (fun p hp => ha p (List.mem_cons_of_mem _ hp)) (fun p hp => hb p (List.mem_cons_of_mem _ hp)) h.2]
theorem good_uniq {s : ByteArray} {t f t' f' : Mask} (h : good s t f) (h' : good s t' f') : t = t' ∧ f = f' := by
  by_cases hs : s.size = 0
  · obtain ⟨rfl, rfl⟩ := good_zero h hs
    obtain ⟨rfl, rfl⟩ := good_zero h' hs
    exact ⟨rfl, rfl⟩
  · have e := map_inj _ _ (inc_prs t f).2 (inc_prs t' f').2 ((good_words h hs).symm.trans (good_words h' hs))
    exact ⟨by rw [← tP_prs h.1, e, tP_prs h'.1], by rw [← fP_prs h.1, e, fP_prs h'.1]⟩
/-- What reading a text answers. -/
def RW (s : ByteArray) (t f : Mask) (c : Int) : Prop := (c = 0 ∧ good s t f) ∨ (c = 5 ∧ t = 0 ∧ f = 0 ∧ ∀ t' f', ¬ good s t' f')
theorem RW.uniq {s : ByteArray} {t f t' f' : Mask} {c c' : Int} (h : RW s t f c) (h' : RW s t' f' c') : t = t' ∧ f = f' ∧ c = c' := by
  rcases h with ⟨rfl, h⟩ | ⟨rfl, rfl, rfl, h⟩
  · rcases h' with ⟨rfl, h'⟩ | ⟨_, _, _, h'⟩
    · obtain ⟨rfl, rfl⟩ := good_uniq h h'; exact ⟨rfl, rfl, rfl⟩
    · exact absurd h (h' t f)
  · rcases h' with ⟨rfl, h'⟩ | ⟨rfl, rfl, rfl, _⟩
    · exact absurd h' (h t' f')
    · exact ⟨rfl, rfl, rfl⟩
/-- A word parted into its first byte and the rest. -/
theorem first_rest {x : ByteArray} (h : 1 ≤ x.size) : x.data.toList = x[0] :: (x.extract 1 x.size).data.toList := by
  have hl : x.data.toList.length = x.size := rfl
  have e : (x.extract 1 x.size).data.toList = x.data.toList.drop 1 := by
    rw [extr_data]
    exact List.take_of_length_le (by rw [List.length_drop]; omega)
  rw [e]
  cases hq : x.data.toList with
  | nil => rw [hq] at hl; simp at hl; omega
  | cons a r =>
    have : x[0] = a := by
      show x.data.toList[0]'_ = a
      simp [hq]
    rw [this]; rfl
theorem wd_of {x : ByteArray} {n : Nat} (h : 1 ≤ x.size) (b : Bool) (h0 : x[0] = (if b = true then 45 else 43)) (h1 : x.extract 1 x.size = decT n) : x = wd (n, b) := by
  refine ByteArray.ext (Array.toList_inj.1 ?_)
  rw [wd_data, first_rest h, h0, h1, decT_data]
theorem wd_first (p : Nat × Bool) : (wd p)[0]'(by have := wd_size p; omega) = if p.2 = true then 45 else 43 := by
  have h := first_rest (x := wd p) (by have := wd_size p; omega)
  rw [wd_data, List.cons.injEq] at h
  exact h.1.symm
theorem wd_rest (p : Nat × Bool) : (wd p).extract 1 (wd p).size = decT p.1 := by
  have h := first_rest (x := wd p) (by have := wd_size p; omega)
  rw [wd_data, List.cons.injEq] at h
  exact ByteArray.ext (Array.toList_inj.1 (by rw [← h.2, decT_data]))
end Go.Proofs.YthkphhacmneeiaaGreatDoor
