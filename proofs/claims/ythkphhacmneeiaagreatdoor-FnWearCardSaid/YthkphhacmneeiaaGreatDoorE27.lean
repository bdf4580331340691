/-
  Lines and pieces of a text as data: a text that is joined of pieces is parted into them again.
-/
import Derived.Test.YthkphhacmneeiaaGreatDoorE2
set_option linter.unusedVariables false
set_option linter.unusedSimpArgs false
namespace Go.Proofs.YthkphhacmneeiaaGreatDoor
open Go.RowKit
theorem app_data (a b : ByteArray) : (a ++ b).data.toList = a.data.toList ++ b.data.toList := by simp
theorem app_assoc (a b c : ByteArray) : (a ++ b) ++ c = a ++ (b ++ c) := by
  apply ext_ba
  rw [app_data, app_data, app_data, app_data, List.append_assoc]
/-- Does a byte stand in a text? -/
def hasC (c : UInt8) (s : ByteArray) : Bool := s.data.toList.any (· == c)
theorem hasC_at {c : UInt8} {s : ByteArray} (h : hasC c s = false) (j : Nat) : s.data.toList[j]? ≠ some c := by
  intro hj
  unfold hasC at h
  rw [List.any_eq_false] at h
  have := h c (List.mem_of_getElem? hj)
  simp at this
theorem hasC_app (c : UInt8) (a b : ByteArray) : hasC c (a ++ b) = (hasC c a || hasC c b) := by
  unfold hasC
  rw [app_data, List.any_append]
/-- A text without the byte is one piece. -/
theorem splitC_none {c : UInt8} {s : ByteArray} (h : hasC c s = false) : splitC c s = [s] := by
  have := splitC_end c s 0 (fun j _ _ => hasC_at h j)
  rwa [extr_all] at this
/-- What stands ahead of the first such byte is the first piece. -/
theorem splitC_app {c : UInt8} {a : ByteArray} (h : hasC c a = false) (t : ByteArray) : splitC c (a ++ (⟨#[c]⟩ ++ t)) = a :: splitC c t := by
  have hl : (a ++ (⟨#[c]⟩ ++ t)).data.toList = a.data.toList ++ (c :: t.data.toList) := by
    rw [app_data, app_data]
    rfl
  have hz : (a ++ (⟨#[c]⟩ ++ t)).size = a.size + (1 + t.size) := by
    rw [ByteArray.size_append, ByteArray.size_append]
    rfl
  have hsz : a.data.toList.length = a.size := rfl
  have := splitC_hit c (a ++ (⟨#[c]⟩ ++ t)) 0 a.size (Nat.zero_le _) (by omega) (by rw [hl, List.getElem?_append_right (by omega), hsz, Nat.sub_self]; rfl) (by
    intro j _ hj
    rw [hl, List.getElem?_append_left (by omega)]
    exact hasC_at h j)
  have h1 : (a ++ (⟨#[c]⟩ ++ t)).extract 0 a.size = a := by
    apply ext_ba
    rw [extr_data, hl, List.drop_zero, Nat.sub_zero, List.take_append_of_le_length (by omega)]
    exact List.take_of_length_le (by omega)
  have h2 : (a ++ (⟨#[c]⟩ ++ t)).extract (a.size + 1) (a ++ (⟨#[c]⟩ ++ t)).size = t := by
    apply ext_ba
    rw [extr_data, hl, List.drop_append, List.drop_eq_nil_of_le (by omega), List.nil_append, hsz, show a.size + 1 - a.size = 1 by omega, List.drop_succ_cons, List.drop_zero]
    refine List.take_of_length_le ?_
    show t.size ≤ _
    omega
  rw [extr_all, h1, h2] at this
  exact this
/-- Every byte of a text is the parting one, or stands in a piece. -/
theorem splitC_mem (c : UInt8) : ∀ (n : Nat) (s : ByteArray), s.size ≤ n → ∀ q ∈ s.data.toList, q = c ∨ ∃ p ∈ splitC c s, q ∈ p.data.toList := by
  intro n
  induction n with
  | zero =>
    intro s hs q hq
    have : s.data.toList.length = 0 := by
      show s.size = 0
      omega
    rw [List.length_eq_zero_iff.1 this] at hq
    exact absurd hq (by simp)
  | succ n ih =>
    intro s hs q hq
    by_cases hc : hasC c s = true
    · have hcm : c ∈ s.data.toList := by
        unfold hasC at hc
        rw [List.any_eq_true] at hc
        obtain ⟨y, h1, h2⟩ := hc
        rw [beq_iff_eq] at h2
        exact h2 ▸ h1
      obtain ⟨as, bs, h1, h2⟩ := List.append_of_mem hcm |> fun ⟨as, bs, h⟩ => (by
        obtain ⟨as, bs, h, hn⟩ := List.eq_append_cons_of_mem hcm
        exact ⟨as, bs, h, hn⟩ : ∃ as bs, s.data.toList = as ++ c :: bs ∧ c ∉ as)
      have he : s = (⟨as.toArray⟩ : ByteArray) ++ (⟨#[c]⟩ ++ ⟨bs.toArray⟩) := by
        apply ext_ba
        rw [app_data, app_data, h1]
        rfl
      have hno : hasC c ⟨as.toArray⟩ = false := by
        unfold hasC
        rw [List.any_eq_false]
        intro x hx hxc
        rw [beq_iff_eq] at hxc
        exact h2 (hxc ▸ hx)
      have hlen : s.size = as.length + (1 + bs.length) := by
        show s.data.toList.length = _
        rw [h1]
        simp
        omega
      have hsp : splitC c s = ⟨as.toArray⟩ :: splitC c ⟨bs.toArray⟩ := by
        rw [he, splitC_app hno]
      rw [hsp]
      rw [h1] at hq
      rcases List.mem_append.1 hq with ha | hb
      · exact Or.inr ⟨_, List.mem_cons_self, ha⟩
      · rcases List.mem_cons.1 hb with hb | hb
        · exact Or.inl hb
        · rcases ih ⟨bs.toArray⟩ (by show bs.length ≤ n; omega) q hb with h | ⟨p, h3, h4⟩
          · exact Or.inl h
          · exact Or.inr ⟨p, List.mem_cons_of_mem _ h3, h4⟩
    · rw [splitC_none (by simpa using hc)]
      exact Or.inr ⟨s, by simp, hq⟩
/-- Pieces with the byte behind each. -/
def joinL (c : UInt8) : List ByteArray → ByteArray
  | [] => ⟨#[]⟩
  | a :: r => a ++ (⟨#[c]⟩ ++ joinL c r)
/-- The same, without the last byte. -/
def bodyL (c : UInt8) : List ByteArray → ByteArray
  | [] => ⟨#[]⟩
  | [a] => a
  | a :: b :: r => a ++ (⟨#[c]⟩ ++ bodyL c (b :: r))
theorem empty_app (a : ByteArray) : a ++ (⟨#[]⟩ : ByteArray) = a := by
  apply ext_ba
  rw [app_data]
  simp
theorem joinL_snoc (c : UInt8) (a : ByteArray) : ∀ ls : List ByteArray, joinL c (ls ++ [a]) = joinL c ls ++ (a ++ ⟨#[c]⟩)
  | [] => by
    show a ++ (⟨#[c]⟩ ++ ⟨#[]⟩) = ⟨#[]⟩ ++ (a ++ ⟨#[c]⟩)
    rw [empty_app]
    apply ext_ba
    rw [app_data (⟨#[]⟩ : ByteArray)]
    rfl
  | b :: r => by
    show b ++ (⟨#[c]⟩ ++ joinL c (r ++ [a])) = (b ++ (⟨#[c]⟩ ++ joinL c r)) ++ _
    rw [joinL_snoc c a r, app_assoc, app_assoc]
theorem splitC_joinL {c : UInt8} : ∀ {ls : List ByteArray}, (∀ l ∈ ls, hasC c l = false) → splitC c (joinL c ls) = ls ++ [⟨#[]⟩]
  | [], _ => splitC_none rfl
  | a :: r, h => by
    show splitC c (a ++ (⟨#[c]⟩ ++ joinL c r)) = _
    rw [splitC_app (h a List.mem_cons_self), splitC_joinL (fun l hl => h l (List.mem_cons_of_mem _ hl))]
    rfl
theorem splitC_bodyL {c : UInt8} : ∀ {ls : List ByteArray}, ls ≠ [] → (∀ l ∈ ls, hasC c l = false) → splitC c (bodyL c ls) = ls
  | [], hn, _ => absurd rfl hn
  | [a], _, h => splitC_none (h a List.mem_cons_self)
  | a :: b :: r, _, h => by
    show splitC c (a ++ (⟨#[c]⟩ ++ bodyL c (b :: r))) = _
    rw [splitC_app (h a List.mem_cons_self), splitC_bodyL (by simp) (fun l hl => h l (List.mem_cons_of_mem _ hl))]
theorem joinL_body (c : UInt8) : ∀ {ls : List ByteArray}, ls ≠ [] → joinL c ls = bodyL c ls ++ ⟨#[c]⟩
  | [], hn => absurd rfl hn
  | [a], _ => by
    show a ++ (⟨#[c]⟩ ++ ⟨#[]⟩) = a ++ _
    rw [empty_app]
  | a :: b :: r, _ => by
    show a ++ (⟨#[c]⟩ ++ joinL c (b :: r)) = (a ++ (⟨#[c]⟩ ++ bodyL c (b :: r))) ++ _
    rw [joinL_body c (by simp), app_assoc, app_assoc]
end Go.Proofs.YthkphhacmneeiaaGreatDoor
