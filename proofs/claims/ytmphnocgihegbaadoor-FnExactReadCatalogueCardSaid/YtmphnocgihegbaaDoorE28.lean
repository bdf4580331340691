/-
  Catalogues read from a text, as data: two ways to read, each of which gives back what the text of a valid catalogue was written from.
-/
import Derived.Test.YtmphnocgihegbaaDoorE13
import Derived.Test.YtmphnocgihegbaaDoorE27
import Derived.Lib.CutLaws
set_option linter.unusedVariables false
set_option linter.unusedSimpArgs false
set_option maxRecDepth 100000
namespace Go.Proofs.YtmphnocgihegbaaDoor
open Go.RowKit
theorem name_clean {s : ByteArray} (h : entNameB s = true) : hasC 10 s = false ∧ hasC 59 s = false := by
  unfold entNameB at h
  simp only [Bool.and_eq_true, decide_eq_true_eq, List.all_eq_true] at h
  have hb : ∀ q ∈ s.data.toList, q = 32 ∨ isPlain q = true := by
    intro q hq
    rcases splitC_mem 32 s.size s (Nat.le_refl _) q hq with h1 | ⟨p, h1, h2⟩
    · exact Or.inl h1
    · have h3 := h.2.2 p h1
      unfold wordB at h3
      simp only [Bool.and_eq_true, List.all_eq_true] at h3
      exact Or.inr (h3.2 q h2)
  constructor
  · unfold hasC
    rw [List.any_eq_false]
    intro q hq hc
    rw [beq_iff_eq] at hc
    subst hc
    have := hb _ hq
    revert this
    decide
  · unfold hasC
    rw [List.any_eq_false]
    intro q hq hc
    rw [beq_iff_eq] at hc
    subst hc
    have := hb _ hq
    revert this
    decide
theorem name_pos {s : ByteArray} (h : entNameB s = true) : 1 ≤ s.size := by
  unfold entNameB at h
  simp only [Bool.and_eq_true, decide_eq_true_eq] at h
  exact h.1
abbrev seeW : ByteArray := ⟨#[115, 101, 101, 32]⟩
abbrev belowW : ByteArray := ⟨#[98, 101, 108, 111, 119, 32]⟩
abbrev see3 : ByteArray := ⟨#[115, 101, 101]⟩
abbrev below5 : ByteArray := ⟨#[98, 101, 108, 111, 119]⟩
def eqS (a b : ByteArray) : Bool := a.toList == b.toList
/-- The line of an entry. -/
def lineB (xs : List Ent) (x : Ent) : ByteArray := tailT xs x x.nm
theorem tailT_app (xs : List Ent) (x : Ent) (out : ByteArray) : tailT xs x (out ++ x.nm) = out ++ lineB xs x := by
  unfold lineB tailT
  split
  · rw [app_assoc]
  · split
    · rw [app_assoc]
    · rfl
theorem textTo_join (xs : List Ent) : ∀ k, k ≤ xs.length → textTo xs k = joinL 10 ((xs.take k).map (lineB xs))
  | 0, _ => rfl
  | k + 1, hk => by
    have h1 : xs.take (k + 1) = xs.take k ++ [xs[k]!] := by
      rw [getBang xs k (by omega)]
      exact (List.take_append_getElem (by omega)).symm
    rw [textTo, tailT_app, textTo_join xs k (by omega), h1, List.map_append, List.map_singleton, joinL_snoc, app_assoc]
theorem textL_join (xs : List Ent) : textL xs = joinL 10 (xs.map (lineB xs)) := by
  have := textTo_join xs xs.length (Nat.le_refl _)
  rwa [List.take_length] at this
/-- What a line of a valid catalogue is. -/
theorem line_form {xs : List Ent} (h : standsB xs = true) (i : Nat) (hi : i < xs.length) :
    (xs[i]!.see = -1 ∧ xs[i]!.br = -1 ∧ lineB xs xs[i]! = xs[i]!.nm) ∨
    (∃ n, n < xs.length ∧ xs[i]!.see = (n : Nat) ∧ xs[i]!.br = -1 ∧ lineB xs xs[i]! = xs[i]!.nm ++ (⟨#[59]⟩ ++ (seeW ++ xs[n]!.nm))) ∨
    (∃ n, n < xs.length ∧ xs[i]!.br = (n : Nat) ∧ xs[i]!.see = -1 ∧ lineB xs xs[i]! = xs[i]!.nm ++ (⟨#[59]⟩ ++ (belowW ++ xs[n]!.nm))) := by
  obtain ⟨_, _, _, _, h5⟩ := stand_parts (stands_at h i hi)
  by_cases hs : xs[i]!.see = -1
  · by_cases hb : xs[i]!.br = -1
    · refine Or.inl ⟨hs, hb, ?_⟩
      unfold lineB tailT
      rw [if_neg (fun h => h hs), if_neg (fun h => h hb)]
    · have hp := br_place h i hi hb
      refine Or.inr (Or.inr ⟨xs[i]!.br.toNat, hp.1, by omega, hs, ?_⟩)
      unfold lineB tailT
      rw [if_neg (fun h => h hs), if_pos hb, ← app_assoc (⟨#[59]⟩ : ByteArray)]
      rfl
  · have hp := see_place h i hi hs
    refine Or.inr (Or.inl ⟨xs[i]!.see.toNat, hp.1, by omega, by omega, ?_⟩)
    unfold lineB tailT
    rw [if_pos hs, ← app_assoc (⟨#[59]⟩ : ByteArray)]
    rfl
theorem line_clean {xs : List Ent} (h : standsB xs = true) : ∀ l ∈ xs.map (lineB xs), hasC 10 l = false := by
  intro l hl
  obtain ⟨x, hx, rfl⟩ := List.mem_map.1 hl
  obtain ⟨i, hi, rfl⟩ := List.getElem_of_mem hx
  have hn : ∀ j, j < xs.length → hasC 10 xs[j]!.nm = false := fun j hj => (name_clean (stand_parts (stands_at h j hj)).1).1
  rw [← getBang xs i hi]
  rcases line_form h i hi with ⟨_, _, he⟩ | ⟨n, hn2, _, _, he⟩ | ⟨n, hn2, _, _, he⟩
  · rw [he]
    exact hn i hi
  · rw [he, hasC_app, hasC_app, hasC_app, hn i hi, hn n hn2]
    rfl
  · rw [he, hasC_app, hasC_app, hasC_app, hn i hi, hn n hn2]
    rfl
theorem fidx_map {α β : Type} (p : β → Bool) (f : α → β) (xs : List α) : fidx p (xs.map f) = fidx (fun x => p (f x)) xs := by
  unfold fidx
  rw [List.findIdx?_map]
  rfl
theorem names_first {xs : List Ent} (h : standsB xs = true) (n : Nat) (hn : n < xs.length) : fidx (fun y : Ent => eqS y.nm xs[n]!.nm) xs = n :=
  fidx_hit _ xs n hn (by rw [getBang xs n hn]; simp [eqS]) (stand_parts (stands_at h n hn)).2.1
/-- The way of the model. -/
def idxS (ls : List ByteArray) (nm : ByteArray) : Int :=
  if fidx (fun l => eqS (splitC 59 l)[0]! nm) ls.dropLast = -1 then -2 else fidx (fun l => eqS (splitC 59 l)[0]! nm) ls.dropLast
def refS (ls : List ByteArray) (ps : List ByteArray) (wd : ByteArray) : Int :=
  if ps.length = 2 ∧ wd.size < ps[1]!.size ∧ eqS (ps[1]!.extract 0 wd.size) wd = true then idxS ls (ps[1]!.extract wd.size ps[1]!.size) else -1
def entS (ls : List ByteArray) (l : ByteArray) : Ent := ⟨(splitC 59 l)[0]!, refS ls (splitC 59 l) seeW, refS ls (splitC 59 l) belowW⟩
def listS (text : ByteArray) : List Ent := (splitC 10 text).dropLast.map (entS (splitC 10 text))
theorem line_head {xs : List Ent} (h : standsB xs = true) (x : Ent) (hx : x ∈ xs) : (splitC 59 (lineB xs x))[0]! = x.nm := by
  obtain ⟨i, hi, rfl⟩ := List.getElem_of_mem hx
  have hn : hasC 59 xs[i]!.nm = false := (name_clean (stand_parts (stands_at h i hi)).1).2
  rw [← getBang xs i hi]
  rcases line_form h i hi with ⟨_, _, he⟩ | ⟨n, hn2, _, _, he⟩ | ⟨n, hn2, _, _, he⟩
  · rw [he, splitC_none hn]
    rfl
  · rw [he, splitC_app hn]
    rfl
  · rw [he, splitC_app hn]
    rfl
theorem fidx_congr {α : Type} {p q : α → Bool} : ∀ {xs : List α}, (∀ x ∈ xs, p x = q x) → fidx p xs = fidx q xs := by
  intro xs h
  unfold fidx
  have : xs.findIdx? p = xs.findIdx? q := by
    induction xs with
    | nil => rfl
    | cons a r ih =>
      rw [List.findIdx?_cons, List.findIdx?_cons, h a List.mem_cons_self, ih (fun x hx => h x (List.mem_cons_of_mem _ hx))]
  rw [this]
theorem idxS_text {xs : List Ent} (h : standsB xs = true) (n : Nat) (hn : n < xs.length) : idxS (xs.map (lineB xs) ++ [⟨#[]⟩]) xs[n]!.nm = n := by
  have e : fidx (fun l => eqS (splitC 59 l)[0]! xs[n]!.nm) (xs.map (lineB xs) ++ [(⟨#[]⟩ : ByteArray)]).dropLast = n := by
    rw [List.dropLast_concat, fidx_map]
    exact (fidx_congr (fun x hx => by rw [line_head h x hx])).trans (names_first h n hn)
  unfold idxS
  rw [e, if_neg (by omega)]
theorem pre_parts (a b : ByteArray) : (a ++ b).extract 0 a.size = a ∧ (a ++ b).extract a.size (a ++ b).size = b := by
  have hsz : a.data.toList.length = a.size := rfl
  constructor
  · apply ext_ba
    rw [extr_data, app_data, List.drop_zero, Nat.sub_zero, List.take_append_of_le_length (by omega)]
    exact List.take_of_length_le (by omega)
  · apply ext_ba
    rw [extr_data, app_data, List.drop_append, List.drop_eq_nil_of_le (by omega), List.nil_append, hsz, Nat.sub_self, List.drop_zero]
    refine List.take_of_length_le ?_
    show b.size ≤ _
    rw [ByteArray.size_append]
    omega
theorem refS_hit (ls : List ByteArray) (a wd t : ByteArray) (ht : 1 ≤ t.size) : refS ls [a, wd ++ t] wd = idxS ls t := by
  have h2 := pre_parts wd t
  have e : [a, wd ++ t][1]! = wd ++ t := rfl
  unfold refS
  rw [if_pos ⟨rfl, by rw [e, ByteArray.size_append]; omega, by rw [e, h2.1]; simp [eqS]⟩, e, h2.2]
theorem refS_one (ls : List ByteArray) (a wd : ByteArray) : refS ls [a] wd = -1 := if_neg (by simp)
theorem eqS_ne {a b : ByteArray} (h : a.data.toList.head? ≠ b.data.toList.head?) : ¬ eqS a b = true := by
  intro he
  unfold eqS at he
  rw [beq_iff_eq] at he
  apply h
  rw [← Lib.toList_data, ← Lib.toList_data, he]
theorem refS_see (ls : List ByteArray) (a t : ByteArray) : refS ls [a, belowW ++ t] seeW = -1 := by
  refine if_neg ?_
  rintro ⟨_, _, h3⟩
  refine eqS_ne ?_ h3
  show ((belowW ++ t).extract 0 4).data.toList.head? ≠ _
  rw [extr_data, app_data]
  simp
theorem refS_below (ls : List ByteArray) (a t : ByteArray) : refS ls [a, seeW ++ t] belowW = -1 := by
  refine if_neg ?_
  rintro ⟨_, _, h3⟩
  refine eqS_ne ?_ h3
  show ((seeW ++ t).extract 0 6).data.toList.head? ≠ _
  rw [extr_data, app_data]
  simp
theorem listS_text {xs : List Ent} (h : standsB xs = true) : listS (textL xs) = xs := by
  unfold listS
  rw [textL_join, splitC_joinL (line_clean h), List.dropLast_concat, List.map_map]
  have : ∀ x ∈ xs, (entS (xs.map (lineB xs) ++ [⟨#[]⟩]) ∘ lineB xs) x = id x := by
    intro x hx
    obtain ⟨i, hi, rfl⟩ := List.getElem_of_mem hx
    have hn : ∀ j, j < xs.length → hasC 59 xs[j]!.nm = false ∧ 1 ≤ xs[j]!.nm.size := fun j hj => ⟨(name_clean (stand_parts (stands_at h j hj)).1).2, name_pos (stand_parts (stands_at h j hj)).1⟩
    show entS _ (lineB xs xs[i]) = xs[i]
    rw [← getBang xs i hi]
    unfold entS
    rcases line_form h i hi with ⟨h1, h2, he⟩ | ⟨n, hn2, h1, h2, he⟩ | ⟨n, hn2, h1, h2, he⟩
    · rw [he, splitC_none (hn i hi).1, refS_one, refS_one]
      conv => rhs; rw [show xs[i]! = ⟨xs[i]!.nm, xs[i]!.see, xs[i]!.br⟩ from rfl, h1, h2]
      rfl
    · have hc : hasC 59 (seeW ++ xs[n]!.nm) = false := by
        rw [hasC_app, (hn n hn2).1]
        rfl
      rw [he, splitC_app (hn i hi).1, splitC_none hc, refS_hit _ _ _ _ (hn n hn2).2, refS_below, idxS_text h n hn2]
      conv => rhs; rw [show xs[i]! = ⟨xs[i]!.nm, xs[i]!.see, xs[i]!.br⟩ from rfl, h1, h2]
      rfl
    · have hc : hasC 59 (belowW ++ xs[n]!.nm) = false := by
        rw [hasC_app, (hn n hn2).1]
        rfl
      rw [he, splitC_app (hn i hi).1, splitC_none hc, refS_hit _ _ _ _ (hn n hn2).2, refS_see, idxS_text h n hn2]
      conv => rhs; rw [show xs[i]! = ⟨xs[i]!.nm, xs[i]!.see, xs[i]!.br⟩ from rfl, h1, h2]
      rfl
  rw [List.map_congr_left this, List.map_id]
end Go.Proofs.YtmphnocgihegbaaDoor
