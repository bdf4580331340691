/-
  PK6: the texts E28 E29 L6 in one (written by pack.py).
-/
import Derived.Test.YtdiblmlcapommaaGreatDoorPK5
import Derived.Lib.CutLaws
import Derived.Lib.Strings
import Derived.Test.YtdiblmlcapommaaGreatDoorPK1
set_option linter.unusedVariables false
set_option linter.unusedSimpArgs false
set_option maxRecDepth 100000
namespace Go.Proofs.YtdiblmlcapommaaGreatDoor
open Go.RowKit
theorem name_clean {s : ByteArray} (h : entNameB s = true) : hasC 10 s = false ∧ hasC 59 s = false := by
  unfold entNameB at h
  simp only [Bool.and_eq_true, decide_eq_true_eq, List.all_eq_true] at h
  have hb : ∀ q ∈ s.data.toList, q = 32 ∨ isPlain q = true := by
    intro q hq
    rcases splitC_mem 32 s.size s (Nat.le_refl _) q hq with h1 | ⟨p, h1, h2⟩
    · exact Or.inl h1
    · have h3 := h.2.2 p h1
      unfold wordB at h3
      simp only [Bool.and_eq_true, List.all_eq_true] at h3
      exact Or.inr (h3.2 q h2)
  constructor
  · unfold hasC
    rw [List.any_eq_false]
    intro q hq hc
    rw [beq_iff_eq] at hc
    subst hc
    have := hb _ hq
    revert this
    decide
  · unfold hasC
    rw [List.any_eq_false]
    intro q hq hc
    rw [beq_iff_eq] at hc
    subst hc
    have := hb _ hq
    revert this
    decide
theorem name_pos {s : ByteArray} (h : entNameB s = true) : 1 ≤ s.size := by
  unfold entNameB at h
  simp only [Bool.and_eq_true, decide_eq_true_eq] at h
  exact h.1
abbrev seeW : ByteArray := ⟨#[115, 101, 101, 32]⟩
abbrev belowW : ByteArray := ⟨#[98, 101, 108, 111, 119, 32]⟩
abbrev see3 : ByteArray := ⟨#[115, 101, 101]⟩
abbrev below5 : ByteArray := ⟨#[98, 101, 108, 111, 119]⟩
def eqS (a b : ByteArray) : Bool := a.toList == b.toList
/-- The line of an entry. -/
def lineB (xs : List Ent) (x : Ent) : ByteArray := tailT xs x x.nm
theorem tailT_app (xs : List Ent) (x : Ent) (out : ByteArray) : tailT xs x (out ++ x.nm) = out ++ lineB xs x := by
  unfold lineB tailT
  split
  · rw [app_assoc]
  · split
    · rw [app_assoc]
    · rfl
theorem textTo_join (xs : List Ent) : ∀ k, k ≤ xs.length → textTo xs k = joinL 10 ((xs.take k).map (lineB xs))
  | 0, _ => rfl
  | k + 1, hk => by
    have h1 : xs.take (k + 1) = xs.take k ++ [xs[k]!] := by
      rw [getBang xs k (by omega)]
      exact (List.take_append_getElem (by omega)).symm
    rw [textTo, tailT_app, textTo_join xs k (by omega), h1, List.map_append, List.map_singleton, joinL_snoc, app_assoc]
theorem textL_join (xs : List Ent) : textL xs = joinL 10 (xs.map (lineB xs)) := by
  have := textTo_join xs xs.length (Nat.le_refl _)
  rwa [List.take_length] at this
/-- What a line of a valid catalogue is. -/
theorem line_form {xs : List Ent} (h : standsB xs = true) (i : Nat) (hi : i < xs.length) :
    (xs[i]!.see = -1 ∧ xs[i]!.br = -1 ∧ lineB xs xs[i]! = xs[i]!.nm) ∨
    (∃ n, n < xs.length ∧ xs[i]!.see = (n : Nat) ∧ xs[i]!.br = -1 ∧ lineB xs xs[i]! = xs[i]!.nm ++ (⟨#[59]⟩ ++ (seeW ++ xs[n]!.nm))) ∨
    (∃ n, n < xs.length ∧ xs[i]!.br = (n : Nat) ∧ xs[i]!.see = -1 ∧ lineB xs xs[i]! = xs[i]!.nm ++ (⟨#[59]⟩ ++ (belowW ++ xs[n]!.nm))) := by
  obtain ⟨_, _, _, _, h5⟩ := stand_parts (stands_at h i hi)
  by_cases hs : xs[i]!.see = -1
  · by_cases hb : xs[i]!.br = -1
    · refine Or.inl ⟨hs, hb, ?_⟩
      unfold lineB tailT
      rw [if_neg (fun h => h hs), if_neg (fun h => h hb)]
    · have hp := br_place h i hi hb
      refine Or.inr (Or.inr ⟨xs[i]!.br.toNat, hp.1, by omega, hs, ?_⟩)
      unfold lineB tailT
      rw [if_neg (fun h => h hs), if_pos hb, ← app_assoc (⟨#[59]⟩ : ByteArray)]
      rfl
  · have hp := see_place h i hi hs
    refine Or.inr (Or.inl ⟨xs[i]!.see.toNat, hp.1, by omega, by omega, ?_⟩)
    unfold lineB tailT
    rw [if_pos hs, ← app_assoc (⟨#[59]⟩ : ByteArray)]
    rfl
theorem line_clean {xs : List Ent} (h : standsB xs = true) : ∀ l ∈ xs.map (lineB xs), hasC 10 l = false := by
  intro l hl
  obtain ⟨x, hx, rfl⟩ := List.mem_map.1 hl
  obtain ⟨i, hi, rfl⟩ := List.getElem_of_mem hx
  have hn : ∀ j, j < xs.length → hasC 10 xs[j]!.nm = false := fun j hj => (name_clean (stand_parts (stands_at h j hj)).1).1
  rw [← getBang xs i hi]
  rcases line_form h i hi with ⟨_, _, he⟩ | ⟨n, hn2, _, _, he⟩ | ⟨n, hn2, _, _, he⟩
  · rw [he]
    exact hn i hi
  · rw [he, hasC_app, hasC_app, hasC_app, hn i hi, hn n hn2]
    rfl
  · rw [he, hasC_app, hasC_app, hasC_app, hn i hi, hn n hn2]
    rfl
theorem fidx_map {α β : Type} (p : β → Bool) (f : α → β) (xs : List α) : fidx p (xs.map f) = fidx (fun x => p (f x)) xs := by
  unfold fidx
  rw [List.findIdx?_map]
  rfl
theorem names_first {xs : List Ent} (h : standsB xs = true) (n : Nat) (hn : n < xs.length) : fidx (fun y : Ent => eqS y.nm xs[n]!.nm) xs = n :=
  fidx_hit _ xs n hn (by rw [getBang xs n hn]; simp [eqS]) (stand_parts (stands_at h n hn)).2.1
/-- The way of the model. -/
def idxS (ls : List ByteArray) (nm : ByteArray) : Int :=
  if fidx (fun l => eqS (splitC 59 l)[0]! nm) ls.dropLast = -1 then -2 else fidx (fun l => eqS (splitC 59 l)[0]! nm) ls.dropLast
def refS (ls : List ByteArray) (ps : List ByteArray) (wd : ByteArray) : Int :=
  if ps.length = 2 ∧ wd.size < ps[1]!.size ∧ eqS (ps[1]!.extract 0 wd.size) wd = true then idxS ls (ps[1]!.extract wd.size ps[1]!.size) else -1
def entS (ls : List ByteArray) (l : ByteArray) : Ent := ⟨(splitC 59 l)[0]!, refS ls (splitC 59 l) seeW, refS ls (splitC 59 l) belowW⟩
def listS (text : ByteArray) : List Ent := (splitC 10 text).dropLast.map (entS (splitC 10 text))
theorem line_head {xs : List Ent} (h : standsB xs = true) (x : Ent) (hx : x ∈ xs) : (splitC 59 (lineB xs x))[0]! = x.nm := by
  obtain ⟨i, hi, rfl⟩ := List.getElem_of_mem hx
  have hn : hasC 59 xs[i]!.nm = false := (name_clean (stand_parts (stands_at h i hi)).1).2
  rw [← getBang xs i hi]
  rcases line_form h i hi with ⟨_, _, he⟩ | ⟨n, hn2, _, _, he⟩ | ⟨n, hn2, _, _, he⟩
  · rw [he, splitC_none hn]
    rfl
  · rw [he, splitC_app hn]
    rfl
  · rw [he, splitC_app hn]
    rfl
theorem fidx_congr {α : Type} {p q : α → Bool} : ∀ {xs : List α}, (∀ x ∈ xs, p x = q x) → fidx p xs = fidx q xs := by
  intro xs h
  unfold fidx
  have : xs.findIdx? p = xs.findIdx? q := by
    induction xs with
    | nil => rfl
    | cons a r ih =>
      rw [List.findIdx?_cons, List.findIdx?_cons, h a List.mem_cons_self, ih (fun x hx => h x (List.mem_cons_of_mem _ hx))]
  rw [this]
theorem idxS_text {xs : List Ent} (h : standsB xs = true) (n : Nat) (hn : n < xs.length) : idxS (xs.map (lineB xs) ++ [⟨#[]⟩]) xs[n]!.nm = n := by
  have e : fidx (fun l => eqS (splitC 59 l)[0]! xs[n]!.nm) (xs.map (lineB xs) ++ [(⟨#[]⟩ : ByteArray)]).dropLast = n := by
    rw [List.dropLast_concat, fidx_map]
    exact (fidx_congr (fun x hx => by rw [line_head h x hx])).trans (names_first h n hn)
  unfold idxS
  rw [e, if_neg (by omega)]
theorem pre_parts (a b : ByteArray) : (a ++ b).extract 0 a.size = a ∧ (a ++ b).extract a.size (a ++ b).size = b := by
  have hsz : a.data.toList.length = a.size := rfl
  constructor
  · apply ext_ba
    rw [extr_data, app_data, List.drop_zero, Nat.sub_zero, List.take_append_of_le_length (by omega)]
    exact List.take_of_length_le (by omega)
  · apply ext_ba
    rw [extr_data, app_data, List.drop_append, List.drop_eq_nil_of_le (by omega), List.nil_append, hsz, Nat.sub_self, List.drop_zero]
    refine List.take_of_length_le ?_
    show b.size ≤ _
    rw [ByteArray.size_append]
    omega
theorem refS_hit (ls : List ByteArray) (a wd t : ByteArray) (ht : 1 ≤ t.size) : refS ls [a, wd ++ t] wd = idxS ls t := by
  have h2 := pre_parts wd t
  have e : [a, wd ++ t][1]! = wd ++ t := rfl
  unfold refS
  rw [if_pos ⟨rfl, by rw [e, ByteArray.size_append]; omega, by rw [e, h2.1]; simp [eqS]⟩, e, h2.2]
theorem refS_one (ls : List ByteArray) (a wd : ByteArray) : refS ls [a] wd = -1 := if_neg (by simp)
theorem eqS_ne {a b : ByteArray} (h : a.data.toList.head? ≠ b.data.toList.head?) : ¬ eqS a b = true := by
  intro he
  unfold eqS at he
  rw [beq_iff_eq] at he
  apply h
  rw [← Lib.toList_data, ← Lib.toList_data, he]
theorem refS_see (ls : List ByteArray) (a t : ByteArray) : refS ls [a, belowW ++ t] seeW = -1 := by
  refine if_neg ?_
  rintro ⟨_, _, h3⟩
  refine eqS_ne ?_ h3
  show ((belowW ++ t).extract 0 4).data.toList.head? ≠ _
  rw [extr_data, app_data]
  simp
theorem refS_below (ls : List ByteArray) (a t : ByteArray) : refS ls [a, seeW ++ t] belowW = -1 := by
  refine if_neg ?_
  rintro ⟨_, _, h3⟩
  refine eqS_ne ?_ h3
  show ((seeW ++ t).extract 0 6).data.toList.head? ≠ _
  rw [extr_data, app_data]
  simp
theorem listS_text {xs : List Ent} (h : standsB xs = true) : listS (textL xs) = xs := by
  unfold listS
  rw [textL_join, splitC_joinL (line_clean h), List.dropLast_concat, List.map_map]
  have : ∀ x ∈ xs, (entS (xs.map (lineB xs) ++ [⟨#[]⟩]) ∘ lineB xs) x = id x := by
    intro x hx
    obtain ⟨i, hi, rfl⟩ := List.getElem_of_mem hx
    have hn : ∀ j, j < xs.length → hasC 59 xs[j]!.nm = false ∧ 1 ≤ xs[j]!.nm.size := fun j hj => ⟨(name_clean (stand_parts (stands_at h j hj)).1).2, name_pos (stand_parts (stands_at h j hj)).1⟩
    show entS _ (lineB xs xs[i]) = xs[i]
    rw [← getBang xs i hi]
    unfold entS
    rcases line_form h i hi with ⟨h1, h2, he⟩ | ⟨n, hn2, h1, h2, he⟩ | ⟨n, hn2, h1, h2, he⟩
    · rw [he, splitC_none (hn i hi).1, refS_one, refS_one]
      conv => rhs; rw [show xs[i]! = ⟨xs[i]!.nm, xs[i]!.see, xs[i]!.br⟩ from rfl, h1, h2]
      rfl
    · have hc : hasC 59 (seeW ++ xs[n]!.nm) = false := by
        rw [hasC_app, (hn n hn2).1]
        rfl
      rw [he, splitC_app (hn i hi).1, splitC_none hc, refS_hit _ _ _ _ (hn n hn2).2, refS_below, idxS_text h n hn2]
      conv => rhs; rw [show xs[i]! = ⟨xs[i]!.nm, xs[i]!.see, xs[i]!.br⟩ from rfl, h1, h2]
      rfl
    · have hc : hasC 59 (belowW ++ xs[n]!.nm) = false := by
        rw [hasC_app, (hn n hn2).1]
        rfl
      rw [he, splitC_app (hn i hi).1, splitC_none hc, refS_hit _ _ _ _ (hn n hn2).2, refS_see, idxS_text h n hn2]
      conv => rhs; rw [show xs[i]! = ⟨xs[i]!.nm, xs[i]!.see, xs[i]!.br⟩ from rfl, h1, h2]
      rfl
  rw [List.map_congr_left this, List.map_id]
end Go.Proofs.YtdiblmlcapommaaGreatDoor
set_option linter.unusedVariables false
set_option linter.unusedSimpArgs false
set_option maxRecDepth 100000
namespace Go.Proofs.YtdiblmlcapommaaGreatDoor
open Go.RowKit
def cutL (c : UInt8) (s : ByteArray) : ByteArray := ⟨(Lib.cut s.data.toList (⟨#[c]⟩ : ByteArray).data.toList).1.toArray⟩
def cutR (c : UInt8) (s : ByteArray) : ByteArray := ⟨(Lib.cut s.data.toList (⟨#[c]⟩ : ByteArray).data.toList).2.1.toArray⟩
def cutH (c : UInt8) (s : ByteArray) : Bool := (Lib.cut s.data.toList (⟨#[c]⟩ : ByteArray).data.toList).2.2
theorem cut_app {c : UInt8} {a : ByteArray} (h : hasC c a = false) (t : ByteArray) : cutL c (a ++ (⟨#[c]⟩ ++ t)) = a ∧ cutR c (a ++ (⟨#[c]⟩ ++ t)) = t ∧ cutH c (a ++ (⟨#[c]⟩ ++ t)) = true := by
  have hl : (a ++ (⟨#[c]⟩ ++ t)).data.toList = a.data.toList ++ (c :: t.data.toList) := by
    rw [app_data, app_data]
    rfl
  have hsz : a.data.toList.length = a.size := rfl
  have hi : Lib.indexB (a ++ (⟨#[c]⟩ ++ t)) ⟨#[c]⟩ = (a.size : Nat) := by
    show Lib.index (a ++ (⟨#[c]⟩ ++ t)).data.toList [c] = _
    rw [hl]
    refine Lib.index_first (by rw [List.length_append]; omega) ?_ ?_
    · rw [occ_one, List.getElem?_append_right (by omega), hsz, Nat.sub_self]
      simp
    · intro j hj
      rw [occ_one, List.getElem?_append_left (by omega)]
      simpa using hasC_at h j
  have hp := (pre_parts a (⟨#[c]⟩ ++ t)).1
  have hq := (pre_parts (a ++ ⟨#[c]⟩) t).2
  rw [app_assoc, ByteArray.size_append] at hq
  unfold cutL cutR cutH
  generalize a ++ (⟨#[c]⟩ ++ t) = s at *
  obtain ⟨h1, h2, h3⟩ := Lib.cutB_hit s _ _ hi
  rw [h1, h2, h3]
  exact ⟨hp, hq, rfl⟩
theorem cut_none {c : UInt8} {a : ByteArray} (h : hasC c a = false) : cutL c a = a ∧ cutR c a = ByteArray.empty ∧ cutH c a = false := by
  have hi : Lib.indexB a ⟨#[c]⟩ = -1 := by
    show Lib.index a.data.toList [c] = _
    refine Lib.index_none ?_
    intro j hj
    rw [occ_one]
    simpa using hasC_at h j
  exact Lib.cutB_miss _ _ hi
/-- The lines of a text, and whether it ends with one. -/
def bodyT (text : ByteArray) : ByteArray := ⟨(Lib.trimSuffix text.data.toList lineS.data.toList).toArray⟩
def endsT (text : ByteArray) : Bool := Lib.hasSuffix text.data.toList lineS.data.toList
def linesF (text : ByteArray) : List ByteArray × Bool := if text.size = 0 then ([], true) else (splitC 10 (bodyT text), endsT text)
def idxI (names : List ByteArray) (nm : ByteArray) : Int := fidx (fun y => eqS y nm) names
def refI (names : List ByteArray) (l wd : ByteArray) : Int :=
  if cutH 59 l = true ∧ eqS (cutL 32 (cutR 59 l)) wd = true then idxI names (cutR 32 (cutR 59 l)) else -1
def entI (names : List ByteArray) (l : ByteArray) : Ent := ⟨cutL 59 l, refI names l see3, refI names l below5⟩
def listI (ls : List ByteArray) : List Ent := ls.map (entI (ls.map (cutL 59)))
theorem lines_text {xs : List Ent} (h : standsB xs = true) : linesF (textL xs) = (xs.map (lineB xs), true) := by
  have hc := line_clean h
  rw [textL_join]
  cases xs with
  | nil => rfl
  | cons x r =>
    have hn : (x :: r).map (lineB (x :: r)) ≠ [] := by simp
    generalize (x :: r).map (lineB (x :: r)) = ls at hc hn
    have hj := joinL_body 10 hn
    have hl : (joinL 10 ls).data.toList = (bodyL 10 ls).data.toList ++ lineS.data.toList := by
      rw [hj, app_data]
    have hs : Lib.hasSuffix (joinL 10 ls).data.toList lineS.data.toList = true := by
      unfold Lib.hasSuffix
      rw [hl, List.isSuffixOf_iff_suffix]
      exact List.suffix_append _ _
    have hb : bodyT (joinL 10 ls) = bodyL 10 ls := by
      unfold bodyT Lib.trimSuffix
      rw [hs, if_pos rfl, hl]
      apply ext_ba
      simp
    unfold linesF endsT
    rw [hb, hs, splitC_bodyL hn hc, if_neg (by rw [hj, ByteArray.size_append]; show ¬ (_ + 1 = 0); omega)]
theorem cut_head {xs : List Ent} (h : standsB xs = true) (x : Ent) (hx : x ∈ xs) : cutL 59 (lineB xs x) = x.nm := by
  obtain ⟨i, hi, rfl⟩ := List.getElem_of_mem hx
  have hn : hasC 59 xs[i]!.nm = false := (name_clean (stand_parts (stands_at h i hi)).1).2
  rw [← getBang xs i hi]
  rcases line_form h i hi with ⟨_, _, he⟩ | ⟨n, hn2, _, _, he⟩ | ⟨n, hn2, _, _, he⟩
  · rw [he, (cut_none hn).1]
  · rw [he, (cut_app hn _).1]
  · rw [he, (cut_app hn _).1]
theorem idxI_text {xs : List Ent} (h : standsB xs = true) (n : Nat) (hn : n < xs.length) : idxI ((xs.map (lineB xs)).map (cutL 59)) xs[n]!.nm = n := by
  unfold idxI
  rw [List.map_map, fidx_map]
  exact (fidx_congr (fun x hx => by show eqS (cutL 59 (lineB xs x)) _ = eqS x.nm _; rw [cut_head h x hx])).trans (names_first h n hn)
theorem refI_none (names : List ByteArray) (l wd : ByteArray) (h : hasC 59 l = false) : refI names l wd = -1 := by
  unfold refI
  rw [(cut_none h).2.2, if_neg (by simp)]
theorem see_space (t : ByteArray) : seeW ++ t = see3 ++ (⟨#[32]⟩ ++ t) := by rw [← app_assoc]; rfl
theorem below_space (t : ByteArray) : belowW ++ t = below5 ++ (⟨#[32]⟩ ++ t) := by rw [← app_assoc]; rfl
theorem refI_word (names : List ByteArray) (a wd wd' t : ByteArray) (h : hasC 59 a = false) (hw : hasC 32 wd = false) :
    refI names (a ++ (⟨#[59]⟩ ++ (wd ++ (⟨#[32]⟩ ++ t)))) wd' = if eqS wd wd' = true then idxI names t else -1 := by
  obtain ⟨_, h2, h3⟩ := cut_app h (wd ++ (⟨#[32]⟩ ++ t))
  obtain ⟨h4, h5, _⟩ := cut_app hw t
  unfold refI
  rw [h2, h3, h4, h5]
  by_cases he : eqS wd wd' = true
  · rw [if_pos ⟨rfl, he⟩, if_pos he]
  · rw [if_neg (fun hx => he hx.2), if_neg he]
theorem listI_text {xs : List Ent} (h : standsB xs = true) : listI (xs.map (lineB xs)) = xs := by
  unfold listI
  rw [List.map_map (g := entI _)]
  have : ∀ x ∈ xs, (entI ((xs.map (lineB xs)).map (cutL 59)) ∘ lineB xs) x = id x := by
    intro x hx
    have hd0 := cut_head h x hx
    obtain ⟨i, hi, rfl⟩ := List.getElem_of_mem hx
    have hn : ∀ j, j < xs.length → hasC 59 xs[j]!.nm = false := fun j hj => (name_clean (stand_parts (stands_at h j hj)).1).2
    show entI _ (lineB xs xs[i]) = xs[i]
    unfold entI
    rw [hd0, ← getBang xs i hi]
    have e1 : eqS see3 see3 = true := by simp [eqS]
    have e2 : eqS below5 below5 = true := by simp [eqS]
    have e3 : ¬ eqS see3 below5 = true := eqS_ne (by decide)
    have e4 : ¬ eqS below5 see3 = true := eqS_ne (by decide)
    rcases line_form h i hi with ⟨h1, h2, he⟩ | ⟨n, hn2, h1, h2, he⟩ | ⟨n, hn2, h1, h2, he⟩
    · rw [he, refI_none _ _ _ (hn i hi), refI_none _ _ _ (hn i hi)]
      conv => rhs; rw [show xs[i]! = ⟨xs[i]!.nm, xs[i]!.see, xs[i]!.br⟩ from rfl, h1, h2]
      try rfl
    · rw [he, see_space, refI_word _ _ _ _ _ (hn i hi) rfl, refI_word _ _ _ _ _ (hn i hi) rfl, if_pos e1, if_neg e3, idxI_text h n hn2]
      conv => rhs; rw [show xs[i]! = ⟨xs[i]!.nm, xs[i]!.see, xs[i]!.br⟩ from rfl, h1, h2]
      try rfl
    · rw [he, below_space, refI_word _ _ _ _ _ (hn i hi) rfl, refI_word _ _ _ _ _ (hn i hi) rfl, if_pos e2, if_neg e4, idxI_text h n hn2]
      conv => rhs; rw [show xs[i]! = ⟨xs[i]!.nm, xs[i]!.see, xs[i]!.br⟩ from rfl, h1, h2]
      try rfl
  rw [List.map_congr_left this, List.map_id]
/-- Is a text that of a valid catalogue? -/
def readB (text : ByteArray) : Bool := catB (listS text) && eqS (textL (listS text)) text
theorem eqS_eq {a b : ByteArray} (h : eqS a b = true) : a = b := by
  unfold eqS at h
  rw [beq_iff_eq, Lib.toList_data, Lib.toList_data] at h
  exact ext_ba h
/-- The program's answer is that of the model. -/
theorem read_same (text : ByteArray) :
    readB text = ((linesF text).2 && (catB (listI (linesF text).1) && eqS (textL (listI (linesF text).1)) text)) ∧ (readB text = true → listI (linesF text).1 = listS text) := by
  have two : readB text = true → linesF text = ((listS text).map (lineB (listS text)), true) ∧ listI (linesF text).1 = listS text := by
    intro h
    unfold readB at h
    rw [Bool.and_eq_true] at h
    have hst : standsB (listS text) = true := by
      have := h.1
      unfold catB at this
      simp only [Bool.and_eq_true] at this
      exact this.2.1
    have ht := eqS_eq h.2
    have hl := lines_text hst
    rw [ht] at hl
    refine ⟨hl, ?_⟩
    rw [hl]
    exact listI_text hst
  refine ⟨?_, fun h => (two h).2⟩
  rw [Bool.eq_iff_iff]
  constructor
  · intro h
    obtain ⟨h1, h2⟩ := two h
    have h3 : (linesF text).2 = true := by rw [h1]
    rw [h2, h3, Bool.true_and]
    exact h
  · intro h
    rw [Bool.and_eq_true, Bool.and_eq_true] at h
    have hst : standsB (listI (linesF text).1) = true := by
      have := h.2.1
      unfold catB at this
      simp only [Bool.and_eq_true] at this
      exact this.2.1
    have hs := listS_text hst
    have ht := eqS_eq h.2.2
    rw [ht] at hs
    unfold readB
    rw [hs, h.2.1, h.2.2]
    rfl
end Go.Proofs.YtdiblmlcapommaaGreatDoor
set_option linter.unusedVariables false
namespace Go.Proofs.YtdiblmlcapommaaGreatDoor
open Go.RowKit
theorem intro_world {R : World → Prop} {W : World} (h : ∀ W', W' = W → R W') : R W := h W rfl
theorem Conv.convG {G C : Nat → Option Addr → Nat → Option Addr → Nat → Option Addr → Nat → World → Prop} {T : Prop} (ht : ∀ b a n a' n' a'' n'' W, C b a n a' n' a'' n'' W → G b a n a' n' a'' n'' W) (h : (∀ b a n a' n' a'' n'' W, C b a n a' n' a'' n'' W → G b a n a' n' a'' n'' W) → T) : T := h ht
theorem Conv.convF {G C : Nat → Option Addr → Nat → World → Prop} {T : Prop} (ht : ∀ b a n W, C b a n W → G b a n W) (h : (∀ b a n W, C b a n W → G b a n W) → T) : T := h ht
theorem Conv.conv1 {G C : Nat → World → Prop} {T : Prop} (ht : ∀ b W, C b W → G b W) (h : (∀ b W, C b W → G b W) → T) : T := h ht
theorem Conv.conv3 {G C : Option Addr → Nat → World → Prop} {T : Prop} (ht : ∀ a n W, C a n W → G a n W) (h : (∀ a n W, C a n W → G a n W) → T) : T := h ht
theorem Conv.conv {G C : World → Prop} {T : Prop} (ht : ∀ W, C W → G W) (h : (∀ W, C W → G W) → T) : T := h ht
end Go.Proofs.YtdiblmlcapommaaGreatDoor
