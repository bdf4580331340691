/-
  The program's way to read a catalogue, as data; both ways read the same.
-/
import Derived.Test.YtmphnocgihegbaaDoorE28
import Derived.Lib.Strings
set_option linter.unusedVariables false
set_option linter.unusedSimpArgs false
set_option maxRecDepth 100000
namespace Go.Proofs.YtmphnocgihegbaaDoor
open Go.RowKit
def cutL (c : UInt8) (s : ByteArray) : ByteArray := ⟨(Lib.cut s.data.toList (⟨#[c]⟩ : ByteArray).data.toList).1.toArray⟩
def cutR (c : UInt8) (s : ByteArray) : ByteArray := ⟨(Lib.cut s.data.toList (⟨#[c]⟩ : ByteArray).data.toList).2.1.toArray⟩
def cutH (c : UInt8) (s : ByteArray) : Bool := (Lib.cut s.data.toList (⟨#[c]⟩ : ByteArray).data.toList).2.2
theorem cut_app {c : UInt8} {a : ByteArray} (h : hasC c a = false) (t : ByteArray) : cutL c (a ++ (⟨#[c]⟩ ++ t)) = a ∧ cutR c (a ++ (⟨#[c]⟩ ++ t)) = t ∧ cutH c (a ++ (⟨#[c]⟩ ++ t)) = true := by
  have hl : (a ++ (⟨#[c]⟩ ++ t)).data.toList = a.data.toList ++ (c :: t.data.toList) := by
    rw [app_data, app_data]
    rfl
  have hsz : a.data.toList.length = a.size := rfl
  have hi : Lib.indexB (a ++ (⟨#[c]⟩ ++ t)) ⟨#[c]⟩ = (a.size : Nat) := by
    show Lib.index (a ++ (⟨#[c]⟩ ++ t)).data.toList [c] = _
    rw [hl]
    refine Lib.index_first (by rw [List.length_append]; omega) ?_ ?_
    · rw [occ_one, List.getElem?_append_right (by omega), hsz, Nat.sub_self]
      simp
    · intro j hj
      rw [occ_one, List.getElem?_append_left (by omega)]
      simpa using hasC_at h j
  have hp := (pre_parts a (⟨#[c]⟩ ++ t)).1
  have hq := (pre_parts (a ++ ⟨#[c]⟩) t).2
  rw [app_assoc, ByteArray.size_append] at hq
  unfold cutL cutR cutH
  generalize a ++ (⟨#[c]⟩ ++ t) = s at *
  obtain ⟨h1, h2, h3⟩ := Lib.cutB_hit s _ _ hi
  rw [h1, h2, h3]
  exact ⟨hp, hq, rfl⟩
theorem cut_none {c : UInt8} {a : ByteArray} (h : hasC c a = false) : cutL c a = a ∧ cutR c a = ByteArray.empty ∧ cutH c a = false := by
  have hi : Lib.indexB a ⟨#[c]⟩ = -1 := by
    show Lib.index a.data.toList [c] = _
    refine Lib.index_none ?_
    intro j hj
    rw [occ_one]
    simpa using hasC_at h j
  exact Lib.cutB_miss _ _ hi
/-- The lines of a text, and whether it ends with one. -/
def bodyT (text : ByteArray) : ByteArray := ⟨(Lib.trimSuffix text.data.toList lineS.data.toList).toArray⟩
def endsT (text : ByteArray) : Bool := Lib.hasSuffix text.data.toList lineS.data.toList
def linesF (text : ByteArray) : List ByteArray × Bool := if text.size = 0 then ([], true) else (splitC 10 (bodyT text), endsT text)
def idxI (names : List ByteArray) (nm : ByteArray) : Int := fidx (fun y => eqS y nm) names
def refI (names : List ByteArray) (l wd : ByteArray) : Int :=
  if cutH 59 l = true ∧ eqS (cutL 32 (cutR 59 l)) wd = true then idxI names (cutR 32 (cutR 59 l)) else -1
def entI (names : List ByteArray) (l : ByteArray) : Ent := ⟨cutL 59 l, refI names l see3, refI names l below5⟩
def listI (ls : List ByteArray) : List Ent := ls.map (entI (ls.map (cutL 59)))
theorem lines_text {xs : List Ent} (h : standsB xs = true) : linesF (textL xs) = (xs.map (lineB xs), true) := by
  have hc := line_clean h
  rw [textL_join]
  cases xs with
  | nil => rfl
  | cons x r =>
    have hn : (x :: r).map (lineB (x :: r)) ≠ [] := by simp
    generalize (x :: r).map (lineB (x :: r)) = ls at hc hn
    have hj := joinL_body 10 hn
    have hl : (joinL 10 ls).data.toList = (bodyL 10 ls).data.toList ++ lineS.data.toList := by
      rw [hj, app_data]
    have hs : Lib.hasSuffix (joinL 10 ls).data.toList lineS.data.toList = true := by
      unfold Lib.hasSuffix
      rw [hl, List.isSuffixOf_iff_suffix]
      exact List.suffix_append _ _
    have hb : bodyT (joinL 10 ls) = bodyL 10 ls := by
      unfold bodyT Lib.trimSuffix
      rw [hs, if_pos rfl, hl]
      apply ext_ba
      simp
    unfold linesF endsT
    rw [hb, hs, splitC_bodyL hn hc, if_neg (by rw [hj, ByteArray.size_append]; show ¬ (_ + 1 = 0); omega)]
theorem cut_head {xs : List Ent} (h : standsB xs = true) (x : Ent) (hx : x ∈ xs) : cutL 59 (lineB xs x) = x.nm := by
  obtain ⟨i, hi, rfl⟩ := List.getElem_of_mem hx
  have hn : hasC 59 xs[i]!.nm = false := (name_clean (stand_parts (stands_at h i hi)).1).2
  rw [← getBang xs i hi]
  rcases line_form h i hi with ⟨_, _, he⟩ | ⟨n, hn2, _, _, he⟩ | ⟨n, hn2, _, _, he⟩
  · rw [he, (cut_none hn).1]
  · rw [he, (cut_app hn _).1]
  · rw [he, (cut_app hn _).1]
theorem idxI_text {xs : List Ent} (h : standsB xs = true) (n : Nat) (hn : n < xs.length) : idxI ((xs.map (lineB xs)).map (cutL 59)) xs[n]!.nm = n := by
  unfold idxI
  rw [List.map_map, fidx_map]
  exact (fidx_congr (fun x hx => by show eqS (cutL 59 (lineB xs x)) _ = eqS x.nm _; rw [cut_head h x hx])).trans (names_first h n hn)
theorem refI_none (names : List ByteArray) (l wd : ByteArray) (h : hasC 59 l = false) : refI names l wd = -1 := by
  unfold refI
  rw [(cut_none h).2.2, if_neg (by simp)]
theorem see_space (t : ByteArray) : seeW ++ t = see3 ++ (⟨#[32]⟩ ++ t) := by rw [← app_assoc]; rfl
theorem below_space (t : ByteArray) : belowW ++ t = below5 ++ (⟨#[32]⟩ ++ t) := by rw [← app_assoc]; rfl
theorem refI_word (names : List ByteArray) (a wd wd' t : ByteArray) (h : hasC 59 a = false) (hw : hasC 32 wd = false) :
    refI names (a ++ (⟨#[59]⟩ ++ (wd ++ (⟨#[32]⟩ ++ t)))) wd' = if eqS wd wd' = true then idxI names t else -1 := by
  obtain ⟨_, h2, h3⟩ := cut_app h (wd ++ (⟨#[32]⟩ ++ t))
  obtain ⟨h4, h5, _⟩ := cut_app hw t
  unfold refI
  rw [h2, h3, h4, h5]
  by_cases he : eqS wd wd' = true
  · rw [if_pos ⟨rfl, he⟩, if_pos he]
  · rw [if_neg (fun hx => he hx.2), if_neg he]
theorem listI_text {xs : List Ent} (h : standsB xs = true) : listI (xs.map (lineB xs)) = xs := by
  unfold listI
  rw [List.map_map (g := entI _)]
  have : ∀ x ∈ xs, (entI ((xs.map (lineB xs)).map (cutL 59)) ∘ lineB xs) x = id x := by
    intro x hx
    have hd0 := cut_head h x hx
    obtain ⟨i, hi, rfl⟩ := List.getElem_of_mem hx
    have hn : ∀ j, j < xs.length → hasC 59 xs[j]!.nm = false := fun j hj => (name_clean (stand_parts (stands_at h j hj)).1).2
    show entI _ (lineB xs xs[i]) = xs[i]
    unfold entI
    rw [hd0, ← getBang xs i hi]
    have e1 : eqS see3 see3 = true := by simp [eqS]
    have e2 : eqS below5 below5 = true := by simp [eqS]
    have e3 : ¬ eqS see3 below5 = true := eqS_ne (by decide)
    have e4 : ¬ eqS below5 see3 = true := eqS_ne (by decide)
    rcases line_form h i hi with ⟨h1, h2, he⟩ | ⟨n, hn2, h1, h2, he⟩ | ⟨n, hn2, h1, h2, he⟩
    · rw [he, refI_none _ _ _ (hn i hi), refI_none _ _ _ (hn i hi)]
      conv => rhs; rw [show xs[i]! = ⟨xs[i]!.nm, xs[i]!.see, xs[i]!.br⟩ from rfl, h1, h2]
      try rfl
    · rw [he, see_space, refI_word _ _ _ _ _ (hn i hi) rfl, refI_word _ _ _ _ _ (hn i hi) rfl, if_pos e1, if_neg e3, idxI_text h n hn2]
      conv => rhs; rw [show xs[i]! = ⟨xs[i]!.nm, xs[i]!.see, xs[i]!.br⟩ from rfl, h1, h2]
      try rfl
    · rw [he, below_space, refI_word _ _ _ _ _ (hn i hi) rfl, refI_word _ _ _ _ _ (hn i hi) rfl, if_pos e2, if_neg e4, idxI_text h n hn2]
      conv => rhs; rw [show xs[i]! = ⟨xs[i]!.nm, xs[i]!.see, xs[i]!.br⟩ from rfl, h1, h2]
      try rfl
  rw [List.map_congr_left this, List.map_id]
/-- Is a text that of a valid catalogue? -/
def readB (text : ByteArray) : Bool := catB (listS text) && eqS (textL (listS text)) text
theorem eqS_eq {a b : ByteArray} (h : eqS a b = true) : a = b := by
  unfold eqS at h
  rw [beq_iff_eq, Lib.toList_data, Lib.toList_data] at h
  exact ext_ba h
/-- The program's answer is that of the model. -/
theorem read_same (text : ByteArray) :
    readB text = ((linesF text).2 && (catB (listI (linesF text).1) && eqS (textL (listI (linesF text).1)) text)) ∧ (readB text = true → listI (linesF text).1 = listS text) := by
  have two : readB text = true → linesF text = ((listS text).map (lineB (listS text)), true) ∧ listI (linesF text).1 = listS text := by
    intro h
    unfold readB at h
    rw [Bool.and_eq_true] at h
    have hst : standsB (listS text) = true := by
      have := h.1
      unfold catB at this
      simp only [Bool.and_eq_true] at this
      exact this.2.1
    have ht := eqS_eq h.2
    have hl := lines_text hst
    rw [ht] at hl
    refine ⟨hl, ?_⟩
    rw [hl]
    exact listI_text hst
  refine ⟨?_, fun h => (two h).2⟩
  rw [Bool.eq_iff_iff]
  constructor
  · intro h
    obtain ⟨h1, h2⟩ := two h
    have h3 : (linesF text).2 = true := by rw [h1]
    rw [h2, h3, Bool.true_and]
    exact h
  · intro h
    rw [Bool.and_eq_true, Bool.and_eq_true] at h
    have hst : standsB (listI (linesF text).1) = true := by
      have := h.2.1
      unfold catB at this
      simp only [Bool.and_eq_true] at this
      exact this.2.1
    have hs := listS_text hst
    have ht := eqS_eq h.2.2
    rw [ht] at hs
    unfold readB
    rw [hs, h.2.1, h.2.2]
    rfl
end Go.Proofs.YtmphnocgihegbaaDoor
