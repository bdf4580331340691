/-
  PK10: the texts F18 Q0 E11 E12 E30 L9 in one (written by pack.py).
-/
import Derived.Test.YtdiblmlcapommaaGreatDoorPK9
import Derived.Test.YtdiblmlcapommaaGreatDoorPK4
import Derived.Test.YtdiblmlcapommaaGreatDoorPK6
import Derived.Test.YtdiblmlcapommaaGreatDoorPK5
import Derived.Test.YtdiblmlcapommaaGreatDoorPK8
set_option linter.unusedVariables false
namespace Go.Proofs.YtdiblmlcapommaaGreatDoor
open Go.RowKit
instance : Inhabited Fld := ⟨⟨⟨#[]⟩, 0, 0, 0⟩⟩
/-- What is known of a field in memory. -/
def FldIn (f : Fld) : Prop := Fld.ok f ∧ f.nm.size ≤ 9223372036854775807
def Fld.z : Fld := ⟨⟨#[]⟩, 0, 0, 0⟩
/-- The elements of a slice of fields. -/
def encFld : Enc Fld where
  enc f := [.string f.nm, .int .i8 f.kd, .int .i16 f.st, .int .i16 f.sz]
  sz := 4
  len _ := rfl
  one f u hu := by
    simp only [List.mem_cons, List.not_mem_nil, or_false] at hu
    rcases hu with rfl | rfl | rfl | rfl <;> rfl
  pos := by decide
theorem Rd.fld {w : World} {b off : Nat} {xs : List Fld} (h : Rd encFld w (some ⟨b, off, none⟩) xs) (k : Nat) (hk : k < xs.length) :
    w.cell? ⟨b, off + k * 4, none⟩ = some (.string xs[k].nm) ∧ w.cell? ⟨b, off + k * 4 + 1, none⟩ = some (.int .i8 xs[k].kd) ∧ w.cell? ⟨b, off + k * 4 + 2, none⟩ = some (.int .i16 xs[k].st) ∧ w.cell? ⟨b, off + k * 4 + 3, none⟩ = some (.int .i16 xs[k].sz) ∧ b < w.heap.size := by
  obtain ⟨b', off', e1, hlt, hc⟩ := h k hk
  simp only [Option.some.injEq, Addr.mk.injEq, and_true] at e1
  obtain ⟨rfl, rfl⟩ := e1
  exact ⟨hc 0 _ rfl, hc 1 _ rfl, hc 2 _ rfl, hc 3 _ rfl, hlt⟩
theorem Rd.fldAt {w : World} {b off : Nat} {xs : List Fld} (h : Rd encFld w (some ⟨b, off, none⟩) xs) (k : Nat) (hk : k < xs.length) : FldAt w b (off + k * 4) xs[k] := by
  obtain ⟨h0, h1, h2, h3, _⟩ := h.fld k hk
  exact ⟨h0, h1, h2, h3⟩
theorem getF (xs : List Fld) (k : Nat) (hk : k < xs.length) : xs[k]! = xs[k] := getElem!_pos xs k hk
/-- The holes of the first fields. -/
def allTo (xs : List Fld) (k : Nat) : Mask := orTo (fun i => partF xs[i]!) k
theorem allTo_succ (xs : List Fld) (k : Nat) (hk : k < xs.length) : allTo xs (k + 1) = mjoin (allTo xs k) (partF xs[k]) := by unfold allTo; rw [orTo_succ, getF xs k hk]
theorem allTo_zero (xs : List Fld) : allTo xs 0 = 0 := rfl
/-- Has one of some fields a name? -/
def hasFn (xs : List Fld) (nm : ByteArray) : Bool := xs.any fun g => g.nm.toList == nm.toList
/-- A field of a list is valid, has its own holes and its own name. -/
def fitB (xs : List Fld) (k : Nat) : Bool := fldB xs[k]! && (mzero (mmeet (allTo xs k) (partF xs[k]!)) && !hasFn (xs.take k) xs[k]!.nm)
def fitsTo (xs : List Fld) (n : Nat) : Bool := (List.range n).all (fitB xs)
/-- Is a list of fields a valid scheme? -/
def schB (xs : List Fld) : Bool := decide (xs.length ≤ 12) && fitsTo xs xs.length
theorem fitsTo_succ (xs : List Fld) (n : Nat) : fitsTo xs (n + 1) = (fitsTo xs n && fitB xs n) := by
  unfold fitsTo
  rw [List.range_succ, List.all_append]
  simp
theorem sch_long {xs : List Fld} (h : ¬ xs.length ≤ 12) : schB xs = false := by unfold schB; rw [decide_eq_false h]; rfl
theorem sch_miss {xs : List Fld} (k : Nat) (hk : k < xs.length) (h : fitB xs k = false) : schB xs = false := by
  unfold schB fitsTo
  rw [Bool.and_eq_false_iff]
  refine .inr ?_
  rw [List.all_eq_false]
  exact ⟨k, List.mem_range.2 hk, by simp [h]⟩
theorem fit_bad {xs : List Fld} {k : Nat} (hk : k < xs.length) (h : fldB xs[k] = false) : fitB xs k = false := by unfold fitB; rw [getF xs k hk, h]; rfl
theorem fit_over {xs : List Fld} {k : Nat} (hk : k < xs.length) (h : mzero (mmeet (allTo xs k) (partF xs[k])) = false) : fitB xs k = false := by unfold fitB; rw [getF xs k hk, h, Bool.false_and, Bool.and_false]
theorem fit_name {xs : List Fld} {k : Nat} (hk : k < xs.length) (h : hasFn (xs.take k) xs[k].nm = true) : fitB xs k = false := by unfold fitB; rw [getF xs k hk, h, Bool.not_true, Bool.and_false, Bool.and_false]
theorem fit_good {xs : List Fld} {k : Nat} (hk : k < xs.length) (h1 : fldB xs[k] = true) (h2 : mzero (mmeet (allTo xs k) (partF xs[k])) = true) (h3 : hasFn (xs.take k) xs[k].nm = false) : fitB xs k = true := by unfold fitB; rw [getF xs k hk, h1, h2, h3]; rfl
theorem sch_all {xs : List Fld} (h : schB xs = true) : xs.length ≤ 12 ∧ ∀ k (hk : k < xs.length), fldB xs[k] = true := by
  unfold schB at h
  rw [Bool.and_eq_true, decide_eq_true_eq] at h
  refine ⟨h.1, fun k hk => ?_⟩
  have := List.all_eq_true.1 h.2 k (List.mem_range.2 hk)
  unfold fitB at this
  rw [getF xs k hk, Bool.and_eq_true] at this
  exact this.1
attribute [irreducible] allTo schB
end Go.Proofs.YtdiblmlcapommaaGreatDoor
set_option linter.unusedVariables false
set_option linter.unusedSimpArgs false
set_option maxRecDepth 100000
namespace Go.Proofs.YtdiblmlcapommaaGreatDoor
open Go.RowKit
/-- The names of the kinds. -/
def kindS (k : Nat) : ByteArray := match k with
  | 0 => ⟨#[100, 105, 114, 101, 99, 116]⟩
  | 1 => ⟨#[115, 117, 109]⟩
  | 2 => ⟨#[112, 97, 105, 114, 115]⟩
  | _ => ⟨#[98, 105, 110, 97, 114, 121]⟩
theorem kindS_inj {a b : Nat} (ha : a < 4) (hb : b < 4) (h : kindS a = kindS b) : a = b := by
  have hs : ∀ a : Fin 4, ∀ b : Fin 4, (kindS a).data.toList = (kindS b).data.toList → a = b := by decide
  have := hs ⟨a, ha⟩ ⟨b, hb⟩ (by rw [h])
  exact congrArg Fin.val this
theorem decT_inj {a b : Nat} (ha : a < 100) (hb : b < 100) (h : decT a = decT b) : a = b := by
  have e := congrArg (fun s : ByteArray => s.data.toList) h
  simp only [decT_data] at e
  rw [← (num_small a ha).2, ← (num_small b hb).2, e]
/-- The line says the field. -/
def fits (l : ByteArray) (f : Fld) : Prop := ∃ k a b : Nat, splitC 32 l = [f.nm, kindS k, decT a, decT b] ∧ k < 4 ∧ a ≤ 96 ∧ b ≤ 96 ∧ f.kd = k ∧ f.st = a ∧ f.sz = b
theorem fits_uniq {l : ByteArray} {f g : Fld} (h : fits l f) (h' : fits l g) : f = g := by
  obtain ⟨k, a, b, e, hk, ha, hb, h1, h2, h3⟩ := h
  obtain ⟨k', a', b', e', hk', ha', hb', h1', h2', h3'⟩ := h'
  rw [e] at e'
  simp only [List.cons.injEq, and_true] at e'
  obtain ⟨e0, e1, e2, e3⟩ := e'
  have := kindS_inj hk hk' e1
  have := decT_inj (by omega) (by omega) e2
  have := decT_inj (by omega) (by omega) e3
  subst k' a' b'
  obtain ⟨n, x, y, z⟩ := f
  obtain ⟨n', x', y', z'⟩ := g
  dsimp only at *
  rw [e0, h1, h2, h3, h1', h2', h3']
theorem fld_lim {f : Fld} (h : fldB f = true) : f.st < 96 ∧ f.sz < 96 := by
  unfold fldB at h
  rw [Bool.and_eq_true, decide_eq_true_eq] at h
  obtain ⟨_, h0, h3, h4, h5, h6, h7⟩ := h
  have hm : mostSz f.kd ≤ 24 := by unfold mostSz; split <;> (try split) <;> omega
  have hn : f.sz ≤ manyF f.kd f.sz := by unfold manyF; split <;> (try split) <;> (try split) <;> omega
  omega
/-- No valid field is said by the line. -/
def bad (l : ByteArray) : Prop := ∀ f, fldB f = true → ¬ fits l f
/-- The text says the fields. -/
def saysF (text : ByteArray) (xs : List Fld) : Prop := ∃ ls, splitC 10 text = ls ++ [⟨#[]⟩] ∧ ls.length = xs.length ∧ ∀ i (h : i < ls.length) (h' : i < xs.length), fits ls[i] xs[i]
theorem says_uniq {text : ByteArray} {xs ys : List Fld} (h : saysF text xs) (h' : saysF text ys) : xs = ys := by
  obtain ⟨ls, e, h1, h2⟩ := h
  obtain ⟨ms, e', h1', h2'⟩ := h'
  rw [e] at e'
  obtain ⟨rfl, _⟩ := List.append_inj' e' rfl
  exact List.ext_getElem (by omega) (fun i hi hi' => fits_uniq (h2 i (by omega) hi) (h2' i (by omega) hi'))
/-- What ReadScheme returns. -/
def RSP (text : ByteArray) (xs : List Fld) (c : Int) : Prop := (c = 0 ∧ saysF text xs ∧ schB xs = true) ∨ (c = 5 ∧ xs = [] ∧ ∀ ys, schB ys = true → ¬ saysF text ys)
theorem RSP.uniq {text : ByteArray} {xs ys : List Fld} {c d : Int} (h : RSP text xs c) (h' : RSP text ys d) : xs = ys ∧ c = d := by
  rcases h with ⟨rfl, h1, h2⟩ | ⟨rfl, rfl, h1⟩ <;> rcases h' with ⟨rfl, g1, g2⟩ | ⟨rfl, rfl, g1⟩
  · exact ⟨says_uniq h1 g1, rfl⟩
  · exact absurd h1 (g1 _ h2)
  · exact absurd g1 (h1 _ g2)
  · exact ⟨rfl, rfl⟩
theorem RSP.no {text : ByteArray} (h : ∀ ys, schB ys = true → ¬ saysF text ys) : RSP text [] 5 := .inr ⟨rfl, rfl, h⟩
theorem no_bad {text : ByteArray} {ls : List ByteArray} (e : splitC 10 text = ls ++ [⟨#[]⟩]) {k : Nat} (hk : k < ls.length) (hb : bad ls[k]) : ∀ ys, schB ys = true → ¬ saysF text ys := by
  rintro ys hs ⟨ms, e', h1, h2⟩
  rw [e] at e'
  obtain ⟨rfl, _⟩ := List.append_inj' e' rfl
  exact hb _ ((sch_all hs).2 k (by omega)) (h2 k hk (by omega))
theorem no_end {text : ByteArray} (h : ∀ ls, splitC 10 text ≠ ls ++ [⟨#[]⟩]) : ∀ ys, schB ys = true → ¬ saysF text ys := by
  rintro ys hs ⟨ms, e', h1, h2⟩
  exact h _ e'
theorem no_sch {text : ByteArray} {xs : List Fld} (h : saysF text xs) (hs : schB xs = false) : ∀ ys, schB ys = true → ¬ saysF text ys := by
  intro ys h1 h2
  rw [says_uniq h h2, h1] at hs
  cases hs
theorem split_snoc {c : UInt8} : ∀ (n : Nat) (s : ByteArray), s.size ≤ n → splitC c (s ++ ⟨#[c]⟩) = splitC c s ++ [⟨#[]⟩]
  | n, s, hn => by
    by_cases hc : hasC c s = true
    · obtain ⟨l1, l2, h1, h2⟩ := part_at s.data.toList hc
      have hno : hasC c ⟨l1.toArray⟩ = false := by unfold hasC; simpa using h2
      have he : s = ⟨l1.toArray⟩ ++ (⟨#[c]⟩ ++ ⟨l2.toArray⟩) := ext_ba (by rw [app_data, app_data, h1]; simp)
      have hlen : s.size = l1.length + (1 + l2.length) := by
        show s.data.toList.length = _
        rw [h1]
        simp
        omega
      rw [he, app_assoc, app_assoc, splitC_app hno, splitC_app hno]
      match n, hn with
      | 0, hn => omega
      | n + 1, hn =>
        rw [split_snoc n ⟨l2.toArray⟩ (by show l2.length ≤ n; omega)]
        rfl
    · have hc : hasC c s = false := by simpa using hc
      have := splitC_app hc (⟨#[]⟩ : ByteArray)
      rw [empty_app] at this
      rw [this, splitC_none hc, splitC_none (by rfl)]
      rfl
theorem split_last {c : UInt8} : ∀ (n : Nat) (s : ByteArray), s.size ≤ n → s.size ≠ 0 → ∀ ls, splitC c s = ls ++ [⟨#[]⟩] → ∃ l : List UInt8, s.data.toList = l ++ [c]
  | n, s, hn, h0, ls, hl => by
    by_cases hc : hasC c s = true
    · obtain ⟨l1, l2, h1, h2⟩ := part_at s.data.toList hc
      have hno : hasC c ⟨l1.toArray⟩ = false := by unfold hasC; simpa using h2
      have he : s = ⟨l1.toArray⟩ ++ (⟨#[c]⟩ ++ ⟨l2.toArray⟩) := ext_ba (by rw [app_data, app_data, h1]; simp)
      have hlen : s.size = l1.length + (1 + l2.length) := by
        show s.data.toList.length = _
        rw [h1]
        simp
        omega
      by_cases h3 : l2 = []
      · subst h3
        exact ⟨l1, h1⟩
      · rw [he, splitC_app hno] at hl
        match n, hn with
        | 0, hn => omega
        | n + 1, hn =>
          have h4 : (⟨l2.toArray⟩ : ByteArray).size ≠ 0 := fun h => h3 (List.length_eq_zero_iff.1 h)
          cases ls with
          | nil =>
            rw [List.nil_append, List.cons.injEq] at hl
            have := splitC_len ⟨l2.toArray⟩ c
            rw [hl.2] at this
            simp at this
          | cons y ys =>
            rw [List.cons_append, List.cons.injEq] at hl
            obtain ⟨l, h5⟩ := split_last n ⟨l2.toArray⟩ (by show l2.length ≤ n; omega) h4 ys hl.2
            refine ⟨l1 ++ (c :: l), ?_⟩
            rw [h1, show l2 = l ++ [c] from h5]
            simp
    · have hc : hasC c s = false := by simpa using hc
      rw [splitC_none hc] at hl
      cases ls with
      | nil =>
        rw [List.nil_append, List.cons.injEq] at hl
        rw [hl.1] at h0
        exact absurd rfl h0
      | cons y ys => rw [List.cons_append, List.cons.injEq] at hl; exact absurd hl.2 (by simp)
theorem lines_end (text : ByteArray) : ((linesF text).2 = true → splitC 10 text = (linesF text).1 ++ [⟨#[]⟩]) ∧ ((linesF text).2 = false → ∀ ls, splitC 10 text ≠ ls ++ [⟨#[]⟩]) := by
  unfold linesF
  by_cases h0 : text.size = 0
  · rw [if_pos h0]
    obtain rfl : text = ⟨#[]⟩ := size_zero h0
    exact ⟨fun _ => by rw [splitC_none (by rfl)]; rfl, fun h => by cases h⟩
  · rw [if_neg h0]
    dsimp only
    constructor
    · intro h
      unfold endsT at h
      have hb : text = bodyT text ++ ⟨#[10]⟩ := by
        unfold bodyT Lib.trimSuffix
        rw [h, if_pos rfl]
        unfold Lib.hasSuffix at h
        rw [List.isSuffixOf_iff_suffix] at h
        obtain ⟨p, hp⟩ := h
        apply ext_ba
        rw [app_data, ← hp]
        simp [lineS]
      have := split_snoc (c := 10) (bodyT text).size (bodyT text) (Nat.le_refl _)
      rw [← hb] at this
      exact this
    · intro h ls hl
      obtain ⟨l, h1⟩ := split_last (c := 10) text.size text (Nat.le_refl _) h0 ls hl
      unfold endsT Lib.hasSuffix at h
      rw [h1, Bool.eq_false_iff] at h
      exact h (List.isSuffixOf_iff_suffix.2 (List.suffix_append _ _))
theorem split_last_eq {c : UInt8} {s : ByteArray} {ls : List ByteArray} (h : splitC c s = ls) (hn : 1 ≤ ls.length) : (ls[ls.length - 1]'(by omega) = ⟨#[]⟩ → splitC c s = ls.dropLast ++ [⟨#[]⟩]) ∧ (ls[ls.length - 1]'(by omega) ≠ ⟨#[]⟩ → ∀ ms, splitC c s ≠ ms ++ [⟨#[]⟩]) := by
  have hne : ls ≠ [] := fun h => by rw [h] at hn; simp at hn
  have hl : ls.getLast hne = ls[ls.length - 1]'(by omega) := List.getLast_eq_getElem hne
  constructor
  · intro h1
    rw [h, ← h1, ← hl, List.dropLast_concat_getLast]
  · intro h1 ms h2
    rw [h] at h2
    apply h1
    rw [← hl]
    subst h2
    simp
theorem split_ne10 (c : UInt8) (s : ByteArray) : 1 ≤ (splitC c s).length := by rw [splitC_len]; omega
def kindsL : List ByteArray := [kindS 0, kindS 1, kindS 2, kindS 3]
theorem kindsL_at {k : Nat} (h : k < kindsL.length) : kindsL[k] = kindS k := by
  have h4 : k < 4 := h
  have : ∀ k : Fin 4, kindsL[k.val]'(k.isLt) = kindS k.val := by intro k; match k with | ⟨0, _⟩ => rfl | ⟨1, _⟩ => rfl | ⟨2, _⟩ => rfl | ⟨3, _⟩ => rfl
  exact this ⟨k, h4⟩
theorem num_of {k : Nat} (hk : k < 100) : numB (decT k).data.toList = true ∧ valL (decT k).data.toList = k := by
  rw [decT_data]
  exact num_small k hk
theorem field_bad {line n q1 q2 q3 : ByteArray} (hw : splitC 32 line = [n, q1, q2, q3])
    (h : numB q2.data.toList = false ∨ numB q3.data.toList = false ∨ 96 ≤ valL q2.data.toList ∨ 96 ≤ valL q3.data.toList ∨ ∀ j < 4, kindS j ≠ q1) : bad line := by
  rintro f hf ⟨k, a, b, e, hk, ha, hb, h1, h2, h3⟩
  have hl := fld_lim hf
  rw [hw] at e
  simp only [List.cons.injEq, and_true] at e
  obtain ⟨e0, rfl, rfl, rfl⟩ := e
  have na := num_of (k := a) (by omega)
  have nb := num_of (k := b) (by omega)
  rw [na.1, na.2, nb.1, nb.2] at h
  rcases h with h | h | h | h | h
  · cases h
  · cases h
  · omega
  · omega
  · exact h k hk rfl
theorem bad_len {line : ByteArray} (h : ¬ (splitC 32 line).length = 4) : bad line := by
  rintro f hf ⟨k, a, b, e, _⟩
  rw [e] at h
  exact h rfl
theorem field_fits {line n q1 q2 q3 : ByteArray} (hw : splitC 32 line = [n, q1, q2, q3]) {j : Nat} (hj : j < 4) (h1 : kindS j = q1) (h2 : numB q2.data.toList = true) (h3 : numB q3.data.toList = true)
    (h4 : valL q2.data.toList < 96) (h5 : valL q3.data.toList < 96) : fits line ⟨n, j, valL q2.data.toList, valL q3.data.toList⟩ :=
  ⟨j, _, _, by rw [hw, h1, ← num_dec h2, ← num_dec h3], hj, by omega, by omega, rfl, rfl, rfl⟩
theorem four_of {l : List ByteArray} (h : l.length = 4) : ∃ a b c d, l = [a, b, c, d] := by
  match l, h with
  | [a, b, c, d], _ => exact ⟨a, b, c, d, rfl⟩
theorem kind_find {q : ByteArray} {c : Int} {k : Nat} (h : (c = -1 ∧ ∀ j < k, kindS j ≠ q) ∨ ∃ j < k, c = j ∧ kindS j = q) (hk : k < 4) :
    (kindS k = q → (((k : Int) = -1 ∧ ∀ j < k + 1, kindS j ≠ q) ∨ ∃ j < k + 1, (k : Int) = j ∧ kindS j = q)) ∧ (kindS k ≠ q → ((c = -1 ∧ ∀ j < k + 1, kindS j ≠ q) ∨ ∃ j < k + 1, c = j ∧ kindS j = q)) := by
  refine ⟨fun e => .inr ⟨k, by omega, rfl, e⟩, fun e => ?_⟩
  rcases h with ⟨h1, h2⟩ | ⟨j, h1, h2, h3⟩
  · refine .inl ⟨h1, fun j hj => ?_⟩
    by_cases hjk : j = k
    · rw [hjk]; exact e
    · exact h2 j (by omega)
  · exact .inr ⟨j, by omega, h2, h3⟩
theorem field_fits2 {line n q1 q2 q3 : ByteArray} (hw : splitC 32 line = [n, q1, q2, q3]) {j : Nat} (hj : j < 4) (h1 : kindS j = q1) (h2 : numB q2.data.toList = true) (h3 : numB q3.data.toList = true)
    (h4 : valL q2.data.toList ≤ 96) (h5 : valL q3.data.toList ≤ 96) : fits line ⟨n, j, valL q2.data.toList, valL q3.data.toList⟩ :=
  ⟨j, _, _, by rw [hw, h1, ← num_dec h2, ← num_dec h3], hj, h4, h5, rfl, rfl, rfl⟩
/-- The first k lines say the fields. -/
def saysTo (ls : List ByteArray) (xs : List Fld) : Prop := xs.length ≤ ls.length ∧ ∀ i (h : i < ls.length) (h' : i < xs.length), fits ls[i] xs[i]
theorem saysTo_nil (ls : List ByteArray) : saysTo ls [] := ⟨Nat.zero_le _, fun i h h' => by cases h'⟩
theorem saysTo_push {ls : List ByteArray} {xs : List Fld} (h : saysTo ls xs) (hk : xs.length < ls.length) {f : Fld} (hf : fits ls[xs.length] f) : saysTo ls (xs ++ [f]) := by
  refine ⟨by rw [List.length_append, List.length_singleton]; omega, fun i a b => ?_⟩
  by_cases hi : i < xs.length
  · rw [List.getElem_append_left hi]; exact h.2 i a hi
  · have he : i = xs.length := by rw [List.length_append, List.length_singleton] at b; omega
    subst he
    rw [List.getElem_append_right (Nat.le_refl _)]
    simpa using hf
theorem says_of {text : ByteArray} {ls : List ByteArray} (e : splitC 10 text = ls ++ [⟨#[]⟩]) {xs : List Fld} (h : saysTo ls xs) (hl : xs.length = ls.length) : saysF text xs := ⟨ls, e, hl.symm, fun i a b => h.2 i a b⟩
theorem RSP.ok {text : ByteArray} {xs : List Fld} (h : saysF text xs) (hs : schB xs = true) : RSP text xs 0 := .inl ⟨rfl, h, hs⟩
/-- What is known of a number that the program reads. -/
def NumR (s : ByteArray) (n : Int) (ok : Bool) : Prop := (ok = true → ∃ k : Nat, n = k ∧ s = decT k) ∧ (∀ k : Nat, k < 96 → s = decT k → ok = true ∧ n = k)
/-- The place of a kind's name. -/
def KindR (q : ByteArray) (c : Int) : Prop := (c = -1 ∧ ∀ j < 4, kindS j ≠ q) ∨ ∃ j < 4, c = ((j : Nat) : Int) ∧ kindS j = q
theorem line_bad {line n q1 q2 q3 : ByteArray} (hw : splitC 32 line = [n, q1, q2, q3]) {n1 n2 c : Int} {ok1 ok2 : Bool} (h1 : NumR q2 n1 ok1) (h2 : NumR q3 n2 ok2) (hk : KindR q1 c) (h : c < 0 ∨ ok1 = false ∨ ok2 = false ∨ 96 < n1 ∨ 96 < n2) : bad line := by
  rintro f hf ⟨k, a, b, e, hk4, ha, hb, g1, g2, g3⟩
  have hl := fld_lim hf
  rw [hw] at e
  simp only [List.cons.injEq, and_true] at e
  obtain ⟨e0, rfl, rfl, rfl⟩ := e
  obtain ⟨a1, a2⟩ := h1.2 a (by omega) rfl
  obtain ⟨b1, b2⟩ := h2.2 b (by omega) rfl
  rcases h with h | h | h | h | h
  · rcases hk with ⟨_, h3⟩ | ⟨j, _, h3, _⟩
    · exact h3 k hk4 rfl
    · omega
  · rw [a1] at h; cases h
  · rw [b1] at h; cases h
  · omega
  · omega
theorem line_fits {line n q1 q2 q3 : ByteArray} (hw : splitC 32 line = [n, q1, q2, q3]) {n1 n2 c : Int} {ok1 ok2 : Bool} (h1 : NumR q2 n1 ok1) (h2 : NumR q3 n2 ok2) (hk : KindR q1 c) (hc : 0 ≤ c) (g1 : ok1 = true) (g2 : ok2 = true) (g3 : n1 ≤ 96) (g4 : n2 ≤ 96) :
    fits line ⟨n, c, n1, n2⟩ ∧ c ≤ 3 ∧ 0 ≤ n1 ∧ 0 ≤ n2 := by
  obtain ⟨a, rfl, rfl⟩ := h1.1 g1
  obtain ⟨b, rfl, rfl⟩ := h2.1 g2
  rcases hk with ⟨h3, _⟩ | ⟨j, hj, rfl, rfl⟩
  · omega
  · exact ⟨⟨j, a, b, hw, hj, by omega, by omega, rfl, rfl, rfl⟩, by omega, by omega, by omega⟩
end Go.Proofs.YtdiblmlcapommaaGreatDoor
set_option linter.unusedVariables false
set_option linter.unusedSimpArgs false
set_option maxRecDepth 100000
namespace Go.Proofs.YtdiblmlcapommaaGreatDoor
open Go.RowKit
/-- The numbers below n of which p holds, in order. -/
def pickI (p : Nat → Bool) : Nat → List Int
  | 0 => []
  | n + 1 => if p n = true then pickI p n ++ [(n : Int)] else pickI p n
theorem pickI_zero (p : Nat → Bool) : pickI p 0 = [] := rfl
theorem pickI_hit (p : Nat → Bool) (k : Nat) (h : p k = true) : pickI p (k + 1) = pickI p k ++ [(k : Int)] := by rw [pickI, if_pos h]
theorem pickI_miss (p : Nat → Bool) (k : Nat) (h : p k = false) : pickI p (k + 1) = pickI p k := by rw [pickI, if_neg (by simp [h])]
theorem pickI_len (p : Nat → Bool) : ∀ k, (pickI p k).length ≤ k
  | 0 => Nat.le_refl _
  | k + 1 => by
    rw [pickI]
    have := pickI_len p k
    split
    · rw [List.length_append, List.length_singleton]; omega
    · omega
attribute [irreducible] pickI
def topB (xs : List Ent) (k : Nat) : Bool := xs[k]!.see == -1 && xs[k]!.br == -1
def topsF (xs : List Ent) : List Int × Int := if catB xs = true then (pickI (topB xs) xs.length, 0) else ([], 1)
end Go.Proofs.YtdiblmlcapommaaGreatDoor
set_option linter.unusedVariables false
set_option linter.unusedSimpArgs false
set_option maxRecDepth 100000
namespace Go.Proofs.YtdiblmlcapommaaGreatDoor
open Go.RowKit
theorem Calls.ext_all {P : Program} {f : FuncId} {args : Array Value} {w : World} {x : ExtOf w} {v : Value}
    (h : ∀ W, Ext w W → Calls P f args W fun e w' => e = .returned v ∧ Ext W w') : Calls P f args x.val fun e w'' => e = .returned v ∧ ∃ y : ExtOf w, w'' = y.val := Calls.ext_of (h _ x.2)
def synB (xs : List Ent) (p : Int) (k : Nat) : Bool := xs[k]!.see == p
def synF (xs : List Ent) (i : Int) : List Int × Int := if atsF xs [i] = 0 then (pickI (synB xs (firstF xs i)) xs.length, 0) else ([], atsF xs [i])
end Go.Proofs.YtdiblmlcapommaaGreatDoor
set_option linter.unusedVariables false
set_option linter.unusedSimpArgs false
set_option maxRecDepth 100000
namespace Go.Proofs.YtdiblmlcapommaaGreatDoor
open Go.RowKit
theorem bodyT_le (s : ByteArray) : (bodyT s).size ≤ s.size := Lib.trimSuffix_le s.data.toList lineS.data.toList
theorem cutL_le (c : UInt8) (s : ByteArray) : (cutL c s).size ≤ s.size := by
  unfold cutL
  rcases Lib.indexB_cases s ⟨#[c]⟩ with h | ⟨i, h, hi⟩
  · rw [(Lib.cutB_miss _ _ h).1]
    exact Nat.le_refl _
  · rw [(Lib.cutB_hit _ _ _ h).1, ByteArray.size_extract]
    omega
theorem cutR_le (c : UInt8) (s : ByteArray) : (cutR c s).size ≤ s.size := by
  unfold cutR
  rcases Lib.indexB_cases s ⟨#[c]⟩ with h | ⟨i, h, hi⟩
  · rw [(Lib.cutB_miss _ _ h).2.1]
    exact Nat.zero_le _
  · rw [(Lib.cutB_hit _ _ _ h).2.1, ByteArray.size_extract]
    omega
/-- No piece is longer than the text. -/
theorem piece_le (c : UInt8) : ∀ (n : Nat) (s : ByteArray), s.size ≤ n → ∀ p ∈ splitC c s, p.size ≤ n := by
  intro n
  induction n with
  | zero =>
    intro s hs p hp
    have h0 : hasC c s = false := by
      have : s.data.toList = [] := List.length_eq_zero_iff.1 (by show s.size = 0; omega)
      unfold hasC
      rw [this]
      rfl
    rw [splitC_none h0, List.mem_singleton] at hp
    subst hp
    exact hs
  | succ n ih =>
    intro s hs p hp
    by_cases hc : hasC c s = true
    · have hcm : c ∈ s.data.toList := by
        unfold hasC at hc
        rw [List.any_eq_true] at hc
        obtain ⟨y, h1, h2⟩ := hc
        rw [beq_iff_eq] at h2
        exact h2 ▸ h1
      obtain ⟨l1, l2, h1, h2⟩ := List.eq_append_cons_of_mem hcm
      have he : s = (⟨l1.toArray⟩ : ByteArray) ++ (⟨#[c]⟩ ++ ⟨l2.toArray⟩) := by
        apply ext_ba
        rw [app_data, app_data, h1]
        rfl
      have hno : hasC c ⟨l1.toArray⟩ = false := by
        unfold hasC
        rw [List.any_eq_false]
        intro x hx hxc
        rw [beq_iff_eq] at hxc
        exact h2 (hxc ▸ hx)
      have hlen : s.size = l1.length + (1 + l2.length) := by
        show s.data.toList.length = _
        rw [h1]
        simp
        omega
      rw [show splitC c s = ⟨l1.toArray⟩ :: splitC c ⟨l2.toArray⟩ by rw [he, splitC_app hno]] at hp
      rcases List.mem_cons.1 hp with rfl | hp
      · show l1.length ≤ _
        omega
      · exact Nat.le_succ_of_le (ih ⟨l2.toArray⟩ (by show l2.length ≤ n; omega) p hp)
    · rw [splitC_none (by simpa using hc), List.mem_singleton] at hp
      subst hp
      exact hs
theorem strings_CutSuffix1 (s : ByteArray) (w : World) (hs : s.size ≤ 1048576) :
    Calls Tryz.prog 25 #[.string s, .string lineS] w fun e w' => e = .returned (.tuple #[.string (bodyT s), .bool (endsT s)]) ∧ Ext w w' :=
  (Tryz.strings_CutSuffix s lineS w (by omega)).mono (by rintro e w' ⟨rfl, rfl⟩; exact ⟨rfl, Ext.refl _⟩)
theorem Ext.drewN (w : World) (n : Nat) : Ext w (w.drewN n) := (Ext.refl w).trans ⟨rfl, rfl, rfl, Nat.le_refl _, fun _ _ => rfl⟩
set_option maxHeartbeats 400000 in
theorem impl_linesOf (s : ByteArray) (w : World) (hs : s.size ≤ 1048576) (hG : Glob w) :
    Calls Tryz.prog 12 #[.string s] w fun e w' => ∃ A, e = .returned (.tuple #[.slice A (linesF s).1.length (linesF s).1.length, .bool (linesF s).2]) ∧ Rd encStr w' A (linesF s).1 ∧ Ext w w' := by
  by_cases h0 : s.size = 0
  · obtain rfl : s = ⟨#[]⟩ := ext_ba (List.length_eq_zero_iff.1 h0)
    go_enter Tryz.func12, Tryz.ntmps12
    go_wp2
    refine bodyPost_ret (v := .tuple #[.slice none 0 0, .bool true]) (by simp [results, Tryz.results12, go_sem]) rfl ⟨none, rfl, ?_, by ((repeat (first | with_reducible exact Ext.refl _ | with_reducible exact hw | with_reducible exact hb9 | with_reducible exact hb8 | with_reducible exact hb7 | with_reducible exact hb6 | with_reducible exact hb5 | with_reducible exact hb4 | with_reducible exact hb3 | with_reducible exact hb2 | with_reducible exact hb1 | with_reducible refine Ext.alloc ?_ _ | with_reducible refine Ext.drew ?_ | ((with_reducible refine Ext.set ?_ ?_ _); focus (dsimp only; omega)) | with_reducible refine Ext.trans ?_ hb9 | with_reducible refine Ext.trans ?_ hb8 | with_reducible refine Ext.trans ?_ hb7 | with_reducible refine Ext.trans ?_ hb6 | with_reducible refine Ext.trans ?_ hb5 | with_reducible refine Ext.trans ?_ hb4 | with_reducible refine Ext.trans ?_ hb3 | with_reducible refine Ext.trans ?_ hb2 | with_reducible refine Ext.trans ?_ hb1 | with_reducible refine Ext.trans ?_ hw)))⟩
    intro k hk
    exact absurd hk (Nat.not_lt_zero _)
  · have hv := hd (show linesF s = (splitC 10 (bodyT s), endsT s) by unfold linesF; rw [if_neg h0])
    have hq : s.toList.isEmpty = false := by
      rw [Lib.toList_data, List.isEmpty_eq_false_iff]
      intro h
      exact h0 (by show s.data.toList.length = 0; rw [h]; rfl)
    go_enter Tryz.func12, Tryz.ntmps12
    go_wp2_with fail
    refine Calls.mono (strings_CutSuffix1 s _ hs) ?_
    rintro e w1 ⟨rfl, hb1⟩
    have hl := bodyT_le s
    generalize endsT s = b at hv
    generalize bodyT s = t at hv hl
    go_wp2_with fail
    refine Calls.mono (strings_Split t 10 _ (by omega) (hG.ext hb1)) ?_
    rintro e w2 ⟨rfl, hR, hb2⟩
    go_wp2
    refine bodyPost_ret (v := .tuple #[.slice (some ⟨w1.heap.size, 0, none⟩) (splitC 10 t).length (splitC 10 t).length, .bool b]) (by simp [results, Tryz.results12, go_sem]) rfl ⟨_, by rw [hv.out], by rw [hv.out]; exact hR, hb1.trans hb2⟩
set_option maxHeartbeats 400000 in
theorem slices_Index_str (ss : List ByteArray) (A : Option Addr) (n cap : Nat) (v : ByteArray) (w : World) (hnx : n = ss.length) (hR : Rd encStr w A ss) (hn : n ≤ 1048577) :
    Calls Tryz.prog 14 #[.slice A n cap, .string v] w fun e w' => e = .returned (.int .i64 (idxI ss v)) ∧ Ext w w' := by
  subst hnx
  go_enter Tryz.func14, Tryz.ntmps14
  go_wp2
  go_loopg [8] ss.length (fun g i wr => ∃ k : Nat, g = ss.length - k ∧ k ≤ ss.length ∧ i = .int .i64 k ∧ Ext w wr ∧ (ss.take k).any (fun y => eqS y v) = false)
  case atStart => exact ⟨0, by omega, by omega, rfl, Ext.refl _, by rw [List.take_zero]; rfl⟩
  case round =>
    obtain ⟨k, hg, hk, rfl, hw, hQ⟩ := hrel
    by_cases hkl : k < ss.length
    · obtain ⟨b, off, hA, hlt, _⟩ := hR k hkl
      subst hA
      have m0 := (hR.ext hw).str k hkl
      have hs := any_take (fun y => eqS y v) ss k hkl
      rw [hQ, Bool.false_or] at hs
      cases q : eqS ss[k] v with
      | true =>
        have hv := hd (fidx_hit (fun y => eqS y v) ss k hkl q hQ)
        have q2 : (v.toList == ss[k].toList) = true := by unfold eqS at q; rw [beq_iff_eq] at q; simp [q]
        clear hs hQ q
        go_wp2
        go_ret
        exact ⟨by unfold idxI; rw [hv.out]; rfl, hw⟩
      | false =>
        have hs2 := hd (hs.trans q)
        have q2 : (v.toList == ss[k].toList) = false := by
          unfold eqS at q
          rw [beq_eq_false_iff_ne] at *
          exact fun h => q h.symm
        clear hs hQ q
        go_wp2
        go_roundg (ss.length - (k + 1))
        case rel => exact ⟨k + 1, rfl, hkl, rfl, hw, hs2.out⟩
        case measure => omega
    · obtain rfl : k = ss.length := by omega
      rw [List.take_length] at hQ
      have hv := hd (fidx_none _ ss hQ)
      clear hQ
      go_wp2
      go_ret
      exact ⟨by unfold idxI; rw [hv.out]; rfl, hw⟩
end Go.Proofs.YtdiblmlcapommaaGreatDoor
set_option linter.unusedVariables false
namespace Go.Proofs.YtdiblmlcapommaaGreatDoor
open Go.RowKit
section
variable {α : Type} {e : Enc α} {w0 : World} {xs : List α} {T : TypeId} {base : Nat} {v : Value}
theorem Rd.news {w : World} {B : Addr} {ys : List α} (h : Rd e w (some B) ys) : ∀ (j : Nat) (u : Value), (e.all ys)[j]? = some u → w.cell? (B.add j) = some u := by
  intro j u hu
  have hj : j < ys.length * e.sz := by rw [← e.all_length]; exact (List.getElem?_eq_some_iff.1 hu).1
  have hq : j / e.sz < ys.length := (Nat.div_lt_iff_lt_mul e.pos).2 hj
  have hr : j % e.sz < e.sz := Nat.mod_lt _ e.pos
  have hd : j / e.sz * e.sz + j % e.sz = j := by rw [Nat.mul_comm]; exact Nat.div_add_mod j e.sz
  have hg := e.all_get ys (j / e.sz) (j % e.sz) hq hr
  rw [hd, hu] at hg
  obtain ⟨b, off, hA, _, hc⟩ := h (j / e.sz) hq
  simp only [Option.some.injEq] at hA
  subst hA
  have := hc (j % e.sz) u hg.symm
  rw [Nat.add_assoc, hd] at this
  rw [Addr.add_lit]
  exact this
theorem wpList_addAll {P : Program} {ops : Array Oper} {rest : List Oper} {o : Oper} {a : Act} {Q : Exit → Act → World → Prop} (e : Enc α) {W : World} (hgd : o.guard = none) (s y : Operand) (t : TypeId) (z : Value) (bytes : Nat)
    (ho : o.op = .call { callee := .builtin .append, args := #[s, y], argTypes := #[t, t] })
    (ht : P.underlying t = some (.slice T)) (hinfo : (P.info? T).map (fun i => (i.zero, i.size, i.bytes)) = some (some z, e.sz, bytes)) (hz : z.cells.size = e.sz)
    (ys : List α) (B : Addr) (c : Nat) (hs : a.eval s = v) (hy : a.eval y = .slice (some B) ys.length c) (HR : Rd e W (some B) ys) (HO : Ow e T W base v xs) (hbase : base ≤ W.heap.size) (hw0 : w0.heap.size ≤ base) (HE : Ext w0 W)
    (hl : (xs.length + ys.length) * bytes ≤ 140737488355328) (hl2 : xs.length + ys.length ≤ 9223372036854775807)
    (h : ∀ v1 w1, Ow e T w1 base v1 (xs ++ ys) → Ext w0 w1 → W.grownBy w1 v.ownBlock → wpList P ops Q rest (a.put o.dst v1) w1) :
    wpList P ops Q (o :: rest) a W := by
  obtain ⟨i, hi, hz0, hz1, hz2⟩ := info_parts hinfo
  refine wpList_append_own_at W hgd s y t ho base T i z e.sz bytes ht hi hz0 hz1 hz2 hz e.pos v xs.length (e.all xs) hs HO B ys.length c (e.all ys) hy (by rw [e.all_length]) HR.news (e.all_one ys) (by unfold maxLen; omega) hl hbase ?_
  intro v1 w1 hown hg _ hat
  refine h v1 w1 (by rw [Ow, List.length_append, e.all_append]; exact hown) ?_ hg
  exact HE.trans' hg (fun k hk => by have := (HO.lt k hk).1; omega)
end
section
variable {α : Type} {w0 : World} {xs : List α} {T : TypeId} {base : Nat} {v : Value}
theorem step_addAll {P : Program} {ops : Array Oper} {o : Oper} {a : Act} {K : Act → World → Prop} {Q : Exit → Act → World → Prop} {E : Prop} (e : Enc α) {W : World} (hgd : o.guard = none) (s y : Operand) (t : TypeId) (z : Value) (bytes : Nat)
    (ho : o.op = .call { callee := .builtin .append, args := #[s, y], argTypes := #[t, t] })
    (ht : P.underlying t = some (.slice T)) (hinfo : (P.info? T).map (fun i => (i.zero, i.size, i.bytes)) = some (some z, e.sz, bytes)) (hz : z.cells.size = e.sz)
    (ys : List α) (B : Addr) (c : Nat) (hs : a.eval s = v) (hy : a.eval y = .slice (some B) ys.length c) (HR : Rd e W (some B) ys) (HO : Ow e T W base v xs) (hbase : base ≤ W.heap.size) (hw0 : w0.heap.size ≤ base) (HE : Ext w0 W)
    (hl : (xs.length + ys.length) * bytes ≤ 140737488355328) (hl2 : xs.length + ys.length ≤ 9223372036854775807)
    (h : ∀ v1 w1, Ow e T w1 base v1 (xs ++ ys) → Ext w0 w1 → W.grownBy w1 v.ownBlock → (v1.ownBlock = v.ownBlock ∨ ∃ b, v1.ownBlock = some b ∧ W.heap.size ≤ b) → K (a.put o.dst v1) w1) :
    if Region.wanted o (yielded ops a.tmps) = true then Oper.wp P o a W K Q else E := by
  obtain ⟨i, hi, hz0, hz1, hz2⟩ := info_parts hinfo
  have hw : Region.wanted o (yielded ops a.tmps) = true := by simp [Region.wanted, hgd]
  rw [if_pos hw]
  obtain ⟨v', w', hr, h2, h3, h4, h5⟩ := run_append_own_at (P := P) W base t o.type T i z e.sz bytes ht hi hz0 hz1 hz2 hz e.pos v xs.length (e.all xs) HO B ys.length c (e.all ys) (by rw [e.all_length]) HR.news (e.all_one ys) (by unfold maxLen; omega) hl hbase
  unfold Oper.wp execOp
  simp only [ho, resolve, invoke, builtin, Sem.run_bind, Sem.run_pure, Result.andThen_ok, List.map_toArray, List.map_cons, List.map_nil, hs, hy, hr]
  refine h v' w' (by rw [Ow, List.length_append, e.all_append]; exact h2) ?_ h3 (h5.imp id (fun e => ⟨_, e, Nat.le_refl _⟩))
  exact HE.trans' h3 (fun k hk => by have := (HO.lt k hk).1; omega)
end
end Go.Proofs.YtdiblmlcapommaaGreatDoor
