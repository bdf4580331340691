/-
  Names of entries and catalogues as data, with no program in sight.
-/
import Derived.Test.YtmphnocgihegbaaDoorE0
import Derived.Lib.SplitLaws
set_option linter.unusedVariables false
namespace Go.Proofs.YtmphnocgihegbaaDoor
open Go.RowKit
/-- The pieces of a text between all bytes c. -/
def splitC (c : UInt8) (s : ByteArray) : List ByteArray := Lib.splitB ⟨#[c]⟩ 0 (Lib.countB s ⟨#[c]⟩) s
theorem occ_one (l : List UInt8) (c : UInt8) (i : Nat) : Lib.occAt l [c] i = (l[i]? == some c) := by
  unfold Lib.occAt
  cases h : l.drop i with
  | nil =>
    have : l.length ≤ i := List.drop_eq_nil_iff.1 h
    rw [List.getElem?_eq_none this]
    rfl
  | cons x t =>
    have h1 : l[i]? = some x := by
      have : (l.drop i)[0]? = some x := by rw [h]; rfl
      simpa using this
    rw [h1]
    show (c == x && [].isPrefixOf t) = (some x == some c)
    rw [show ([] : List UInt8).isPrefixOf t = true from by cases t <;> rfl, Bool.and_true, show (some x == some c) = (x == c) from rfl, Bool.eq_iff_iff, beq_iff_eq, beq_iff_eq]
    exact ⟨Eq.symm, Eq.symm⟩
theorem ext_ba {a b : ByteArray} (h : a.data.toList = b.data.toList) : a = b := by
  cases a; cases b
  exact congrArg ByteArray.mk (Array.toList_inj.1 h)
theorem extr_data (s : ByteArray) (a b : Nat) : (s.extract a b).data.toList = (s.data.toList.drop a).take (b - a) := by
  rw [Lib.extract_data]
  first | done | simp [List.drop_take]
theorem splitC_hit (c : UInt8) (s : ByteArray) (b k : Nat) (hb : b ≤ k) (hk : k < s.size) (hc : s.data.toList[k]? = some c) (hno : ∀ j, b ≤ j → j < k → s.data.toList[j]? ≠ some c) :
    splitC c (s.extract b s.size) = s.extract b k :: splitC c (s.extract (k + 1) s.size) := by
  have hl : s.data.toList.length = s.size := rfl
  have hd : (s.extract b s.size).data.toList = s.data.toList.drop b := by
    rw [extr_data, List.take_of_length_le (by simp)]
  have hi : Lib.indexB (s.extract b s.size) ⟨#[c]⟩ = ((k - b : Nat) : Int) := by
    show Lib.index (s.extract b s.size).data.toList [c] = _
    rw [hd]
    refine Lib.index_first (by simp; omega) ?_ ?_
    · rw [occ_one, List.getElem?_drop, show b + (k - b) = k by omega, hc]
      simp
    · intro j hj
      rw [occ_one, List.getElem?_drop]
      have := hno (b + j) (by omega) (by omega)
      simpa using this
  unfold splitC
  rw [Lib.countB_hit (s.extract b s.size) ⟨#[c]⟩ (k - b) (show 1 ≤ 1 from Nat.le_refl 1) hi, Nat.add_comm 1, Lib.splitB_hit _ _ _ _ _ hi]
  have e1 : (s.extract b s.size).extract 0 (k - b + 0) = s.extract b k := by
    apply ext_ba
    rw [extr_data, hd, extr_data, List.drop_zero]
    rfl
  have e2 : (s.extract b s.size).extract (k - b + ByteArray.size ⟨#[c]⟩) (s.extract b s.size).size = s.extract (k + 1) s.size := by
    apply ext_ba
    have hz : (s.extract b s.size).size = s.size - b := by
      show (s.extract b s.size).data.toList.length = _
      rw [hd, List.length_drop]
      rfl
    rw [extr_data, hd, extr_data, List.drop_drop, show b + (k - b + ByteArray.size ⟨#[c]⟩) = k + 1 by show b + (k - b + 1) = k + 1; omega]
    rw [List.take_of_length_le, List.take_of_length_le]
    · simp
    · rw [hz, List.length_drop, hl]
      show _ ≤ s.size - b - (k - b + 1)
      omega
  rw [e1, e2]
theorem splitC_end (c : UInt8) (s : ByteArray) (b : Nat) (hno : ∀ j, b ≤ j → j < s.size → s.data.toList[j]? ≠ some c) :
    splitC c (s.extract b s.size) = [s.extract b s.size] := by
  have hd : (s.extract b s.size).data.toList = s.data.toList.drop b := by
    rw [extr_data, List.take_of_length_le (by simp)]
  have hi : Lib.indexB (s.extract b s.size) ⟨#[c]⟩ = -1 := by
    show Lib.index (s.extract b s.size).data.toList [c] = _
    rw [hd]
    refine Lib.index_none ?_
    intro j hj
    rw [occ_one, List.getElem?_drop]
    by_cases hj2 : b + j < s.size
    · have := hno (b + j) (by omega) hj2
      simpa using this
    · rw [List.getElem?_eq_none (by show s.size ≤ _; omega)]
      rfl
  unfold splitC
  rw [Lib.splitB_miss _ _ _ _ hi]
theorem extr_all (s : ByteArray) : s.extract 0 s.size = s := by
  apply ext_ba
  rw [extr_data]
  exact List.take_of_length_le (by simp)
def isPlain (c : UInt8) : Bool := (decide (97 ≤ c.toNat) && decide (c.toNat ≤ 122)) || (decide (48 ≤ c.toNat) && decide (c.toNat ≤ 57))
/-- Is a piece a word? -/
def wordB (s : ByteArray) : Bool := !s.toList.isEmpty && s.data.toList.all isPlain
/-- Is a text a name of an entry? -/
def entNameB (s : ByteArray) : Bool := decide (1 ≤ s.size) && (decide (s.size ≤ 24) && (splitC 32 s).all wordB)

/-- Is k the place of a preferred entry? -/
def prefB (xs : List Ent) (k : Int) : Bool := decide (0 ≤ k) && (decide (k < xs.length) && (xs[k.toNat]!.see == -1))
/-- Is k no place, or that of a preferred entry? -/
def refB (xs : List Ent) (k : Int) : Bool := k == -1 || prefB xs k
/-- The entry at i stands well in its catalogue. -/
def standB (xs : List Ent) (i : Nat) : Bool :=
  entNameB xs[i]!.nm && (!((xs.take i).any fun y => y.nm.toList == xs[i]!.nm.toList) && (refB xs xs[i]!.see && (refB xs xs[i]!.br && (xs[i]!.see == -1 || xs[i]!.br == -1))))
def stepUp (xs : List Ent) (at' : Int) : Int := if 0 ≤ at' then xs[at'.toNat]!.br else at'
def climb (xs : List Ent) : Nat → Int → Int
  | 0, a => a
  | n + 1, a => climb xs n (stepUp xs a)
theorem climb_succ (xs : List Ent) : ∀ (n : Nat) (a : Int), climb xs (n + 1) a = stepUp xs (climb xs n a)
  | 0, a => rfl
  | n + 1, a => by rw [climb, climb_succ xs n]; rfl
theorem climb_add (xs : List Ent) : ∀ (m n : Nat) (a : Int), climb xs (m + n) a = climb xs n (climb xs m a)
  | 0, n, a => by rw [Nat.zero_add]; rfl
  | m + 1, n, a => by rw [show m + 1 + n = (m + n) + 1 by omega, climb, climb_add xs m n, climb]
/-- All entries stand well. -/
def standsB (xs : List Ent) : Bool := (List.range xs.length).all (standB xs)
/-- No way up from an entry is a circle. -/
def topsB (xs : List Ent) : Bool := (List.range xs.length).all fun i => decide (climb xs xs.length i < 0)
/-- Is a list of entries a valid catalogue? -/
def catB (xs : List Ent) : Bool := decide (xs.length ≤ 40) && (standsB xs && topsB xs)
theorem stands_at {xs : List Ent} (h : standsB xs = true) (i : Nat) (hi : i < xs.length) : standB xs i = true := by
  unfold standsB at h
  rw [List.all_eq_true] at h
  exact h i (List.mem_range.2 hi)
theorem getBang {α : Type} [Inhabited α] (xs : List α) (i : Nat) (hi : i < xs.length) : xs[i]! = xs[i] := by
  rw [List.getElem!_eq_getElem?_getD, List.getElem?_eq_getElem hi]; rfl
/-- Where a way up comes to: -1, or an entry. -/
def InC (xs : List Ent) (a : Int) : Prop := a = -1 ∨ (0 ≤ a ∧ a < xs.length)
theorem refB_in {xs : List Ent} {k : Int} (h : refB xs k = true) : InC xs k := by
  unfold refB prefB at h
  simp only [Bool.or_eq_true, beq_iff_eq, Bool.and_eq_true, decide_eq_true_eq] at h
  unfold InC
  omega
theorem stand_parts {xs : List Ent} {i : Nat} (h : standB xs i = true) :
    entNameB xs[i]!.nm = true ∧ ((xs.take i).any fun y => y.nm.toList == xs[i]!.nm.toList) = false ∧ refB xs xs[i]!.see = true ∧ refB xs xs[i]!.br = true ∧ (xs[i]!.see = -1 ∨ xs[i]!.br = -1) := by
  unfold standB at h
  simp only [Bool.and_eq_true, Bool.not_eq_true', Bool.or_eq_true, beq_iff_eq] at h
  exact ⟨h.1, h.2.1, h.2.2.1, h.2.2.2.1, h.2.2.2.2⟩
theorem br_in {xs : List Ent} (h : standsB xs = true) (i : Nat) (hi : i < xs.length) : InC xs xs[i]!.br := refB_in (stand_parts (stands_at h i hi)).2.2.2.1
theorem stepUp_in {xs : List Ent} (h : standsB xs = true) {a : Int} (ha : InC xs a) : InC xs (stepUp xs a) := by
  unfold stepUp
  split
  · have : a.toNat < xs.length := by unfold InC at ha; omega
    exact br_in h _ this
  · exact ha
theorem climb_in {xs : List Ent} (h : standsB xs = true) : ∀ (n : Nat) {a : Int}, InC xs a → InC xs (climb xs n a)
  | 0, _, ha => ha
  | n + 1, _, ha => climb_in h n (stepUp_in h ha)
theorem climb_neg (xs : List Ent) : ∀ (n : Nat) {a : Int}, a < 0 → climb xs n a = a
  | 0, _, _ => rfl
  | n + 1, a, ha => by rw [climb, show stepUp xs a = a by unfold stepUp; rw [if_neg (by omega)], climb_neg xs n ha]
/-- More than n numbers below n: two are equal. -/
theorem two_equal : ∀ (n : Nat) (f : Nat → Nat) (m : Nat), n < m → (∀ i, i < m → f i < n) → ∃ i j, i < j ∧ j < m ∧ f i = f j
  | 0, f, m, hm, hf => absurd (hf 0 (by omega)) (by omega)
  | n + 1, f, m, hm, hf => by
    by_cases hx : ∃ i, i < m - 1 ∧ f i = f (m - 1)
    · obtain ⟨i, hi, he⟩ := hx
      exact ⟨i, m - 1, hi, by omega, he⟩
    · have hne : ∀ i, i < m - 1 → f i ≠ f (m - 1) := fun i hi he => hx ⟨i, hi, he⟩
      obtain ⟨i, j, h1, h2, h3⟩ := two_equal n (fun i => if f i = n then f (m - 1) else f i) (m - 1) (by omega) (by
        intro i hi
        have h4 := hf i (by omega)
        have h5 := hf (m - 1) (by omega)
        have h6 := hne i hi
        show (if f i = n then f (m - 1) else f i) < n
        split
        · omega
        · omega)
      refine ⟨i, j, h1, by omega, ?_⟩
      have h4 := hne i (by omega)
      have h5 := hne j (by omega)
      split at h3 <;> split at h3 <;> omega
/-- A way up that ends does so within as many steps as there are entries. -/
theorem climb_short {xs : List Ent} (h : standsB xs = true) (a : Int) (ha : InC xs a) (n : Nat) (hn : climb xs n a < 0) : climb xs xs.length a < 0 := by
  by_cases hlt : climb xs xs.length a < 0
  · exact hlt
  · exfalso
    have hpos : ∀ j, j ≤ xs.length → 0 ≤ climb xs j a := by
      intro j hj
      by_cases hc : climb xs j a < 0
      · exfalso
        apply hlt
        rw [show xs.length = j + (xs.length - j) by omega, climb_add, climb_neg xs _ hc]
        exact hc
      · omega
    have hin : ∀ j, InC xs (climb xs j a) := fun j => climb_in h j ha
    obtain ⟨i, j, hij, hj, he⟩ := two_equal xs.length (fun j => (climb xs j a).toNat) (xs.length + 1) (by omega) (by
      intro j hj
      have h1 := hpos j (by omega)
      have h2 := hin j
      unfold InC at h2
      show (climb xs j a).toNat < _
      omega)
    have he2 : climb xs i a = climb xs j a := by
      have h1 := hpos i (by omega)
      have h2 := hpos j (by omega)
      omega
    have hcyc : ∀ q, climb xs (i + q * (j - i)) a = climb xs i a := by
      intro q
      induction q with
      | zero => rw [Nat.zero_mul, Nat.add_zero]
      | succ q ih =>
        rw [Nat.succ_mul, ← Nat.add_assoc, climb_add, ih, ← climb_add, show i + (j - i) = j by omega]
        exact he2.symm
    have h1 := hcyc n
    have h2 : n ≤ i + n * (j - i) := by
      have : n * 1 ≤ n * (j - i) := Nat.mul_le_mul_left n (by omega)
      omega
    rw [show i + n * (j - i) = n + (i + n * (j - i) - n) by omega, climb_add, climb_neg xs _ hn] at h1
    have h3 := hpos i (by omega)
    omega
end Go.Proofs.YtmphnocgihegbaaDoor
