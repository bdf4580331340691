/-
  Contracts of the laws' functions that mark numbers and entries, and look whether the marks are held.
-/
import Derived.Test.YtegopgpnjgikeaaGreatDoorC8
import Derived.Laws.BytesArg
set_option linter.unusedVariables false
set_option linter.unusedSimpArgs false
set_option maxRecDepth 100000
namespace Go.Proofs.YtegopgpnjgikeaaGreatDoor
open Go.RowKit
/-- The digits of a number, ahead of what is there. -/
def decS (k : Nat) (out : ByteArray) : ByteArray := if h : k = 0 then out else decS (k / 10) (strOfNums [48 + (k : Int) % 10] ++ out)
termination_by k
decreasing_by omega
theorem decS_zero (out : ByteArray) : decS 0 out = out := by rw [decS]; simp
theorem decS_pos (k : Nat) (out : ByteArray) (h : k ≠ 0) : decS k out = decS (k / 10) (strOfNums [48 + (k : Int) % 10] ++ out) := by rw [decS, dif_neg h]
theorem one_size (n : Int) : (strOfNums [n]).size = 1 := rfl
/-- The mark of a number. -/
def markS (k : Nat) : ByteArray := if k = 0 then ⟨#[109, 48]⟩ else ⟨#[109]⟩ ++ decS k ⟨#[]⟩
/-- The numbers from k on, n of them. -/
def upFrom (k : Nat) : Nat → List Int
  | 0 => []
  | n + 1 => (k : Int) :: upFrom (k + 1) n
theorem upFrom_len : ∀ (n k : Nat), (upFrom k n).length = n
  | 0, _ => rfl
  | n + 1, k => by rw [upFrom, List.length_cons, upFrom_len n]
theorem upFrom_get : ∀ (n k i : Nat) (h : i < (upFrom k n).length), (upFrom k n)[i] = ((k + i : Nat) : Int)
  | 0, _, _, h => by simp [upFrom] at h
  | n + 1, k, 0, _ => rfl
  | n + 1, k, i + 1, h => by
    show (upFrom (k + 1) n)[i]'_ = _
    rw [upFrom_get n (k + 1) i]
    omega
/-- The first i numbers of a list are the marks from k on. -/
def markTo (is : List Int) (k i : Nat) : List Int := (upFrom k i) ++ is.drop i
theorem markTo_len (is : List Int) (k i : Nat) (h : i ≤ is.length) : (markTo is k i).length = is.length := by
  unfold markTo
  rw [List.length_append, upFrom_len, List.length_drop]
  omega
theorem upFrom_snoc : ∀ (n k : Nat), upFrom k (n + 1) = upFrom k n ++ [((k + n : Nat) : Int)]
  | 0, _ => rfl
  | n + 1, k => by
    rw [upFrom, upFrom_snoc n (k + 1), show k + 1 + n = k + (n + 1) by omega]
    rfl
theorem markTo_set (is : List Int) (k i : Nat) (h : i < is.length) : (markTo is k i).set i ((k : Int) + i) = markTo is k (i + 1) := by
  unfold markTo
  rw [List.set_append_right _ _ (by rw [upFrom_len]; omega), upFrom_len, Nat.sub_self, List.drop_eq_getElem_cons h, List.set_cons_zero, upFrom_snoc, List.append_assoc, Int.natCast_add]
  rfl
theorem markTo_all (is : List Int) (k : Nat) : markTo is k is.length = upFrom k is.length := by
  unfold markTo
  rw [List.drop_length, List.append_nil]
theorem Enc.all_set1 {α : Type} (e : Enc α) (xs : List α) (k f : Nat) (u : Value) (z : α) (hk : k < xs.length) (hf : f < e.sz) (hz : e.enc z = (e.enc xs[k]).set f u) : (e.all xs).set (k * e.sz + f) u = e.all (xs.set k z) := by
  rw [← e.all_set xs k z hk]
  have hle : k * e.sz + (e.enc z).length ≤ (e.all xs).length := by
    rw [e.len, e.all_length, ← Nat.succ_mul]
    exact Nat.mul_le_mul_right _ hk
  apply List.ext_getElem?
  intro i
  rw [setL_get _ _ _ _ hle, e.len, List.getElem?_set, hz]
  by_cases h1 : k * e.sz ≤ i ∧ i < k * e.sz + e.sz
  · rw [if_pos h1, List.getElem?_set]
    obtain ⟨j, rfl⟩ : ∃ j, i = k * e.sz + j := ⟨i - k * e.sz, by omega⟩
    rw [Nat.add_sub_cancel_left, e.len]
    by_cases h2 : f = j
    · subst h2
      rw [if_pos rfl, if_pos rfl, if_pos (by rw [e.len] at hle; omega), if_pos hf]
    · rw [if_neg (by omega), if_neg h2]
      exact e.all_get xs k j hk (by omega)
  · rw [if_neg h1, if_neg (by omega)]
theorem Ow.set1 {α : Type} {e : Enc α} {T : TypeId} {w : World} {base g n cap : Nat} {xs : List α} (h : Ow e T w base (.slice (some ⟨g, 0, none⟩) n cap) xs) (k f : Nat) (u : Value) (z : α) (hk : k < xs.length) (hf : f < e.sz) (hz : e.enc z = (e.enc xs[k]).set f u) :
    Ow e T (w.setCell ⟨g, k * e.sz + f, none⟩ u) base (.slice (some ⟨g, 0, none⟩) n cap) (xs.set k z) := by
  obtain rfl := h.cap_len
  have := (World.ownsRow.stored h (k * e.sz + f) u).1
  rw [e.all_set1 xs k f u z hk hf hz] at this
  rw [Ow, List.length_set]
  exact this
theorem Ow.frozen {α : Type} {e : Enc α} {T : TypeId} {w : World} {base g n cap : Nat} {xs : List α} (h : Ow e T w base (.slice (some ⟨g, 0, none⟩) n cap) xs) (j : Nat) : w.frozen? ⟨g, j, none⟩ = false := by
  obtain rfl := h.cap_len
  exact World.ownsRow.frozenAt h j
theorem Ow.shape {α : Type} {e : Enc α} {T : TypeId} {w : World} {base : Nat} {v : Value} {xs : List α} (h : Ow e T w base v xs) : (v = .slice none 0 0 ∧ xs = []) ∨ ∃ g cap, v = .slice (some ⟨g, 0, none⟩) xs.length cap ∧ base ≤ g ∧ g < w.heap.size := by
  rcases h.2 with ⟨h1, h0⟩ | ⟨g, cap, cur, h1, hg, hh, _⟩
  · exact .inl ⟨h1, List.eq_nil_of_length_eq_zero h0⟩
  · exact .inr ⟨g, cap, h1, hg, (Array.getElem?_eq_some_iff.1 hh).1⟩
theorem Ow.rd {α : Type} {e : Enc α} {T : TypeId} {w : World} {base g n cap : Nat} {xs : List α} (h : Ow e T w base (.slice (some ⟨g, 0, none⟩) n cap) xs) : Rd e w (some ⟨g, 0, none⟩) xs := by
  obtain ⟨A, c, h1, _, h2⟩ := h.slice
  simp only [Value.slice.injEq] at h1
  obtain ⟨rfl, _⟩ := h1
  exact h2
theorem grownBy_refl (w : World) (r : Option Nat) : w.grownBy w r := ⟨rfl, rfl, rfl, Nat.le_refl _, fun _ _ _ => rfl⟩
theorem grownBy_set {w w' : World} {g : Nat} (h : w.grownBy w' (some g)) (j : Nat) (u : Value) : w.grownBy (w'.setCell ⟨g, j, none⟩ u) (some g) :=
  ⟨h.os, h.tape, h.output, by simpa using h.size, fun k hk hne => (Below.heap_setCell w' ⟨g, j, none⟩ u k (fun e => hne (by rw [e]))).trans (h.block k hk hne)⟩
theorem grownBy_ext {w w' w'' : World} {r : Option Nat} (h : w.grownBy w' r) (hb : Ext w' w'') : w.grownBy w'' r :=
  ⟨hb.os.trans h.os, hb.tape.trans h.tape, hb.output.trans h.output, Nat.le_trans h.size hb.size, fun k hk hne => (hb.block k (Nat.lt_of_lt_of_le hk h.size)).trans (h.block k hk hne)⟩
