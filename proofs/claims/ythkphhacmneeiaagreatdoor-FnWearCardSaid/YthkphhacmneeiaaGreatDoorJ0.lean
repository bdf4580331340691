/-
  Decimal numerals and the text of wear: data; contracts of the reference's Decimal and l04Text.
-/
import Derived.Test.YthkphhacmneeiaaGreatDoorC1
import Derived.Test.YthkphhacmneeiaaGreatDoorL6
import Derived.Test.YthkphhacmneeiaaGreatDoorC8
import Derived.Laws.BytesArg
import Derived.Lib.ItoaNum
import Derived.Lib.Join
import Derived.RegionTactic
import Derived.Deep.RegionWith
set_option linter.unusedVariables false
set_option linter.unusedSimpArgs false
set_option maxRecDepth 100000
namespace Go.Proofs.YthkphhacmneeiaaGreatDoor
open Go.RowKit
/-- The decimal numeral of a number. -/
def decT (n : Nat) : ByteArray := ⟨(Lib.decDigits n).toArray⟩
theorem mk_app (a b : List UInt8) : (⟨(a ++ b).toArray⟩ : ByteArray) = ⟨a.toArray⟩ ++ ⟨b.toArray⟩ := by
  apply ByteArray.ext
  simp [ByteArray.data_append]
theorem decT_small {n : Nat} (h : n < 10) : decT n = strOfNums [48 + (n : Int)] := by
  unfold decT strOfNums
  rw [Lib.decDigits, dif_pos h, List.map_singleton, show ((48 + (n : Int)).toNat) = 48 + n by omega]
theorem decT_big {n : Nat} (h : ¬ n < 10) : decT n = decT (n / 10) ++ strOfNums [48 + (n : Int) % 10] := by
  unfold decT strOfNums
  rw [Lib.decDigits, dif_neg h, mk_app, List.map_singleton, show ((48 + (n : Int) % 10).toNat) = 48 + n % 10 by omega]
/-- Words with a space between them. -/
def joinB (ws : List ByteArray) : ByteArray := ⟨(Lib.join (ws.map (·.data.toList)) [32]).toArray⟩
theorem joinB_nil : joinB [] = ⟨#[]⟩ := rfl
theorem joinB_one (x : ByteArray) : joinB [x] = x := by unfold joinB; rw [List.map_singleton, Lib.join_one]
theorem joinTail_snoc (sep : List UInt8) (r : List (List UInt8)) (y : List UInt8) : Lib.joinTail sep (r ++ [y]) = Lib.joinTail sep r ++ (sep ++ y) := by
  unfold Lib.joinTail
  rw [List.map_append, List.flatten_append]
  simp
theorem joinB_snoc {ws : List ByteArray} (h : ws ≠ []) (x : ByteArray) : joinB (ws ++ [x]) = joinB ws ++ (⟨#[32]⟩ ++ x) := by
  cases ws with
  | nil => exact absurd rfl h
  | cons y r =>
    unfold joinB
    rw [List.map_append, List.map_singleton, List.map_cons, List.cons_append, Lib.join_cons, Lib.join_cons, joinTail_snoc, ← List.append_assoc, mk_app, mk_app [32]]
/-- The word of a hole. -/
def wordW (f : Mask) (h : Int) : ByteArray := (if mhas f h = true then ⟨#[45]⟩ else ⟨#[43]⟩) ++ decT h.toNat
def wordsW (t f : Mask) (k : Nat) : List ByteArray := (holesTo (mjoin t f) k).map (wordW f)
def wearT (t f : Mask) : ByteArray := joinB (wordsW t f 96)
theorem words_zero (t f : Mask) : wordsW t f 0 = [] := by unfold wordsW holesTo; rfl
theorem mhas_jn (a b : Mask) (i : Nat) : mhas (mjoin a b) i = (mhas a i || mhas b i) := by simp [mhas, mjoin]
theorem words_none {t f : Mask} {k : Nat} (h1 : mhas t k = false) (h2 : mhas f k = false) : wordsW t f (k + 1) = wordsW t f k := by
  unfold wordsW
  rw [holesTo_miss _ _ (by rw [mhas_jn, h1, h2]; rfl)]
theorem words_minus {t f : Mask} {k : Nat} (h2 : mhas f k = true) : wordsW t f (k + 1) = wordsW t f k ++ [⟨#[45]⟩ ++ decT k] := by
  unfold wordsW
  rw [holesTo_hit _ _ (by rw [mhas_jn, h2, Bool.or_true]), List.map_append, List.map_singleton]
  unfold wordW
  rw [if_pos h2]; rfl
theorem words_plus {t f : Mask} {k : Nat} (h1 : mhas t k = true) (h2 : mhas f k = false) : wordsW t f (k + 1) = wordsW t f k ++ [⟨#[43]⟩ ++ decT k] := by
  unfold wordsW
  rw [holesTo_hit _ _ (by rw [mhas_jn, h1, h2]; rfl), List.map_append, List.map_singleton]
  unfold wordW
  rw [if_neg (by rw [h2]; decide)]; rfl
/-- A text so far, with a further word behind it. -/
def addW (out x : ByteArray) : ByteArray := if out.size = 0 then x else out ++ (⟨#[32]⟩ ++ x)
theorem app_size (a b : ByteArray) : (a ++ b).size = a.size + b.size := ByteArray.size_append
theorem joinB_size {ws : List ByteArray} (h : ws ≠ []) (hw : ∀ x ∈ ws, x.size ≠ 0) : (joinB ws).size ≠ 0 := by
  cases ws with
  | nil => exact absurd rfl h
  | cons y r =>
    have hy := hw y (List.mem_cons_self ..)
    unfold joinB
    rw [List.map_cons, Lib.join_cons, mk_app, app_size]
    have : (⟨y.data.toList.toArray⟩ : ByteArray).size = y.size := by rw [Array.toArray_toList]
    omega
theorem joinB_add {ws : List ByteArray} (hw : ∀ x ∈ ws, x.size ≠ 0) (x : ByteArray) : joinB (ws ++ [x]) = addW (joinB ws) x := by
  unfold addW
  by_cases h : ws = []
  · subst h
    rw [if_pos (by rfl), List.nil_append, joinB_one]
  · rw [if_neg (joinB_size h hw), joinB_snoc h]
theorem words_pos (t f : Mask) (k : Nat) : ∀ x ∈ wordsW t f k, x.size ≠ 0 := fun x hx => by
  unfold wordsW at hx
  obtain ⟨h, _, rfl⟩ := List.mem_map.1 hx
  unfold wordW
  rw [app_size]
  have : (if mhas f h = true then (⟨#[45]⟩ : ByteArray) else ⟨#[43]⟩).size = 1 := by split <;> rfl
  omega
theorem text_none {t f : Mask} {k : Nat} (h1 : mhas t k = false) (h2 : mhas f k = false) : joinB (wordsW t f (k + 1)) = joinB (wordsW t f k) := by rw [words_none h1 h2]
theorem text_minus {t f : Mask} {k : Nat} (h2 : mhas f k = true) : joinB (wordsW t f (k + 1)) = addW (joinB (wordsW t f k)) (⟨#[45]⟩ ++ decT k) := by rw [words_minus h2, joinB_add (words_pos t f k)]
theorem text_plus {t f : Mask} {k : Nat} (h1 : mhas t k = true) (h2 : mhas f k = false) : joinB (wordsW t f (k + 1)) = addW (joinB (wordsW t f k)) (⟨#[43]⟩ ++ decT k) := by rw [words_plus h1 h2, joinB_add (words_pos t f k)]
theorem add_first {out : ByteArray} (h : out.size = 0) (x : ByteArray) : addW out x = x := if_pos h
theorem add_next {out : ByteArray} (h : ¬ out.size = 0) (x : ByteArray) : addW out x = out ++ (⟨#[32]⟩ ++ x) := if_neg h
theorem size_zero {s : ByteArray} (h : s.size = 0) : s = ⟨#[]⟩ := ByteArray.ext (Array.eq_empty_of_size_eq_zero h)
theorem app_assoc3 (a b c : ByteArray) : a ++ b ++ c = a ++ (b ++ c) := ByteArray.append_assoc
theorem decT_le (n : Nat) : (decT n).size ≤ n + 1 := by
  unfold decT
  show (Lib.decDigits n).length ≤ n + 1
  induction n using Nat.strongRecOn with
  | _ n ih =>
    by_cases h : n < 10
    · rw [Lib.decDigits, dif_pos h]; simp
    · rw [Lib.decDigits, dif_neg h, List.length_append, List.length_singleton]
      have := ih (n / 10) (by omega)
      omega
theorem one_size (n : Int) : (strOfNums [n]).size = 1 := rfl
theorem jempty_app (x : ByteArray) : (⟨#[]⟩ : ByteArray) ++ x = x := ByteArray.ext (by simp [ByteArray.data_append])
attribute [irreducible] decT joinB
theorem conv_at (W : World) (b : Nat) (n : Int) (h : W.cell? ⟨b, 0, none⟩ = some (.int .u8 n)) : (convert 22 9 (.slice (some ⟨b, 0, none⟩) 1 1)).run Tryz.prog W = .ok (.string (strOfNums [n])) W :=
  run_convert_bytes_arg _ 22 5 Tryz.underlying22 Tryz.underlying5 b 0 1 1 [n] rfl (fun i hi => by
    obtain rfl : i = 0 := by omega
    exact h) 9 Tryz.underlying9
