/-
  Codes of fields as data, with no program in sight: the mask of a value, the value of a mask.
-/
import Derived.Test.YtegopgpnjgikeaaGreatDoorF0
import Derived.Test.YtegopgpnjgikeaaGreatDoorL3
import Derived.Test.YtegopgpnjgikeaaGreatDoorP1
set_option linter.unusedVariables false
namespace Go.Proofs.YtegopgpnjgikeaaGreatDoor
open Go.RowKit
/-- All of the first masks of a row, put together. -/
def orTo (g : Nat → Mask) : Nat → Mask
  | 0 => 0
  | k + 1 => mjoin (orTo g k) (g k)
theorem orTo_succ (g : Nat → Mask) (k : Nat) : orTo g (k + 1) = mjoin (orTo g k) (g k) := rfl
theorem mjoin_zero (m : Mask) : mjoin m 0 = m := by unfold mjoin; exact BitVec.or_zero
theorem zero_mjoin (m : Mask) : mjoin 0 m = m := by unfold mjoin; exact BitVec.zero_or
theorem mjoin_comm (a b : Mask) : mjoin a b = mjoin b a := by unfold mjoin; exact BitVec.or_comm _ _
theorem mjoin_assoc (a b c : Mask) : mjoin (mjoin a b) c = mjoin a (mjoin b c) := by unfold mjoin; exact BitVec.or_assoc _ _ _
theorem mwith_nil (m : Mask) : mwith m [] = m := rfl
theorem mwith_cons (m : Mask) (h : Int) (hs : List Int) : mwith m (h :: hs) = mwith (mjoin m (mbit h)) hs := rfl
theorem mwith_from : ∀ (hs : List Int) (m : Mask), mwith m hs = mjoin m (mwith 0 hs)
  | [], m => by rw [mwith_nil, mwith_nil, mjoin_zero]
  | h :: hs, m => by rw [mwith_cons, mwith_cons, mwith_from hs, mwith_from hs (mjoin 0 (mbit h)), zero_mjoin, mjoin_assoc]
/-- The holes of a row of so many ones from one on. -/
def rangeM (st many : Int) : Mask := orTo (fun k => mbit (st + k)) many.toNat
/-- The holes of a field. -/
def partF (f : Fld) : Mask := rangeM f.st (manyF f.kd f.sz)
/-- The notches of a number in the base 2, the highest digit first, added to a mask. -/
def notchTo (m : Mask) (st holes b : Int) : Nat → Mask
  | 0 => m
  | k + 1 => if b / 2 ^ (holes - 1 - k).toNat % 2 = 1 then mjoin (notchTo m st holes b k) (mbit (st + k)) else notchTo m st holes b k
theorem notchTo_zero (m : Mask) (st holes b : Int) : notchTo m st holes b 0 = m := rfl
theorem notchTo_hit {m : Mask} {st holes b : Int} {k : Nat} (h : b / 2 ^ (holes - 1 - k).toNat % 2 = 1) : notchTo m st holes b (k + 1) = mjoin (notchTo m st holes b k) (mbit (st + k)) := by rw [notchTo, if_pos h]
theorem notchTo_miss {m : Mask} {st holes b : Int} {k : Nat} (h : ¬ b / 2 ^ (holes - 1 - k).toNat % 2 = 1) : notchTo m st holes b (k + 1) = notchTo m st holes b k := by rw [notchTo, if_neg h]
/-- Which holes are notched for a digit, from the first one of the digit on. -/
def digL (kd d : Int) : List Int :=
  if kd = 1 then (if d = 0 then [0, 1] else if d = 1 then [3] else if d = 2 then [2] else if d = 3 then [2, 3] else if d = 4 then [1] else if d = 5 then [1, 3] else if d = 6 then [1, 2] else if d = 7 then [0] else if d = 8 then [0, 3] else [0, 2])
  else (if d = 0 then [0, 1] else if d = 1 then [0, 2] else if d = 2 then [0, 3] else if d = 3 then [0, 4] else if d = 4 then [1, 2] else if d = 5 then [1, 3] else if d = 6 then [1, 4] else if d = 7 then [2, 3] else if d = 8 then [2, 4] else [3, 4])
/-- The number in the base 2 that the reference keeps for a digit. -/
def digN (kd d : Int) : Int :=
  if kd = 1 then (if d = 0 then 12 else if d = 1 then 1 else if d = 2 then 2 else if d = 3 then 3 else if d = 4 then 4 else if d = 5 then 5 else if d = 6 then 6 else if d = 7 then 8 else if d = 8 then 9 else 10)
  else (if d = 0 then 24 else if d = 1 then 20 else if d = 2 then 18 else if d = 3 then 17 else if d = 4 then 12 else if d = 5 then 10 else if d = 6 then 9 else if d = 7 then 6 else if d = 8 then 5 else 3)
/-- How many holes a digit has. -/
def digW (kd : Int) : Int := if kd = 1 then 4 else 5
theorem digL_small (kd d x : Int) (h : x ∈ digL kd d) : 0 ≤ x ∧ x < digW kd := by
  unfold digL at h
  unfold digW
  split at h
  · rename_i hk
    rw [if_pos hk]
    repeat (first | (split at h) | (simp at h; omega))
  · rename_i hk
    rw [if_neg hk]
    repeat (first | (split at h) | (simp at h; omega))
theorem digL_len (kd d : Int) : (digL kd d).length ≤ 2 := by
  unfold digL
  repeat (first | split | simp)
/-- The digit's notches, put into a mask: by its list of holes, and by its number. -/
def digP (kd st d : Int) : Mask := mwith 0 ((digL kd d).map (st + ·))
theorem dig_notch (kd d : Int) (hk : kd = 1 ∨ kd = 2) (d0 : 0 ≤ d) (d1 : d < 10) (m : Mask) (st : Int) : notchTo m st (digW kd) (digN kd d) (digW kd).toNat = mjoin m (digP kd st d) := by
  unfold digP
  rw [← mwith_from]
  rcases hk with rfl | rfl
  · rcases (show d = 0 ∨ d = 1 ∨ d = 2 ∨ d = 3 ∨ d = 4 ∨ d = 5 ∨ d = 6 ∨ d = 7 ∨ d = 8 ∨ d = 9 by omega) with rfl | rfl | rfl | rfl | rfl | rfl | rfl | rfl | rfl | rfl
    all_goals simp [notchTo, digL, digN, digW, mwith]
  · rcases (show d = 0 ∨ d = 1 ∨ d = 2 ∨ d = 3 ∨ d = 4 ∨ d = 5 ∨ d = 6 ∨ d = 7 ∨ d = 8 ∨ d = 9 by omega) with rfl | rfl | rfl | rfl | rfl | rfl | rfl | rfl | rfl | rfl
    all_goals simp [notchTo, digL, digN, digW, mwith]
/-- A value's digit, counted from the highest one. -/
def digAt (sz v : Int) (k : Nat) : Int := v / 10 ^ (sz - 1 - k).toNat % 10
/-- The mask of a value's digit. -/
def digG (kd st sz v : Int) (k : Nat) : Mask := digP kd (st + digW kd * k) (digAt sz v k)
/-- The mask of a number in the base 2, with a hole that makes the holes' number odd. -/
def binF (st sz v : Int) : Mask := if mcount (notchTo 0 st sz v sz.toNat) % 2 = 0 then mjoin (notchTo 0 st sz v sz.toNat) (mbit (st + sz)) else notchTo 0 st sz v sz.toNat
/-- The mask of a value of a field. -/
def codeF (f : Fld) (v : Int) : Mask :=
  if f.kd = 0 then mbit (f.st + v) else if f.kd = 3 then binF f.st f.sz v else orTo (digG f.kd f.st f.sz v) f.sz.toNat
/-- The value that is kept in a mask, with a code. -/
def valAt (f : Fld) (p : Mask) : Nat → Option Int
  | 0 => none
  | k + 1 => (valAt f p k).or (if codeF f k = p then some (k : Int) else none)
def valueF (f : Fld) (m : Mask) : Int × Int :=
  if mmeet m (partF f) = 0 then (0, 6) else match valAt f (mmeet m (partF f)) (mostF f + 1).toNat with | some v => (v, 0) | none => (0, 8)
theorem valAt_hit {f : Fld} {p : Mask} {k : Nat} (h0 : valAt f p k = none) (h : codeF f k = p) : ∀ n, k < n → valAt f p n = some (k : Int)
  | 0, hn => by omega
  | n + 1, hn => by
    rw [valAt]
    by_cases hkn : k = n
    · subst hkn; rw [h0, Option.none_or, if_pos h]
    · rw [valAt_hit h0 h n (by omega), Option.some_or]
theorem valAt_miss {f : Fld} {p : Mask} {k : Nat} (h0 : valAt f p k = none) (h : ¬ codeF f k = p) : valAt f p (k + 1) = none := by rw [valAt, h0, Option.none_or, if_neg h]
theorem valueF_zero {f : Fld} {m : Mask} (h : mmeet m (partF f) = 0) : valueF f m = (0, 6) := by unfold valueF; rw [if_pos h]
theorem valueF_hit {f : Fld} {m : Mask} {k : Nat} (hp : ¬ mmeet m (partF f) = 0) (h0 : valAt f (mmeet m (partF f)) k = none) (h : codeF f k = mmeet m (partF f)) (hk : (k : Int) ≤ mostF f) : valueF f m = ((k : Int), 0) := by
  unfold valueF
  rw [if_neg hp, valAt_hit h0 h _ (by omega)]
theorem valueF_miss {f : Fld} {m : Mask} (hp : ¬ mmeet m (partF f) = 0) (h0 : valAt f (mmeet m (partF f)) (mostF f + 1).toNat = none) : valueF f m = (0, 8) := by
  unfold valueF
  rw [if_neg hp, h0]
end Go.Proofs.YtegopgpnjgikeaaGreatDoor
