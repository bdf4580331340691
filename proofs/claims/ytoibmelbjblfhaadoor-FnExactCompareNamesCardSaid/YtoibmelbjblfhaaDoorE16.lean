/-
  How names are filed, as data; contracts of the functions that compare words.
-/
import Derived.Test.YtoibmelbjblfhaaDoorE4
import Derived.Laws.Cover1
set_option linter.unusedVariables false
set_option linter.unusedSimpArgs false
set_option maxRecDepth 100000
namespace Go.Proofs.YtoibmelbjblfhaaDoor
open Go.RowKit
def isDig (c : UInt8) : Bool := decide (48 ≤ c.toNat) && decide (c.toNat ≤ 57)
/-- Has a word digits alone? -/
def digB (s : ByteArray) : Bool := s.data.toList.all isDig
/-- A word without the zeros in front. -/
def stripZ (s : ByteArray) : ByteArray := ⟨(Lib.trimLeftB s.data.toList 48).toArray⟩
def cmpB (a b : ByteArray) : Int := Lib.compareBytes a.data.toList b.data.toList
def orI (a b : Int) : Int := if a ≠ 0 then a else b
def cmpD (x y : ByteArray) : Int := orI (Lib.compareInt x.size y.size) (cmpB x y)
/-- Two words as they are filed. -/
def cmpW (a b : ByteArray) : Int := if digB a = true then (if digB b = true then cmpD (stripZ a) (stripZ b) else -1) else (if digB b = true then 1 else cmpB a b)
def cmpL : List ByteArray → List ByteArray → Int
  | [], [] => 0
  | [], _ :: _ => -1
  | _ :: _, [] => 1
  | x :: xs, y :: ys => if cmpW x y ≠ 0 then cmpW x y else cmpL xs ys
theorem cmpL_step (xs ys : List ByteArray) (k : Nat) (hx : k < xs.length) (hy : k < ys.length) : cmpL (xs.drop k) (ys.drop k) = if cmpW xs[k] ys[k] ≠ 0 then cmpW xs[k] ys[k] else cmpL (xs.drop (k + 1)) (ys.drop (k + 1)) := by
  rw [List.drop_eq_getElem_cons hx, List.drop_eq_getElem_cons hy, cmpL]
theorem cmpL_long (xs ys : List ByteArray) (k : Nat) (hx : k < xs.length) (hy : ys.length ≤ k) : cmpL (xs.drop k) (ys.drop k) = 1 := by
  rw [List.drop_eq_getElem_cons hx, List.drop_eq_nil_of_le hy, cmpL]
theorem cmpL_short (xs ys : List ByteArray) (k : Nat) (hx : xs.length ≤ k) (hy : k < ys.length) : cmpL (xs.drop k) (ys.drop k) = -1 := by
  rw [List.drop_eq_nil_of_le hx, List.drop_eq_getElem_cons hy, cmpL]
theorem cmpL_end (xs ys : List ByteArray) (k : Nat) (hx : xs.length ≤ k) (hy : ys.length ≤ k) : cmpL (xs.drop k) (ys.drop k) = 0 := by
  rw [List.drop_eq_nil_of_le hx, List.drop_eq_nil_of_le hy, cmpL]
theorem cmpBytes_less : ∀ (a b : List UInt8), Lib.compareBytes a b = if Op.bytesLess a b = true then -1 else if (a == b) = true then 0 else 1
  | [], [] => rfl
  | [], _ :: _ => rfl
  | _ :: _, [] => rfl
  | a :: r, b :: q => by
    have ih := cmpBytes_less r q
    unfold Lib.compareBytes Op.bytesLess
    by_cases h1 : a < b
    · simp [h1]
    · by_cases h2 : b < a
      · have hne : a ≠ b := fun e => by subst e; exact h1 h2
        simp [h1, h2, hne]
      · have he : a = b := by
          apply UInt8.toNat_inj.1
          have h3 : ¬ a.toNat < b.toNat := fun h => h1 (UInt8.lt_iff_toNat_lt.2 h)
          have h4 : ¬ b.toNat < a.toNat := fun h => h2 (UInt8.lt_iff_toNat_lt.2 h)
          omega
        subst he
        simp [h1, ih]
theorem cmpB_less (a b : ByteArray) : cmpB a b = if Op.bytesLess a.toList b.toList = true then -1 else if (a.toList == b.toList) = true then 0 else 1 := by
  rw [ByteArray.toList_eq, ByteArray.toList_eq]
  exact cmpBytes_less _ _
/-- The words by which a name is filed. -/
def artB (s : ByteArray) : Bool := decide (s.toList = [97]) || (decide (s.toList = [97, 110]) || decide (s.toList = [116, 104, 101]))
def filedF (ws : List ByteArray) : List ByteArray := if decide (1 < ws.length) && artB ws[0]! then ws.drop 1 else ws
def cmpN (a b : ByteArray) : Int := orI (cmpL (filedF (splitC 32 a)) (filedF (splitC 32 b))) (cmpB a b)
def cnF (a b : ByteArray) : Int × Int := if entNameB a = true ∧ entNameB b = true then (cmpN a b, 0) else (0, 1)
theorem filedF_len (ws : List ByteArray) : (filedF ws).length ≤ ws.length := by
  unfold filedF
  split
  · rw [List.length_drop]; omega
  · omega
theorem filedF_mem {ws : List ByteArray} {x : ByteArray} (h : x ∈ filedF ws) : x ∈ ws := by
  unfold filedF at h
  split at h
  · exact List.mem_of_mem_drop h
  · exact h
theorem stripZ_size (s : ByteArray) : (stripZ s).size ≤ s.size := by
  show (Lib.trimLeftB s.data.toList 48).toArray.size ≤ s.data.toList.length
  rw [List.size_toArray]
  unfold Lib.trimLeftB
  exact (List.dropWhile_sublist _).length_le
abbrev digSet : ByteArray := ⟨#[48, 49, 50, 51, 52, 53, 54, 55, 56, 57]⟩
theorem inS_dig (c : UInt8) : inS digSet.data.toList c = isDig c := by
  have h : ∀ n : Fin 256, inS digSet.data.toList (UInt8.ofNat n.val) = isDig (UInt8.ofNat n.val) := by decide +kernel
  have := h ⟨c.toNat, c.toNat_lt⟩
  simpa using this
theorem plain_dig (s : ByteArray) (h : s.data.toList.all isPlain = true) : (s.data.toList.all fun c => decide (c.toNat ≤ 57)) = digB s := by
  unfold digB
  rw [List.all_eq_true] at h
  rw [Bool.eq_iff_iff, List.all_eq_true, List.all_eq_true]
  constructor
  · intro h1 c hc
    have h2 := h c hc
    have h3 := h1 c hc
    simp only [isPlain, isDig, Bool.or_eq_true, Bool.and_eq_true, decide_eq_true_eq] at *
    omega
  · intro h1 c hc
    have h3 := h1 c hc
    simp only [isDig, Bool.and_eq_true, decide_eq_true_eq] at *
    omega
theorem sign_cmp (x y : Nat) : Lib.compareInt x y = if (x : Int) - y < 0 then -1 else if (x : Int) - y > 0 then 1 else 0 := by
  unfold Lib.compareInt
  by_cases h1 : (x : Int) < y
  · rw [if_pos h1, if_pos (show (x : Int) - y < 0 by omega)]
  · by_cases h2 : (x : Int) > y
    · rw [if_neg h1, if_pos h2, if_neg (show ¬ (x : Int) - y < 0 by omega), if_pos (show (x : Int) - y > 0 by omega)]
    · rw [if_neg h1, if_neg h2, if_neg (show ¬ (x : Int) - y < 0 by omega), if_neg (show ¬ (x : Int) - y > 0 by omega)]
theorem spec_l05Sign (n : Int) (w : World) :
    Calls Tryd.prog 78 #[.int .i64 n] w fun e w' => e = .returned (.int .i64 (if n < 0 then -1 else if n > 0 then 1 else 0)) ∧ Ext w w' := by
  by_cases h1 : n < 0
  · rw [if_pos h1]
    go_enter Tryd.func78, Tryd.ntmps78
    go_wp2
    go_ret
    exact ⟨rfl, Ext.refl _⟩
  · rw [if_neg h1]
    by_cases h2 : n > 0
    · rw [if_pos h2]
      go_enter Tryd.func78, Tryd.ntmps78
      go_wp2
      go_ret
      exact ⟨rfl, Ext.refl _⟩
    · rw [if_neg h2]
      go_enter Tryd.func78, Tryd.ntmps78
      go_wp2
      go_ret
      exact ⟨rfl, Ext.refl _⟩
theorem spec_l05Order (a b : ByteArray) (w : World) :
    Calls Tryd.prog 79 #[.string a, .string b] w fun e w' => e = .returned (.int .i64 (cmpB a b)) ∧ Ext w w' := by
  have hv := hd (cmpB_less a b)
  cases h1 : Op.bytesLess a.toList b.toList with
  | true =>
    rw [h1] at hv
    go_enter Tryd.func79, Tryd.ntmps79
    go_wp2
    go_ret
    exact ⟨by rw [hv.out]; rfl, Ext.refl _⟩
  | false =>
    rw [h1] at hv
    cases h2 : (a.toList == b.toList) with
    | true =>
      rw [h2] at hv
      go_enter Tryd.func79, Tryd.ntmps79
      go_wp2
      go_ret
      exact ⟨by rw [hv.out]; rfl, Ext.refl _⟩
    | false =>
      rw [h2] at hv
      go_enter Tryd.func79, Tryd.ntmps79
      go_wp2
      go_ret
      exact ⟨by rw [hv.out]; rfl, Ext.refl _⟩
set_option maxHeartbeats 400000 in
theorem spec_l05Digits (s : ByteArray) (hs : s.size ≤ 1048576) (w : World) :
    Calls Tryd.prog 94 #[.string s] w fun e w' => e = .returned (.bool (s.data.toList.all fun c => decide (c.toNat ≤ 57))) ∧ Ext w w' := by
  go_enter Tryd.func94, Tryd.ntmps94
  go_wp2
  go_loopg [3] s.size (fun g i wr => ∃ k : Nat, g = s.size - k ∧ k ≤ s.size ∧ i = .int .i64 k ∧ Ext w wr ∧ (s.data.toList.take k).all (fun c => decide (c.toNat ≤ 57)) = true)
  case atStart => exact ⟨0, by omega, by omega, rfl, Ext.refl _, by rw [List.take_zero]; rfl⟩
  case round =>
    obtain ⟨k, hg, hk, rfl, hw, hQ⟩ := hrel
    by_cases hkl : k < s.size
    · have hk2 : k < s.data.toList.length := hkl
      have hT := all_take (fun c : UInt8 => decide (c.toNat ≤ 57)) s.data.toList k hk2
      rw [hQ, Bool.true_and, show s.data.toList[k] = s[k] from rfl] at hT
      by_cases hb : 57 < s[k].toNat
      · have hv := hd (all_miss (fun c : UInt8 => decide (c.toNat ≤ 57)) s.data.toList k hk2 (by rw [show s.data.toList[k] = s[k] from rfl, decide_eq_false_iff_not]; omega))
        have d2 : ((57 : Int) < (s[k].toNat : Int)) = True := by simp; omega
        clear hT hQ
        go_wp2
        go_ret
        exact ⟨by rw [hv.out]; rfl, hw⟩
      · have hT2 := hd (hT.trans (show decide (s[k].toNat ≤ 57) = true by simp; omega))
        have d2 : ((57 : Int) < (s[k].toNat : Int)) = False := by simp; omega
        clear hT hQ
        go_wp2
        go_roundg (s.size - (k + 1))
        case rel => exact ⟨k + 1, rfl, hkl, rfl, hw, hT2.out⟩
        case measure => omega
    · obtain rfl : k = s.size := by omega
      rw [show s.data.toList.take s.size = s.data.toList from List.take_length] at hQ
      have hv := hd hQ
      clear hQ
      go_wp2
      go_ret
      exact ⟨by rw [hv.out]; rfl, hw⟩
set_option maxHeartbeats 400000 in
theorem spec_l05Value (s : ByteArray) (hs : s.size ≤ 1048576) (w : World) :
    Calls Tryd.prog 95 #[.string s] w fun e w' => e = .returned (.string (stripZ s)) ∧ Ext w w' := by
  go_enter Tryd.func95, Tryd.ntmps95
  go_wp2
  go_loopg [0] s.size (fun g v wr => ∃ t : ByteArray, g = t.size ∧ v = .string t ∧ t.size ≤ s.size ∧ Lib.trimLeftB t.data.toList 48 = Lib.trimLeftB s.data.toList 48 ∧ Ext w wr)
  case atStart => exact ⟨s, rfl, rfl, Nat.le_refl _, rfl, Ext.refl _⟩
  case round =>
    obtain ⟨t, hg, rfl, hts, hT, hw⟩ := hrel
    by_cases h0 : 0 < t.size
    · have hcons : t.data.toList = t[0] :: t.data.toList.drop 1 := by
        have : 0 < t.data.toList.length := h0
        exact (List.drop_eq_getElem_cons this)
      by_cases h1 : t[0].toNat = 48
      · have d1 : ((t[0].toNat : Int) = 48) = True := by simp; omega
        have hx : (t.extract 1 t.size).data.toList = t.data.toList.drop 1 := by
          rw [extr_data, List.take_of_length_le (by rw [List.length_drop]; exact Nat.le_refl _)]
        have hz : (t.extract 1 t.size).size = t.size - 1 := by
          show (t.extract 1 t.size).data.toList.length = _
          rw [hx, List.length_drop]
          rfl
        have hT2 := hd (show Lib.trimLeftB (t.extract 1 t.size).data.toList 48 = Lib.trimLeftB s.data.toList 48 by
          rw [hx, ← hT]
          conv => rhs; rw [hcons]
          unfold Lib.trimLeftB
          rw [List.dropWhile_cons, if_pos (by rw [beq_iff_eq]; exact UInt8.toNat_inj.1 h1)])
        clear hT hcons hx
        go_wp2
        go_roundg (t.size - 1)
        case rel => exact ⟨t.extract 1 t.size, hz.symm, rfl, by omega, hT2.out, hw⟩
        case measure => omega
      · have d1 : ((t[0].toNat : Int) = 48) = False := by simp; omega
        have hv := hd (show stripZ s = t by
          apply ext_ba
          show (Lib.trimLeftB s.data.toList 48).toArray.toList = _
          rw [← hT]
          unfold Lib.trimLeftB
          conv => rhs; rw [hcons]
          rw [hcons, List.dropWhile_cons, if_neg (by rw [beq_iff_eq]; intro h; exact h1 (by rw [h]; rfl))]
          simp)
        clear hT hcons
        go_wp2
        go_ret
        exact ⟨by rw [hv.out]; rfl, hw⟩
    · have hv := hd (show stripZ s = t by
        apply ext_ba
        show (Lib.trimLeftB s.data.toList 48).toArray.toList = _
        have he : t.data.toList = [] := List.eq_nil_of_length_eq_zero (by show t.size = 0; omega)
        rw [← hT, he]
        rfl)
      clear hT
      go_wp2
      go_ret
      exact ⟨by rw [hv.out]; rfl, hw⟩
