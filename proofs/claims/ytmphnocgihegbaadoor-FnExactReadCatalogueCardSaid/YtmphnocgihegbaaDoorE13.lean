/-
  Contracts of the functions that write a catalogue as a text.
-/
import Derived.Test.YtmphnocgihegbaaDoorE9
set_option linter.unusedVariables false
set_option linter.unusedSimpArgs false
set_option maxRecDepth 100000
namespace Go.Proofs.YtmphnocgihegbaaDoor
open Go.RowKit
abbrev seeS : ByteArray := ⟨#[59, 115, 101, 101, 32]⟩
abbrev belowS : ByteArray := ⟨#[59, 98, 101, 108, 111, 119, 32]⟩
abbrev lineS : ByteArray := ⟨#[10]⟩
/-- What stands behind an entry's name. -/
def tailT (xs : List Ent) (x : Ent) (out : ByteArray) : ByteArray :=
  if x.see ≠ -1 then out ++ (seeS ++ xs[x.see.toNat]!.nm) else if x.br ≠ -1 then out ++ (belowS ++ xs[x.br.toNat]!.nm) else out
/-- The text of the first k entries. -/
def textTo (xs : List Ent) : Nat → ByteArray
  | 0 => ⟨#[]⟩
  | k + 1 => tailT xs xs[k]! (textTo xs k ++ xs[k]!.nm) ++ lineS
def textL (xs : List Ent) : ByteArray := textTo xs xs.length
def textF (xs : List Ent) : ByteArray := if catB xs = true then textL xs else ⟨#[]⟩
theorem name_size {xs : List Ent} (h : standsB xs = true) (i : Nat) (hi : i < xs.length) : xs[i]!.nm.size ≤ 24 := by
  have := (stand_parts (stands_at h i hi)).1
  unfold entNameB at this
  simp only [Bool.and_eq_true, decide_eq_true_eq] at this
  exact this.2.1
theorem see_place {xs : List Ent} (h : standsB xs = true) (i : Nat) (hi : i < xs.length) (hs : xs[i]!.see ≠ -1) : xs[i]!.see.toNat < xs.length ∧ 0 ≤ xs[i]!.see := by
  have := refB_in (stand_parts (stands_at h i hi)).2.2.1
  unfold InC at this
  omega
theorem br_place {xs : List Ent} (h : standsB xs = true) (i : Nat) (hi : i < xs.length) (hs : xs[i]!.br ≠ -1) : xs[i]!.br.toNat < xs.length ∧ 0 ≤ xs[i]!.br := by
  have := refB_in (stand_parts (stands_at h i hi)).2.2.2.1
  unfold InC at this
  omega
theorem tailT_size {xs : List Ent} (h : standsB xs = true) (i : Nat) (hi : i < xs.length) (out : ByteArray) : (tailT xs xs[i]! out).size ≤ out.size + 31 := by
  unfold tailT
  split
  · rename_i hs
    have := name_size h _ (see_place h i hi hs).1
    rw [ByteArray.size_append, ByteArray.size_append]
    show out.size + (5 + _) ≤ _
    omega
  · split
    · rename_i hs
      have := name_size h _ (br_place h i hi hs).1
      rw [ByteArray.size_append, ByteArray.size_append]
      show out.size + (7 + _) ≤ _
      omega
    · omega
theorem textTo_size {xs : List Ent} (h : standsB xs = true) : ∀ k, k ≤ xs.length → (textTo xs k).size ≤ k * 60
  | 0, _ => Nat.le_refl _
  | k + 1, hk => by
    have h1 := textTo_size h k (by omega)
    have h2 := tailT_size h k (by omega) (textTo xs k ++ xs[k]!.nm)
    have h3 := name_size h k (by omega)
    rw [textTo, ByteArray.size_append]
    rw [ByteArray.size_append] at h2
    show _ + 1 ≤ _
    omega
theorem textTo_see {xs : List Ent} (k n : Nat) (hk : k < xs.length) (hn : n < xs.length) (hs : xs[k].see = n) : textTo xs (k + 1) = (textTo xs k ++ xs[k].nm) ++ (seeS ++ xs[n].nm) ++ lineS := by
  rw [textTo, getBang xs k hk, tailT, if_pos (by rw [hs]; omega), hs, Int.toNat_natCast, getBang xs n hn]
theorem textTo_below {xs : List Ent} (k n : Nat) (hk : k < xs.length) (hn : n < xs.length) (h1 : xs[k].see = -1) (hs : xs[k].br = n) : textTo xs (k + 1) = (textTo xs k ++ xs[k].nm) ++ (belowS ++ xs[n].nm) ++ lineS := by
  rw [textTo, getBang xs k hk, tailT, if_neg (by rw [h1]; simp), if_pos (by rw [hs]; omega), hs, Int.toNat_natCast, getBang xs n hn]
theorem textTo_none {xs : List Ent} (k : Nat) (hk : k < xs.length) (h1 : xs[k].see = -1) (hs : xs[k].br = -1) : textTo xs (k + 1) = (textTo xs k ++ xs[k].nm) ++ lineS := by
  rw [textTo, getBang xs k hk, tailT, if_neg (by rw [h1]; simp), if_neg (by rw [hs]; simp)]
theorem no_over {a b : ByteArray} (h : a.size + b.size ≤ 10000) : ¬ (9223372036854775807 < a.size + b.size) := by omega
set_option maxHeartbeats 1000000 in
theorem impl_catalogueText (xs : List Ent) (A : Option Addr) (cap : Nat) (w : World) (hR : Rd encEnt w A xs) (hcat : catB xs = true) :
    Calls Tryd.prog 54 #[.slice A xs.length cap] w fun e w' => e = .returned (.string (textL xs)) ∧ Ext w w' := by
  have hlen := cat_len hcat
  have hS := cat_stands hcat
  go_enter Tryd.func54, Tryd.ntmps54
  go_wp2
  go_loopg [8, 3] xs.length (fun g i o wr => ∃ k : Nat, ∃ out : ByteArray, g = xs.length - k ∧ k ≤ xs.length ∧ i = .int .i64 k ∧ o = .string out ∧ out = textTo xs k ∧ Ext w wr)
  case atStart => exact ⟨0, _, by omega, by omega, rfl, rfl, rfl, Ext.refl _⟩
  case round =>
    obtain ⟨k, out, hg, hk, rfl, rfl, hO, hw⟩ := hrel
    have hsz := textTo_size hS k hk
    rw [← hO] at hsz
    by_cases hkl : k < xs.length
    · obtain ⟨b, off, hA, hlt, _⟩ := hR k hkl
      subst hA
      obtain ⟨m0, m1, m2, m3⟩ := (hR.ext hw).ent k hkl
      have hws := hw.size
      have hkk := getBang xs k hkl
      have hns := name_size hS k hkl
      rw [hkk] at hns
      have hos : out.size ≤ 2400 := by omega
      clear hsz
      have hs0 := no_over (show out.size + xs[k].nm.size ≤ 10000 by omega)
      have hz0 : (out ++ xs[k].nm).size ≤ 2424 := by rw [ByteArray.size_append]; omega
      have both := (stand_parts (stands_at hS k hkl)).2.2.2.2
      rw [hkk] at both
      by_cases q1 : xs[k].see = -1
      · have b1 : (xs[k].see != -1) = false := by simp [q1]
        by_cases q2 : xs[k].br = -1
        · have b2 : (xs[k].br != -1) = false := by simp [q2]
          have hs3 := no_over (show (out ++ xs[k].nm).size + lineS.size ≤ 10000 by show _ + 1 ≤ _; omega)
          have hT2 := hd (show (out ++ xs[k].nm) ++ lineS = textTo xs (k + 1) by rw [textTo_none k hkl q1 q2, hO])
          clear hO hS both hkk
          go_wp2
          go_roundg (xs.length - (k + 1))
          case rel => exact ⟨k + 1, _, rfl, hkl, rfl, rfl, hT2.out, by ((repeat (first | with_reducible exact Ext.refl _ | with_reducible exact hw | with_reducible exact hb9 | with_reducible exact hb8 | with_reducible exact hb7 | with_reducible exact hb6 | with_reducible exact hb5 | with_reducible exact hb4 | with_reducible exact hb3 | with_reducible exact hb2 | with_reducible exact hb1 | with_reducible refine Ext.alloc ?_ _ | with_reducible refine Ext.drew ?_ | ((with_reducible refine Ext.set ?_ ?_ _); focus (dsimp only; omega)) | with_reducible refine Ext.trans ?_ hb9 | with_reducible refine Ext.trans ?_ hb8 | with_reducible refine Ext.trans ?_ hb7 | with_reducible refine Ext.trans ?_ hb6 | with_reducible refine Ext.trans ?_ hb5 | with_reducible refine Ext.trans ?_ hb4 | with_reducible refine Ext.trans ?_ hb3 | with_reducible refine Ext.trans ?_ hb2 | with_reducible refine Ext.trans ?_ hb1 | with_reducible refine Ext.trans ?_ hw)))⟩
          case measure => omega
        · have b2 : (xs[k].br != -1) = true := by simp [q2]
          have hpl := br_place hS k hkl (by rw [hkk]; exact q2)
          rw [hkk] at hpl
          obtain ⟨n, hn⟩ : ∃ n : Nat, xs[k].br = n := ⟨xs[k].br.toNat, by omega⟩
          have hnl : n < xs.length := by omega
          obtain ⟨n0, n1, n2, n3⟩ := (hR.ext hw).ent n hnl
          have hns2 := name_size hS n hnl
          rw [getBang xs n hnl] at hns2
          have hz1 : (belowS ++ xs[n].nm).size ≤ 31 := by rw [ByteArray.size_append]; show 7 + _ ≤ _; omega
          have hs1 := no_over (show belowS.size + xs[n].nm.size ≤ 10000 by show 7 + _ ≤ _; omega)
          have hs2 := no_over (show (out ++ xs[k].nm).size + (belowS ++ xs[n].nm).size ≤ 10000 by omega)
          have hz2 : ((out ++ xs[k].nm) ++ (belowS ++ xs[n].nm)).size ≤ 2460 := by rw [ByteArray.size_append]; omega
          have hs3 := no_over (show ((out ++ xs[k].nm) ++ (belowS ++ xs[n].nm)).size + lineS.size ≤ 10000 by show _ + 1 ≤ _; omega)
          have hT2 := hd (show ((out ++ xs[k].nm) ++ (belowS ++ xs[n].nm)) ++ lineS = textTo xs (k + 1) by rw [textTo_below k n hkl hnl q1 hn, hO])
          rw [hn] at m2 b2
          clear hO hS both hkk hz0 hz1 hz2 hpl q2 hn
          go_wp2
          go_roundg (xs.length - (k + 1))
          case rel => exact ⟨k + 1, _, rfl, hkl, rfl, rfl, hT2.out, by ((repeat (first | with_reducible exact Ext.refl _ | with_reducible exact hw | with_reducible exact hb9 | with_reducible exact hb8 | with_reducible exact hb7 | with_reducible exact hb6 | with_reducible exact hb5 | with_reducible exact hb4 | with_reducible exact hb3 | with_reducible exact hb2 | with_reducible exact hb1 | with_reducible refine Ext.alloc ?_ _ | with_reducible refine Ext.drew ?_ | ((with_reducible refine Ext.set ?_ ?_ _); focus (dsimp only; omega)) | with_reducible refine Ext.trans ?_ hb9 | with_reducible refine Ext.trans ?_ hb8 | with_reducible refine Ext.trans ?_ hb7 | with_reducible refine Ext.trans ?_ hb6 | with_reducible refine Ext.trans ?_ hb5 | with_reducible refine Ext.trans ?_ hb4 | with_reducible refine Ext.trans ?_ hb3 | with_reducible refine Ext.trans ?_ hb2 | with_reducible refine Ext.trans ?_ hb1 | with_reducible refine Ext.trans ?_ hw)))⟩
          case measure => omega
      · have b1 : (xs[k].see != -1) = true := by simp [q1]
        have q2 : xs[k].br = -1 := both.resolve_left q1
        have b2 : (xs[k].br != -1) = false := by simp [q2]
        have hpl := see_place hS k hkl (by rw [hkk]; exact q1)
        rw [hkk] at hpl
        obtain ⟨n, hn⟩ : ∃ n : Nat, xs[k].see = n := ⟨xs[k].see.toNat, by omega⟩
        have hnl : n < xs.length := by omega
        obtain ⟨n0, n1, n2, n3⟩ := (hR.ext hw).ent n hnl
        have hns2 := name_size hS n hnl
        rw [getBang xs n hnl] at hns2
        have hz1 : (seeS ++ xs[n].nm).size ≤ 31 := by rw [ByteArray.size_append]; show 5 + _ ≤ _; omega
        have hs1 := no_over (show seeS.size + xs[n].nm.size ≤ 10000 by show 5 + _ ≤ _; omega)
        have hs2 := no_over (show (out ++ xs[k].nm).size + (seeS ++ xs[n].nm).size ≤ 10000 by omega)
        have hz2 : ((out ++ xs[k].nm) ++ (seeS ++ xs[n].nm)).size ≤ 2460 := by rw [ByteArray.size_append]; omega
        have hs3 := no_over (show ((out ++ xs[k].nm) ++ (seeS ++ xs[n].nm)).size + lineS.size ≤ 10000 by show _ + 1 ≤ _; omega)
        have hT2 := hd (show ((out ++ xs[k].nm) ++ (seeS ++ xs[n].nm)) ++ lineS = textTo xs (k + 1) by rw [textTo_see k n hkl hnl hn, hO])
        rw [hn] at m1 b1
        clear hO hS both hkk hz0 hz1 hz2 hpl q1 hn
        go_wp2
        go_roundg (xs.length - (k + 1))
        case rel => exact ⟨k + 1, _, rfl, hkl, rfl, rfl, hT2.out, by ((repeat (first | with_reducible exact Ext.refl _ | with_reducible exact hw | with_reducible exact hb9 | with_reducible exact hb8 | with_reducible exact hb7 | with_reducible exact hb6 | with_reducible exact hb5 | with_reducible exact hb4 | with_reducible exact hb3 | with_reducible exact hb2 | with_reducible exact hb1 | with_reducible refine Ext.alloc ?_ _ | with_reducible refine Ext.drew ?_ | ((with_reducible refine Ext.set ?_ ?_ _); focus (dsimp only; omega)) | with_reducible refine Ext.trans ?_ hb9 | with_reducible refine Ext.trans ?_ hb8 | with_reducible refine Ext.trans ?_ hb7 | with_reducible refine Ext.trans ?_ hb6 | with_reducible refine Ext.trans ?_ hb5 | with_reducible refine Ext.trans ?_ hb4 | with_reducible refine Ext.trans ?_ hb3 | with_reducible refine Ext.trans ?_ hb2 | with_reducible refine Ext.trans ?_ hb1 | with_reducible refine Ext.trans ?_ hw)))⟩
        case measure => omega
    · obtain rfl : k = xs.length := by omega
      have hT2 := hd (show out = textL xs from hO)
      clear hO
      go_wp2
      go_ret
      exact ⟨by rw [← hT2.out]; rfl, hw⟩

set_option maxHeartbeats 1000000 in
theorem spec_l05Text (xs : List Ent) (A : Option Addr) (cap : Nat) (w : World) (hR : Rd encEnt w A xs) (hcat : catB xs = true) :
    Calls Tryd.prog 49 #[.slice A xs.length cap] w fun e w' => e = .returned (.string (textL xs)) ∧ Ext w w' := by
  have hlen := cat_len hcat
  have hS := cat_stands hcat
  go_enter Tryd.func49, Tryd.ntmps49
  go_wp2
  go_loopg [4, 3] xs.length (fun g i o wr => ∃ k : Nat, ∃ out : ByteArray, g = xs.length - k ∧ k ≤ xs.length ∧ i = .int .i64 k ∧ o = .string out ∧ out = textTo xs k ∧ Ext w wr)
  case atStart => exact ⟨0, _, by omega, by omega, rfl, rfl, rfl, Ext.refl _⟩
  case round =>
    obtain ⟨k, out, hg, hk, rfl, rfl, hO, hw⟩ := hrel
    have hsz := textTo_size hS k hk
    rw [← hO] at hsz
    by_cases hkl : k < xs.length
    · obtain ⟨b, off, hA, hlt, _⟩ := hR k hkl
      subst hA
      obtain ⟨m0, m1, m2, m3⟩ := (hR.ext hw).ent k hkl
      have hws := hw.size
      have hkk := getBang xs k hkl
      have hns := name_size hS k hkl
      rw [hkk] at hns
      have hos : out.size ≤ 2400 := by omega
      clear hsz
      have hs0 := no_over (show out.size + xs[k].nm.size ≤ 10000 by omega)
      have hz0 : (out ++ xs[k].nm).size ≤ 2424 := by rw [ByteArray.size_append]; omega
      have both := (stand_parts (stands_at hS k hkl)).2.2.2.2
      rw [hkk] at both
      by_cases q1 : xs[k].see = -1
      · have b1 : (xs[k].see != -1) = false := by simp [q1]
        by_cases q2 : xs[k].br = -1
        · have b2 : (xs[k].br != -1) = false := by simp [q2]
          have hs3 := no_over (show (out ++ xs[k].nm).size + lineS.size ≤ 10000 by show _ + 1 ≤ _; omega)
          have hT2 := hd (show (out ++ xs[k].nm) ++ lineS = textTo xs (k + 1) by rw [textTo_none k hkl q1 q2, hO])
          clear hO hS both hkk
          go_wp2
          go_roundg (xs.length - (k + 1))
          case rel => exact ⟨k + 1, _, rfl, hkl, rfl, rfl, hT2.out, by ((repeat (first | with_reducible exact Ext.refl _ | with_reducible exact hw | with_reducible exact hb9 | with_reducible exact hb8 | with_reducible exact hb7 | with_reducible exact hb6 | with_reducible exact hb5 | with_reducible exact hb4 | with_reducible exact hb3 | with_reducible exact hb2 | with_reducible exact hb1 | with_reducible refine Ext.alloc ?_ _ | with_reducible refine Ext.drew ?_ | ((with_reducible refine Ext.set ?_ ?_ _); focus (dsimp only; omega)) | with_reducible refine Ext.trans ?_ hb9 | with_reducible refine Ext.trans ?_ hb8 | with_reducible refine Ext.trans ?_ hb7 | with_reducible refine Ext.trans ?_ hb6 | with_reducible refine Ext.trans ?_ hb5 | with_reducible refine Ext.trans ?_ hb4 | with_reducible refine Ext.trans ?_ hb3 | with_reducible refine Ext.trans ?_ hb2 | with_reducible refine Ext.trans ?_ hb1 | with_reducible refine Ext.trans ?_ hw)))⟩
          case measure => omega
        · have b2 : (xs[k].br != -1) = true := by simp [q2]
          have hpl := br_place hS k hkl (by rw [hkk]; exact q2)
          rw [hkk] at hpl
          obtain ⟨n, hn⟩ : ∃ n : Nat, xs[k].br = n := ⟨xs[k].br.toNat, by omega⟩
          have hnl : n < xs.length := by omega
          obtain ⟨n0, n1, n2, n3⟩ := (hR.ext hw).ent n hnl
          have hns2 := name_size hS n hnl
          rw [getBang xs n hnl] at hns2
          have hz1 : (belowS ++ xs[n].nm).size ≤ 31 := by rw [ByteArray.size_append]; show 7 + _ ≤ _; omega
          have hs1 := no_over (show belowS.size + xs[n].nm.size ≤ 10000 by show 7 + _ ≤ _; omega)
          have hs2 := no_over (show (out ++ xs[k].nm).size + (belowS ++ xs[n].nm).size ≤ 10000 by omega)
          have hz2 : ((out ++ xs[k].nm) ++ (belowS ++ xs[n].nm)).size ≤ 2460 := by rw [ByteArray.size_append]; omega
          have hs3 := no_over (show ((out ++ xs[k].nm) ++ (belowS ++ xs[n].nm)).size + lineS.size ≤ 10000 by show _ + 1 ≤ _; omega)
          have hT2 := hd (show ((out ++ xs[k].nm) ++ (belowS ++ xs[n].nm)) ++ lineS = textTo xs (k + 1) by rw [textTo_below k n hkl hnl q1 hn, hO])
          rw [hn] at m2 b2
          clear hO hS both hkk hz0 hz1 hz2 hpl q2 hn
          go_wp2
          go_roundg (xs.length - (k + 1))
          case rel => exact ⟨k + 1, _, rfl, hkl, rfl, rfl, hT2.out, by ((repeat (first | with_reducible exact Ext.refl _ | with_reducible exact hw | with_reducible exact hb9 | with_reducible exact hb8 | with_reducible exact hb7 | with_reducible exact hb6 | with_reducible exact hb5 | with_reducible exact hb4 | with_reducible exact hb3 | with_reducible exact hb2 | with_reducible exact hb1 | with_reducible refine Ext.alloc ?_ _ | with_reducible refine Ext.drew ?_ | ((with_reducible refine Ext.set ?_ ?_ _); focus (dsimp only; omega)) | with_reducible refine Ext.trans ?_ hb9 | with_reducible refine Ext.trans ?_ hb8 | with_reducible refine Ext.trans ?_ hb7 | with_reducible refine Ext.trans ?_ hb6 | with_reducible refine Ext.trans ?_ hb5 | with_reducible refine Ext.trans ?_ hb4 | with_reducible refine Ext.trans ?_ hb3 | with_reducible refine Ext.trans ?_ hb2 | with_reducible refine Ext.trans ?_ hb1 | with_reducible refine Ext.trans ?_ hw)))⟩
          case measure => omega
      · have b1 : (xs[k].see != -1) = true := by simp [q1]
        have q2 : xs[k].br = -1 := both.resolve_left q1
        have b2 : (xs[k].br != -1) = false := by simp [q2]
        have hpl := see_place hS k hkl (by rw [hkk]; exact q1)
        rw [hkk] at hpl
        obtain ⟨n, hn⟩ : ∃ n : Nat, xs[k].see = n := ⟨xs[k].see.toNat, by omega⟩
        have hnl : n < xs.length := by omega
        obtain ⟨n0, n1, n2, n3⟩ := (hR.ext hw).ent n hnl
        have hns2 := name_size hS n hnl
        rw [getBang xs n hnl] at hns2
        have hz1 : (seeS ++ xs[n].nm).size ≤ 31 := by rw [ByteArray.size_append]; show 5 + _ ≤ _; omega
        have hs1 := no_over (show seeS.size + xs[n].nm.size ≤ 10000 by show 5 + _ ≤ _; omega)
        have hs2 := no_over (show (out ++ xs[k].nm).size + (seeS ++ xs[n].nm).size ≤ 10000 by omega)
        have hz2 : ((out ++ xs[k].nm) ++ (seeS ++ xs[n].nm)).size ≤ 2460 := by rw [ByteArray.size_append]; omega
        have hs3 := no_over (show ((out ++ xs[k].nm) ++ (seeS ++ xs[n].nm)).size + lineS.size ≤ 10000 by show _ + 1 ≤ _; omega)
        have hT2 := hd (show ((out ++ xs[k].nm) ++ (seeS ++ xs[n].nm)) ++ lineS = textTo xs (k + 1) by rw [textTo_see k n hkl hnl hn, hO])
        rw [hn] at m1 b1
        clear hO hS both hkk hz0 hz1 hz2 hpl q1 hn
        go_wp2
        go_roundg (xs.length - (k + 1))
        case rel => exact ⟨k + 1, _, rfl, hkl, rfl, rfl, hT2.out, by ((repeat (first | with_reducible exact Ext.refl _ | with_reducible exact hw | with_reducible exact hb9 | with_reducible exact hb8 | with_reducible exact hb7 | with_reducible exact hb6 | with_reducible exact hb5 | with_reducible exact hb4 | with_reducible exact hb3 | with_reducible exact hb2 | with_reducible exact hb1 | with_reducible refine Ext.alloc ?_ _ | with_reducible refine Ext.drew ?_ | ((with_reducible refine Ext.set ?_ ?_ _); focus (dsimp only; omega)) | with_reducible refine Ext.trans ?_ hb9 | with_reducible refine Ext.trans ?_ hb8 | with_reducible refine Ext.trans ?_ hb7 | with_reducible refine Ext.trans ?_ hb6 | with_reducible refine Ext.trans ?_ hb5 | with_reducible refine Ext.trans ?_ hb4 | with_reducible refine Ext.trans ?_ hb3 | with_reducible refine Ext.trans ?_ hb2 | with_reducible refine Ext.trans ?_ hb1 | with_reducible refine Ext.trans ?_ hw)))⟩
        case measure => omega
    · obtain rfl : k = xs.length := by omega
      have hT2 := hd (show out = textL xs from hO)
      clear hO
      go_wp2
      go_ret
      exact ⟨by rw [← hT2.out]; rfl, hw⟩

