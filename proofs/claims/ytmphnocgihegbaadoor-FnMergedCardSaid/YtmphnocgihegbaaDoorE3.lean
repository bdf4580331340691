/-
  Contracts of the functions that cut a text into words and ask whether it is a name of an entry.
-/
import Derived.Test.YtmphnocgihegbaaDoorE1
import Derived.Test.YtmphnocgihegbaaDoorE2
import Derived.Test.YtmphnocgihegbaaDoorT1
import Derived.Test.YtmphnocgihegbaaDoorShelf
import Derived.Shelf.Strings.PiecesUse
set_option linter.unusedVariables false
set_option linter.unusedSimpArgs false
set_option maxRecDepth 100000
namespace Go.Proofs.YtmphnocgihegbaaDoor
open Go.RowKit
/-- Texts as elements. -/
def encStr : Enc ByteArray where
  enc x := [.string x]
  sz := 1
  len _ := rfl
  one m u hu := by
    simp only [List.mem_cons, List.not_mem_nil, or_false] at hu
    subst hu
    rfl
  pos := by decide
theorem Rd.str {w : World} {b off : Nat} {xs : List ByteArray} (h : Rd encStr w (some ⟨b, off, none⟩) xs) (k : Nat) (hk : k < xs.length) :
    w.cell? ⟨b, off + k, none⟩ = some (.string xs[k]) := by
  obtain ⟨b', off', e1, hlt, hc⟩ := h k hk
  simp only [Option.some.injEq, Addr.mk.injEq, and_true] at e1
  obtain ⟨rfl, rfl⟩ := e1
  have := hc 0 _ rfl
  simpa [encStr] using this
/-- The library's own word lies in its place. -/
def Glob (w : World) : Prop := ∃ m, w.cell? ⟨0, 0, none⟩ = some (.int .i64 m)
theorem Glob.ext {w w' : World} (h : Glob w) (hb : Ext w w') : Glob w' := ⟨h.choose, hb.cell h.choose_spec⟩
theorem splitC_len (s : ByteArray) (c : UInt8) : (splitC c s).length = Lib.countB s ⟨#[c]⟩ + 1 := Lib.splitB_all ⟨#[c]⟩ (show 1 ≤ 1 from Nat.le_refl 1) 0 _ s rfl
theorem splitC_le (s : ByteArray) (c : UInt8) : (splitC c s).length ≤ s.size + 1 := by
  rw [splitC_len]
  have := Lib.countB_le ⟨#[c]⟩ (show 1 ≤ 1 from Nat.le_refl 1) s.size s (Nat.le_refl _)
  omega
theorem strings_Split (s : ByteArray) (c : UInt8) (w : World) (hs : s.size < 4294967281) (hG : Glob w) :
    Calls Tryd.prog 71 #[.string s, .string ⟨#[c]⟩] w fun e w' => e = .returned (.slice (some ⟨w.heap.size, 0, none⟩) (splitC c s).length (splitC c s).length) ∧ Rd encStr w' (some ⟨w.heap.size, 0, none⟩) (splitC c s) ∧ Ext w w' := by
  obtain ⟨m, hm⟩ := hG
  refine (Tryd.strings_Split s ⟨#[c]⟩ m w hs hm (show 1 ≤ 1 from Nat.le_refl 1)).mono ?_
  rintro e w' ⟨rfl, rfl⟩
  rw [← splitC_len]
  refine ⟨rfl, ?_, (Ext.refl w).alloc _⟩
  intro k hk
  refine ⟨_, _, rfl, by simp, ?_⟩
  intro j u hu
  cases j with
  | zero =>
    simp only [encStr, List.getElem?_cons_zero, Option.some.injEq] at hu
    subst hu
    simp [encStr, splitC]
  | succ j => simp [encStr] at hu
theorem info_str : (Tryd.prog.info? 9).map (fun i => (i.zero, i.size, i.bytes)) = some (some (.string ⟨#[]⟩), encStr.sz, 16) := by kernel_rfl
set_option maxHeartbeats 400000 in
theorem spec_l01Split (s : ByteArray) (c : UInt8) (hs : s.size ≤ 2097152) (w : World) :
    Calls Tryd.prog 46 #[.string s, .int .u8 c.toNat] w fun e w' => ∃ v, e = .returned v ∧ Ow encStr 9 w' w.heap.size v (splitC c s) ∧ Ext w w' := by
  go_enter Tryd.func46, Tryd.ntmps46
  go_wp2
  go_loopg [7, 6, 5] s.size (fun g i bg v wr => ∃ k b : Nat, ∃ ws : List ByteArray, g = s.size - k ∧ k ≤ s.size ∧ b ≤ k ∧ i = .int .i64 k ∧ bg = .int .i64 b ∧ ws.length ≤ k ∧ Ext w wr ∧ Ow encStr 9 wr w.heap.size v ws ∧ splitC c s = ws ++ splitC c (s.extract b s.size) ∧ ∀ j, b ≤ j → j < k → s.data.toList[j]? ≠ some c)
  case atStart => exact ⟨0, 0, [], by omega, by omega, by omega, rfl, rfl, by simp, by ((repeat (first | with_reducible exact Ext.refl _ | with_reducible exact hw | with_reducible exact hb9 | with_reducible exact hb8 | with_reducible exact hb7 | with_reducible exact hb6 | with_reducible exact hb5 | with_reducible exact hb4 | with_reducible exact hb3 | with_reducible exact hb2 | with_reducible exact hb1 | with_reducible refine Ext.alloc ?_ _ | with_reducible refine Ext.drew ?_ | ((with_reducible refine Ext.set ?_ ?_ _); focus (dsimp only; omega)) | with_reducible refine Ext.trans ?_ hb9 | with_reducible refine Ext.trans ?_ hb8 | with_reducible refine Ext.trans ?_ hb7 | with_reducible refine Ext.trans ?_ hb6 | with_reducible refine Ext.trans ?_ hb5 | with_reducible refine Ext.trans ?_ hb4 | with_reducible refine Ext.trans ?_ hb3 | with_reducible refine Ext.trans ?_ hb2 | with_reducible refine Ext.trans ?_ hb1 | with_reducible refine Ext.trans ?_ hw))), Ow.made0 (by simp) (by simp), by rw [extr_all]; rfl, by intro j _ h; omega⟩
  case round =>
    obtain ⟨k, b, ws, hg, hk, hbk, rfl, rfl, hl, hw, hO, hS, hno⟩ := hrel
    by_cases hkl : k < s.size
    · have hgk : s.data.toList[k]? = some s[k] := List.getElem?_eq_getElem (show k < s.data.toList.length from hkl)
      by_cases hq : s[k] = c
      · have d1 : ((s[k].toNat : Int) = (c.toNat : Int)) = True := by rw [hq]; simp
        have hS2 := hd (splitC_hit c s b k hbk hkl (by rw [hgk, hq]) hno)
        go_wp2_with (at_builtin; refine wpList_push (w0 := w) (base := w.heap.size) (xs := ws) encStr (by rfl) _ _ 59 (.string ⟨#[]⟩) 16 (by rfl) Tryd.underlying59 info_str (by rfl) (s.extract b k) (by rfl) (by rfl) hO (by have := hw.size; omega) (by omega) hw (by omega) (by omega) ?_)
        intro v3 w3 hO3 hb3 hg3 _
        go_wp2
        go_roundg (s.size - (k + 1))
        case rel => exact ⟨k + 1, k + 1, ws ++ [s.extract b k], rfl, hkl, by omega, rfl, rfl, by rw [List.length_append, List.length_singleton]; omega, hb3, hO3, by rw [hS, hS2.out, List.append_assoc]; rfl, by intro j h1 h2; omega⟩
        case measure => omega
      · have d1 : ((s[k].toNat : Int) = (c.toNat : Int)) = False := by simp only [eq_iff_iff, iff_false]; intro h; exact hq (UInt8.toNat_inj.1 (by omega))
        have d2 : (s[k].toNat = c.toNat) = False := by simp only [eq_iff_iff, iff_false]; intro h; exact hq (UInt8.toNat_inj.1 h)
        have d3 : (s[k] = c) = False := by simp only [eq_iff_iff, iff_false]; exact hq
        have d4 : ((s[k].toNat : Int) == (c.toNat : Int)) = false := by rw [beq_eq_false_iff_ne]; intro h; exact hq (UInt8.toNat_inj.1 (by omega))
        go_wp2
        go_roundg (s.size - (k + 1))
        case rel => exact ⟨k + 1, b, ws, rfl, hkl, by omega, rfl, rfl, by omega, hw, hO, hS, by
          intro j h1 h2
          by_cases hj : j = k
          · subst hj
            rw [hgk]
            simpa using hq
          · exact hno j h1 (by omega)⟩
        case measure => omega
    · obtain rfl : k = s.size := by omega
      have hS2 := hd (splitC_end c s b hno)
      go_wp2_with (at_builtin; refine wpList_push (w0 := w) (base := w.heap.size) (xs := ws) encStr (by rfl) _ _ 59 (.string ⟨#[]⟩) 16 (by rfl) Tryd.underlying59 info_str (by rfl) (s.extract b s.size) (by rfl) (by rfl) hO (by have := hw.size; omega) (by omega) hw (by omega) (by omega) ?_)
      intro v3 w3 hO3 hb3 hg3 _
      go_wp2
      go_ret
      exact ⟨_, rfl, by rw [hS, hS2.out]; exact hO3, hb3⟩
set_option maxHeartbeats 400000 in
theorem spec_l05Plain (c : UInt8) (w : World) :
    Calls Tryd.prog 79 #[.int .u8 c.toNat] w fun e w' => e = .returned (.bool (isPlain c)) ∧ Ext w w' := by
  unfold isPlain
  go_enter Tryd.func79, Tryd.ntmps79
  by_cases h1 : 97 ≤ c.toNat <;> by_cases h2 : c.toNat ≤ 122 <;> by_cases h3 : 48 ≤ c.toNat <;> by_cases h4 : c.toNat ≤ 57
  all_goals
    try omega
    go_wp2
  all_goals
    first
    | (exfalso; omega)
    | (go_ret; refine ⟨?_, Ext.refl _⟩; first | rfl | (simp [h1, h2, h3, h4]; done) | (simp [h1, h2, h3, h4]; omega))
