/-
  Contracts of what reads a catalogue: lines, cuts, places of names.
-/
import Derived.Test.YtmphnocgihegbaaDoorE29
import Derived.Test.YtmphnocgihegbaaDoorE12
set_option linter.unusedVariables false
set_option linter.unusedSimpArgs false
set_option maxRecDepth 100000
namespace Go.Proofs.YtmphnocgihegbaaDoor
open Go.RowKit
theorem bodyT_le (s : ByteArray) : (bodyT s).size ≤ s.size := Lib.trimSuffix_le s.data.toList lineS.data.toList
theorem cutL_le (c : UInt8) (s : ByteArray) : (cutL c s).size ≤ s.size := by
  unfold cutL
  rcases Lib.indexB_cases s ⟨#[c]⟩ with h | ⟨i, h, hi⟩
  · rw [(Lib.cutB_miss _ _ h).1]
    exact Nat.le_refl _
  · rw [(Lib.cutB_hit _ _ _ h).1, ByteArray.size_extract]
    omega
theorem cutR_le (c : UInt8) (s : ByteArray) : (cutR c s).size ≤ s.size := by
  unfold cutR
  rcases Lib.indexB_cases s ⟨#[c]⟩ with h | ⟨i, h, hi⟩
  · rw [(Lib.cutB_miss _ _ h).2.1]
    exact Nat.zero_le _
  · rw [(Lib.cutB_hit _ _ _ h).2.1, ByteArray.size_extract]
    omega
/-- No piece is longer than the text. -/
theorem piece_le (c : UInt8) : ∀ (n : Nat) (s : ByteArray), s.size ≤ n → ∀ p ∈ splitC c s, p.size ≤ n := by
  intro n
  induction n with
  | zero =>
    intro s hs p hp
    have h0 : hasC c s = false := by
      have : s.data.toList = [] := List.length_eq_zero_iff.1 (by show s.size = 0; omega)
      unfold hasC
      rw [this]
      rfl
    rw [splitC_none h0, List.mem_singleton] at hp
    subst hp
    exact hs
  | succ n ih =>
    intro s hs p hp
    by_cases hc : hasC c s = true
    · have hcm : c ∈ s.data.toList := by
        unfold hasC at hc
        rw [List.any_eq_true] at hc
        obtain ⟨y, h1, h2⟩ := hc
        rw [beq_iff_eq] at h2
        exact h2 ▸ h1
      obtain ⟨l1, l2, h1, h2⟩ := List.eq_append_cons_of_mem hcm
      have he : s = (⟨l1.toArray⟩ : ByteArray) ++ (⟨#[c]⟩ ++ ⟨l2.toArray⟩) := by
        apply ext_ba
        rw [app_data, app_data, h1]
        rfl
      have hno : hasC c ⟨l1.toArray⟩ = false := by
        unfold hasC
        rw [List.any_eq_false]
        intro x hx hxc
        rw [beq_iff_eq] at hxc
        exact h2 (hxc ▸ hx)
      have hlen : s.size = l1.length + (1 + l2.length) := by
        show s.data.toList.length = _
        rw [h1]
        simp
        omega
      rw [show splitC c s = ⟨l1.toArray⟩ :: splitC c ⟨l2.toArray⟩ by rw [he, splitC_app hno]] at hp
      rcases List.mem_cons.1 hp with rfl | hp
      · show l1.length ≤ _
        omega
      · exact Nat.le_succ_of_le (ih ⟨l2.toArray⟩ (by show l2.length ≤ n; omega) p hp)
    · rw [splitC_none (by simpa using hc), List.mem_singleton] at hp
      subst hp
      exact hs
theorem strings_CutSuffix1 (s : ByteArray) (w : World) (hs : s.size ≤ 1048576) :
    Calls Tryd.prog 70 #[.string s, .string lineS] w fun e w' => e = .returned (.tuple #[.string (bodyT s), .bool (endsT s)]) ∧ Ext w w' :=
  (Tryd.strings_CutSuffix s lineS w (by omega)).mono (by rintro e w' ⟨rfl, rfl⟩; exact ⟨rfl, Ext.refl _⟩)
theorem Ext.drewN (w : World) (n : Nat) : Ext w (w.drewN n) := (Ext.refl w).trans ⟨rfl, rfl, rfl, Nat.le_refl _, fun _ _ => rfl⟩
theorem strings_Cut1 (s : ByteArray) (c : UInt8) (w : World) (hs : s.size ≤ 1048576) (hG : Glob w) :
    Calls Tryd.prog 51 #[.string s, .string ⟨#[c]⟩] w fun e w' => e = .returned (.tuple #[.string (cutL c s), .string (cutR c s), .bool (cutH c s)]) ∧ Ext w w' := by
  obtain ⟨m, hm⟩ := hG
  refine (Tryd.strings_Cut s ⟨#[c]⟩ m w (by omega) hm).mono ?_
  rintro e w' ⟨rfl, n, rfl⟩
  exact ⟨rfl, Ext.drewN _ _⟩
set_option maxHeartbeats 400000 in
theorem impl_linesOf (s : ByteArray) (w : World) (hs : s.size ≤ 1048576) (hG : Glob w) :
    Calls Tryd.prog 50 #[.string s] w fun e w' => ∃ A, e = .returned (.tuple #[.slice A (linesF s).1.length (linesF s).1.length, .bool (linesF s).2]) ∧ Rd encStr w' A (linesF s).1 ∧ Ext w w' := by
  by_cases h0 : s.size = 0
  · obtain rfl : s = ⟨#[]⟩ := ext_ba (List.length_eq_zero_iff.1 h0)
    go_enter Tryd.func50, Tryd.ntmps50
    go_wp2
    refine bodyPost_ret (v := .tuple #[.slice none 0 0, .bool true]) (by simp [results, Tryd.results50, go_sem]) rfl ⟨none, rfl, ?_, by ((repeat (first | with_reducible exact Ext.refl _ | with_reducible exact hw | with_reducible exact hb9 | with_reducible exact hb8 | with_reducible exact hb7 | with_reducible exact hb6 | with_reducible exact hb5 | with_reducible exact hb4 | with_reducible exact hb3 | with_reducible exact hb2 | with_reducible exact hb1 | with_reducible refine Ext.alloc ?_ _ | with_reducible refine Ext.drew ?_ | ((with_reducible refine Ext.set ?_ ?_ _); focus (dsimp only; omega)) | with_reducible refine Ext.trans ?_ hb9 | with_reducible refine Ext.trans ?_ hb8 | with_reducible refine Ext.trans ?_ hb7 | with_reducible refine Ext.trans ?_ hb6 | with_reducible refine Ext.trans ?_ hb5 | with_reducible refine Ext.trans ?_ hb4 | with_reducible refine Ext.trans ?_ hb3 | with_reducible refine Ext.trans ?_ hb2 | with_reducible refine Ext.trans ?_ hb1 | with_reducible refine Ext.trans ?_ hw)))⟩
    intro k hk
    exact absurd hk (Nat.not_lt_zero _)
  · have hv := hd (show linesF s = (splitC 10 (bodyT s), endsT s) by unfold linesF; rw [if_neg h0])
    have hq : s.toList.isEmpty = false := by
      rw [Lib.toList_data, List.isEmpty_eq_false_iff]
      intro h
      exact h0 (by show s.data.toList.length = 0; rw [h]; rfl)
    go_enter Tryd.func50, Tryd.ntmps50
    go_wp2_with fail
    refine Calls.mono (strings_CutSuffix1 s _ hs) ?_
    rintro e w1 ⟨rfl, hb1⟩
    have hl := bodyT_le s
    generalize endsT s = b at hv
    generalize bodyT s = t at hv hl
    go_wp2_with fail
    refine Calls.mono (strings_Split t 10 _ (by omega) (hG.ext hb1)) ?_
    rintro e w2 ⟨rfl, hR, hb2⟩
    go_wp2
    refine bodyPost_ret (v := .tuple #[.slice (some ⟨w1.heap.size, 0, none⟩) (splitC 10 t).length (splitC 10 t).length, .bool b]) (by simp [results, Tryd.results50, go_sem]) rfl ⟨_, by rw [hv.out], by rw [hv.out]; exact hR, hb1.trans hb2⟩
set_option maxHeartbeats 400000 in
theorem slices_Index_str (ss : List ByteArray) (A : Option Addr) (n cap : Nat) (v : ByteArray) (w : World) (hnx : n = ss.length) (hR : Rd encStr w A ss) (hn : n ≤ 1048577) :
    Calls Tryd.prog 52 #[.slice A n cap, .string v] w fun e w' => e = .returned (.int .i64 (idxI ss v)) ∧ Ext w w' := by
  subst hnx
  go_enter Tryd.func52, Tryd.ntmps52
  go_wp2
  go_loopg [8] ss.length (fun g i wr => ∃ k : Nat, g = ss.length - k ∧ k ≤ ss.length ∧ i = .int .i64 k ∧ Ext w wr ∧ (ss.take k).any (fun y => eqS y v) = false)
  case atStart => exact ⟨0, by omega, by omega, rfl, Ext.refl _, by rw [List.take_zero]; rfl⟩
  case round =>
    obtain ⟨k, hg, hk, rfl, hw, hQ⟩ := hrel
    by_cases hkl : k < ss.length
    · obtain ⟨b, off, hA, hlt, _⟩ := hR k hkl
      subst hA
      have m0 := (hR.ext hw).str k hkl
      have hs := any_take (fun y => eqS y v) ss k hkl
      rw [hQ, Bool.false_or] at hs
      cases q : eqS ss[k] v with
      | true =>
        have hv := hd (fidx_hit (fun y => eqS y v) ss k hkl q hQ)
        have q2 : (v.toList == ss[k].toList) = true := by unfold eqS at q; rw [beq_iff_eq] at q; simp [q]
        clear hs hQ q
        go_wp2
        go_ret
        exact ⟨by unfold idxI; rw [hv.out]; rfl, hw⟩
      | false =>
        have hs2 := hd (hs.trans q)
        have q2 : (v.toList == ss[k].toList) = false := by
          unfold eqS at q
          rw [beq_eq_false_iff_ne] at *
          exact fun h => q h.symm
        clear hs hQ q
        go_wp2
        go_roundg (ss.length - (k + 1))
        case rel => exact ⟨k + 1, rfl, hkl, rfl, hw, hs2.out⟩
        case measure => omega
    · obtain rfl : k = ss.length := by omega
      rw [List.take_length] at hQ
      have hv := hd (fidx_none _ ss hQ)
      clear hQ
      go_wp2
      go_ret
      exact ⟨by unfold idxI; rw [hv.out]; rfl, hw⟩
theorem splitC_pos (c : UInt8) (s : ByteArray) : 1 ≤ (splitC c s).length := by rw [splitC_len]; omega
set_option maxHeartbeats 400000 in
theorem spec_l05Index (ls : List ByteArray) (A : Option Addr) (n cap : Nat) (v : ByteArray) (w : World) (hnx : n = ls.length) (hR : Rd encStr w A ls) (hn : n ≤ 1048577) (hz : ∀ l ∈ ls, l.size ≤ 1048576) :
    Calls Tryd.prog 47 #[.slice A n cap, .string v] w fun e w' => e = .returned (.int .i64 (idxS ls v)) ∧ Ext w w' := by
  subst hnx
  go_enter Tryd.func47, Tryd.ntmps47
  go_wp2
  go_loopg [5] ls.length (fun g i wr => ∃ k : Nat, g = ls.length - k ∧ k ≤ ls.length - 1 ∧ i = .int .i64 k ∧ Ext w wr ∧ (ls.dropLast.take k).any (fun l => eqS (splitC 59 l)[0]! v) = false)
  case atStart => exact ⟨0, by omega, by omega, rfl, Ext.refl _, by rw [List.take_zero]; rfl⟩
  case round =>
    obtain ⟨k, hg, hk, rfl, hw, hQ⟩ := hrel
    by_cases hkl : k + 1 < ls.length
    · have hkl2 : k < ls.length := by omega
      have hkd : k < ls.dropLast.length := by rw [List.length_dropLast]; omega
      have hke : ls.dropLast[k] = ls[k] := List.getElem_dropLast hkd
      obtain ⟨b, off, hA, hlt, _⟩ := hR k hkl2
      subst hA
      have m0 := (hR.ext hw).str k hkl2
      have hs := any_take (fun l => eqS (splitC 59 l)[0]! v) ls.dropLast k hkd
      rw [hQ, Bool.false_or] at hs
      have hz1 := hz _ (List.getElem_mem hkl2)
      go_wp2_with fail
      refine Calls.mono (spec_l01Split ls[k] 59 (by omega) _) ?_
      rintro e w1 ⟨v1, rfl, hO, hb1⟩
      obtain ⟨B, cap1, rfl, hcap1, hR1⟩ := hO.slice
      have hp := splitC_pos 59 ls[k]
      obtain ⟨b1, off1, hA1, hlt1, _⟩ := hR1 0 hp
      subst hA1
      have m1 := hR1.str 0 hp
      rw [Nat.add_zero] at m1
      have hgb := getBang (splitC 59 ls[k]) 0 hp
      cases q : eqS (splitC 59 ls[k])[0]! v with
      | true =>
        have hv := hd (fidx_hit (fun l => eqS (splitC 59 l)[0]! v) ls.dropLast k hkd (by rw [hke]; exact q) hQ)
        have q2 : ((splitC 59 ls[k])[0].toList == v.toList) = true := by rw [hgb] at q; exact q
        clear hs hQ q hgb
        generalize (splitC 59 ls[k])[0] = t at *
        go_wp2
        go_ret
        exact ⟨by unfold idxS; rw [hv.out, if_neg (by omega)]; rfl, hw.trans hb1⟩
      | false =>
        have hs2 := hd (hs.trans (show eqS (splitC 59 ls.dropLast[k])[0]! v = false by rw [hke]; exact q))
        have q2 : ((splitC 59 ls[k])[0].toList == v.toList) = false := by rw [hgb] at q; exact q
        clear hs hQ q hgb
        generalize (splitC 59 ls[k])[0] = t at *
        go_wp2
        go_roundg (ls.length - (k + 1))
        case rel => exact ⟨k + 1, rfl, by omega, rfl, hw.trans hb1, hs2.out⟩
        case measure => omega
    · obtain rfl : k = ls.length - 1 := by omega
      rw [List.take_of_length_le (by rw [List.length_dropLast]; exact Nat.le_refl _)] at hQ
      have hv := hd (fidx_none _ ls.dropLast hQ)
      clear hQ
      have hle : ((↑(ls.length - 1) + 1 : Int) < ls.length) = False := by simp only [eq_iff_iff, iff_false]; omega
      go_wp2
      go_ret
      exact ⟨by unfold idxS; rw [hv.out]; rfl, hw⟩
