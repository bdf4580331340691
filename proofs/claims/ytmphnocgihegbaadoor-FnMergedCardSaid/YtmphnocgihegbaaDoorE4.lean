/-
  Contracts of the functions that ask whether a text is a name of an entry.
-/
import Derived.Test.YtmphnocgihegbaaDoorE3
import Derived.Test.YtmphnocgihegbaaDoorC1
set_option linter.unusedVariables false
set_option linter.unusedSimpArgs false
set_option maxRecDepth 100000
namespace Go.Proofs.YtmphnocgihegbaaDoor
open Go.RowKit
abbrev plainSet : ByteArray := ⟨#[97, 98, 99, 100, 101, 102, 103, 104, 105, 106, 107, 108, 109, 110, 111, 112, 113, 114, 115, 116, 117, 118, 119, 120, 121, 122, 48, 49, 50, 51, 52, 53, 54, 55, 56, 57]⟩
theorem inS_plain (c : UInt8) : inS plainSet.data.toList c = isPlain c := by
  have h : ∀ n : Fin 256, inS plainSet.data.toList (UInt8.ofNat n.val) = isPlain (UInt8.ofNat n.val) := by decide +kernel
  have := h ⟨c.toNat, c.toNat_lt⟩
  simpa using this
theorem splitC_sizes (s : ByteArray) (h : s.size ≤ 24) (x : ByteArray) (hx : x ∈ splitC 32 s) : x.size ≤ 24 := by
  have key : ∀ (k : Nat) (s : ByteArray), s.size ≤ 24 → ∀ x ∈ Lib.splitB ⟨#[32]⟩ 0 k s, x.size ≤ 24 := by
    intro k
    induction k with
    | zero => intro s hs x hx; simp [Lib.splitB] at hx; subst hx; exact hs
    | succ k ih =>
      intro s hs x hx
      unfold Lib.splitB at hx
      split at hx
      · simp at hx; subst hx; exact hs
      · rcases List.mem_cons.1 hx with rfl | hx
        · have : (s.extract 0 ((Lib.indexB s ⟨#[32]⟩).toNat + 0)).size ≤ s.size := by simp [ByteArray.size_extract]; omega
          omega
        · refine ih _ ?_ x hx
          simp [ByteArray.size_extract]
          omega
  exact key _ s h x hx
set_option maxHeartbeats 1000000 in
theorem impl_isEntryName (s : ByteArray) (w : World) (hs : s.size ≤ 9223372036854775807) (hG : Glob w) :
    Calls Tryd.prog 73 #[.string s] w fun e w' => e = .returned (.bool (entNameB s)) ∧ Ext w w' := by
  by_cases h1 : 1 ≤ s.size
  · by_cases h2 : s.size ≤ 24
    · have hv : entNameB s = (splitC 32 s).all wordB := by simp [entNameB, h1, h2]
      have hle := splitC_le s 32
      have hsz := splitC_sizes s h2
      go_enter Tryd.func73, Tryd.ntmps73
      go_wp2_with fail
      refine Calls.mono (strings_Split s 32 _ (by omega) hG) ?_
      rintro e w1 ⟨rfl, hR, hb1⟩
      have hl1 : w.heap.size < w1.heap.size := by
        by_cases hz : 0 < (splitC 32 s).length
        · obtain ⟨b, off, hA, hlt, _⟩ := hR 0 hz
          simp only [Option.some.injEq, Addr.mk.injEq] at hA
          omega
        · have := splitC_len s 32
          omega
      generalize hgen : splitC 32 s = ws at hv hle hsz hR
      clear hgen
      go_wp2
      go_loopg [16] ws.length (fun g i wr => ∃ k : Nat, g = ws.length - k ∧ k ≤ ws.length ∧ i = .int .i64 k ∧ Ext w1 wr ∧ (ws.take k).all wordB = true)
      case atStart => exact ⟨0, by omega, by omega, rfl, Ext.refl _, by rw [List.take_zero]; rfl⟩
      case round =>
        obtain ⟨k, hg, hk, rfl, hw, hQ⟩ := hrel
        by_cases hkl : k < ws.length
        · have hx := (hR.ext hw).str k hkl
          rw [Nat.zero_add] at hx
          have hz := hsz ws[k] (List.getElem_mem hkl)
          have hT := all_take wordB ws k hkl
          rw [hQ, Bool.true_and] at hT
          cases hE : ws[k].toList.isEmpty with
          | true =>
            have hv2 : entNameB s = false := by rw [hv]; exact all_miss wordB ws k hkl (by simp [wordB, hE])
            clear hT hQ hv
            go_wp2
            go_ret
            exact ⟨by first | rfl | (rw [hv2]; rfl), by ((repeat (first | with_reducible exact Ext.refl _ | with_reducible exact hw | with_reducible exact hb9 | with_reducible exact hb8 | with_reducible exact hb7 | with_reducible exact hb6 | with_reducible exact hb5 | with_reducible exact hb4 | with_reducible exact hb3 | with_reducible exact hb2 | with_reducible exact hb1 | with_reducible refine Ext.alloc ?_ _ | with_reducible refine Ext.drew ?_ | ((with_reducible refine Ext.set ?_ ?_ _); focus (dsimp only; omega)) | with_reducible refine Ext.trans ?_ hb9 | with_reducible refine Ext.trans ?_ hb8 | with_reducible refine Ext.trans ?_ hb7 | with_reducible refine Ext.trans ?_ hb6 | with_reducible refine Ext.trans ?_ hb5 | with_reducible refine Ext.trans ?_ hb4 | with_reducible refine Ext.trans ?_ hb3 | with_reducible refine Ext.trans ?_ hb2 | with_reducible refine Ext.trans ?_ hb1 | with_reducible refine Ext.trans ?_ hw)))⟩
          | false =>
            go_wp2_with fail
            refine Calls.mono (strings_Trim ws[k] plainSet _ (by omega) (by decide) (by decide) (by decide)) ?_
            rintro e w2 ⟨t, rfl, ht, hz2, hb2⟩
            have hall : t.toList.isEmpty = ws[k].data.toList.all isPlain := by
              rw [ByteArray.toList_eq, ht, Bool.eq_iff_iff, List.isEmpty_iff, trimLR_nil_iff]
              rw [List.all_eq_true, List.all_eq_true]
              exact ⟨fun h x hx => (inS_plain x).symm.trans (h x hx), fun h x hx => (inS_plain x).trans (h x hx)⟩
            have hwd : wordB ws[k] = t.toList.isEmpty := by rw [hall]; simp [wordB, hE]
            clear hall ht
            cases hq : t.toList.isEmpty with
            | true =>
              rw [hwd, hq] at hT
              have hT2 := hd hT
              clear hT hQ hwd
              go_wp2
              go_roundg (ws.length - (k + 1))
              case rel => exact ⟨k + 1, rfl, hkl, rfl, by ((repeat (first | with_reducible exact Ext.refl _ | with_reducible exact hw | with_reducible exact hb9 | with_reducible exact hb8 | with_reducible exact hb7 | with_reducible exact hb6 | with_reducible exact hb5 | with_reducible exact hb4 | with_reducible exact hb3 | with_reducible exact hb2 | with_reducible exact hb1 | with_reducible refine Ext.alloc ?_ _ | with_reducible refine Ext.drew ?_ | ((with_reducible refine Ext.set ?_ ?_ _); focus (dsimp only; omega)) | with_reducible refine Ext.trans ?_ hb9 | with_reducible refine Ext.trans ?_ hb8 | with_reducible refine Ext.trans ?_ hb7 | with_reducible refine Ext.trans ?_ hb6 | with_reducible refine Ext.trans ?_ hb5 | with_reducible refine Ext.trans ?_ hb4 | with_reducible refine Ext.trans ?_ hb3 | with_reducible refine Ext.trans ?_ hb2 | with_reducible refine Ext.trans ?_ hb1 | with_reducible refine Ext.trans ?_ hw))), hT2.out⟩
              case measure => omega
            | false =>
              have hv2 : entNameB s = false := by rw [hv]; exact all_miss wordB ws k hkl (hwd.trans hq)
              clear hT hQ hv hwd
              go_wp2
              go_ret
              exact ⟨by first | rfl | (rw [hv2]; rfl), by ((repeat (first | with_reducible exact Ext.refl _ | with_reducible exact hw | with_reducible exact hb9 | with_reducible exact hb8 | with_reducible exact hb7 | with_reducible exact hb6 | with_reducible exact hb5 | with_reducible exact hb4 | with_reducible exact hb3 | with_reducible exact hb2 | with_reducible exact hb1 | with_reducible refine Ext.alloc ?_ _ | with_reducible refine Ext.drew ?_ | ((with_reducible refine Ext.set ?_ ?_ _); focus (dsimp only; omega)) | with_reducible refine Ext.trans ?_ hb9 | with_reducible refine Ext.trans ?_ hb8 | with_reducible refine Ext.trans ?_ hb7 | with_reducible refine Ext.trans ?_ hb6 | with_reducible refine Ext.trans ?_ hb5 | with_reducible refine Ext.trans ?_ hb4 | with_reducible refine Ext.trans ?_ hb3 | with_reducible refine Ext.trans ?_ hb2 | with_reducible refine Ext.trans ?_ hb1 | with_reducible refine Ext.trans ?_ hw)))⟩
        · obtain rfl : k = ws.length := by omega
          rw [List.take_length] at hQ
          rw [hQ] at hv
          clear hQ
          go_wp2
          go_ret
          exact ⟨by first | rfl | (rw [hv]; rfl), by ((repeat (first | with_reducible exact Ext.refl _ | with_reducible exact hw | with_reducible exact hb9 | with_reducible exact hb8 | with_reducible exact hb7 | with_reducible exact hb6 | with_reducible exact hb5 | with_reducible exact hb4 | with_reducible exact hb3 | with_reducible exact hb2 | with_reducible exact hb1 | with_reducible refine Ext.alloc ?_ _ | with_reducible refine Ext.drew ?_ | ((with_reducible refine Ext.set ?_ ?_ _); focus (dsimp only; omega)) | with_reducible refine Ext.trans ?_ hb9 | with_reducible refine Ext.trans ?_ hb8 | with_reducible refine Ext.trans ?_ hb7 | with_reducible refine Ext.trans ?_ hb6 | with_reducible refine Ext.trans ?_ hb5 | with_reducible refine Ext.trans ?_ hb4 | with_reducible refine Ext.trans ?_ hb3 | with_reducible refine Ext.trans ?_ hb2 | with_reducible refine Ext.trans ?_ hb1 | with_reducible refine Ext.trans ?_ hw)))⟩
    · have hv : entNameB s = false := by simp [entNameB, h2]
      go_enter Tryd.func73, Tryd.ntmps73
      go_wp2
      go_ret
      exact ⟨by first | rfl | (rw [hv]; rfl), Ext.refl _⟩
  · have hv : entNameB s = false := by simp [entNameB, h1]
    go_enter Tryd.func73, Tryd.ntmps73
    go_wp2
    go_ret
    exact ⟨by first | rfl | (rw [hv]; rfl), Ext.refl _⟩
set_option maxHeartbeats 1000000 in
theorem spec_l05Name (s : ByteArray) (w : World) (hs : s.size ≤ 9223372036854775807) :
    Calls Tryd.prog 68 #[.string s] w fun e w' => e = .returned (.bool (entNameB s)) ∧ Ext w w' := by
  by_cases h12 : 1 ≤ s.size ∧ s.size ≤ 24
  · obtain ⟨h1, h2⟩ := h12
    have hv : entNameB s = (splitC 32 s).all wordB := by simp [entNameB, h1, h2]
    have hle := splitC_le s 32
    have hsz := splitC_sizes s h2
    have hin : inB s.size 1 24 = true := by simp [inB]; omega
    go_enter Tryd.func68, Tryd.ntmps68
    go_wp2_with fail
    refine Calls.mono (spec_l00In _ _ _ _) ?_
    rintro e w1 ⟨rfl, hb1⟩
    go_wp2_with fail
    refine Calls.mono (show Calls Tryd.prog 46 #[.string s, .int .u8 32] w1 _ from spec_l01Split s 32 (by omega) w1) ?_
    rintro e w2 ⟨v2, rfl, hO2, hb2⟩
    obtain ⟨A2, cap2, rfl, hle2, hR2⟩ := hO2.slice
    generalize hgen : splitC 32 s = ws at hv hle hsz hR2 hle2
    clear hgen hO2
    go_wp2
    go_loopg [4] ws.length (fun g i wr => ∃ k : Nat, g = ws.length - k ∧ k ≤ ws.length ∧ i = .int .i64 k ∧ Ext w2 wr ∧ (ws.take k).all wordB = true)
    case atStart => exact ⟨0, by omega, by omega, rfl, Ext.refl _, by rw [List.take_zero]; rfl⟩
    case round =>
      obtain ⟨k, hg, hk, rfl, hw, hQ⟩ := hrel
      by_cases hkl : k < ws.length
      · obtain ⟨b, off, hA, hlt, _⟩ := hR2 k hkl
        subst hA
        have hx := (hR2.ext hw).str k hkl
        have hz := hsz ws[k] (List.getElem_mem hkl)
        have hT := all_take wordB ws k hkl
        rw [hQ, Bool.true_and] at hT
        cases hE : ws[k].toList.isEmpty with
        | true =>
          have hv2 : entNameB s = false := by rw [hv]; exact all_miss wordB ws k hkl (by simp [wordB, hE])
          clear hT hQ hv
          go_wp2
          go_ret
          exact ⟨by first | rfl | (rw [hv2]; rfl), by ((repeat (first | with_reducible exact Ext.refl _ | with_reducible exact hw | with_reducible exact hb9 | with_reducible exact hb8 | with_reducible exact hb7 | with_reducible exact hb6 | with_reducible exact hb5 | with_reducible exact hb4 | with_reducible exact hb3 | with_reducible exact hb2 | with_reducible exact hb1 | with_reducible refine Ext.alloc ?_ _ | with_reducible refine Ext.drew ?_ | ((with_reducible refine Ext.set ?_ ?_ _); focus (dsimp only; omega)) | with_reducible refine Ext.trans ?_ hb9 | with_reducible refine Ext.trans ?_ hb8 | with_reducible refine Ext.trans ?_ hb7 | with_reducible refine Ext.trans ?_ hb6 | with_reducible refine Ext.trans ?_ hb5 | with_reducible refine Ext.trans ?_ hb4 | with_reducible refine Ext.trans ?_ hb3 | with_reducible refine Ext.trans ?_ hb2 | with_reducible refine Ext.trans ?_ hb1 | with_reducible refine Ext.trans ?_ hw)))⟩
        | false =>
          have hwd : wordB ws[k] = ws[k].data.toList.all isPlain := by simp [wordB, hE]
          have hb7 := hw
          clear hw
          go_wp2
          go_loopg [5] ws[k].size (fun g j w3 => ∃ i : Nat, g = ws[k].size - i ∧ i ≤ ws[k].size ∧ j = .int .i64 i ∧ Ext wr w3 ∧ (ws[k].data.toList.take i).all isPlain = true)
          case atStart => exact ⟨0, by omega, by omega, rfl, Ext.refl _, by rw [List.take_zero]; rfl⟩
          case round =>
            obtain ⟨i, hg3, hi, rfl, hw, hP⟩ := hrel
            have hx3 := hw.cell hx
            by_cases hil : i < ws[k].size
            · have hk2 : i < ws[k].data.toList.length := hil
              have hT3 := all_take isPlain ws[k].data.toList i hk2
              rw [hP, Bool.true_and, show ws[k].data.toList[i] = ws[k][i] from rfl] at hT3
              cases hp : isPlain ws[k][i] with
              | true =>
                rw [hp] at hT3
                have hT4 := hd hT3
                clear hT hT3 hP hQ hv
                go_wp2_with fail
                refine Calls.mono (spec_l05Plain ws[k][i] _) ?_
                rintro e w8 ⟨rfl, hb8⟩
                simp only [hp]
                go_wp2
                go_roundg (ws[k].size - (i + 1))
                case rel => exact ⟨i + 1, rfl, hil, rfl, by ((repeat (first | with_reducible exact Ext.refl _ | with_reducible exact hw | with_reducible exact hb9 | with_reducible exact hb8 | with_reducible exact hb7 | with_reducible exact hb6 | with_reducible exact hb5 | with_reducible exact hb4 | with_reducible exact hb3 | with_reducible exact hb2 | with_reducible exact hb1 | with_reducible refine Ext.alloc ?_ _ | with_reducible refine Ext.drew ?_ | ((with_reducible refine Ext.set ?_ ?_ _); focus (dsimp only; omega)) | with_reducible refine Ext.trans ?_ hb9 | with_reducible refine Ext.trans ?_ hb8 | with_reducible refine Ext.trans ?_ hb7 | with_reducible refine Ext.trans ?_ hb6 | with_reducible refine Ext.trans ?_ hb5 | with_reducible refine Ext.trans ?_ hb4 | with_reducible refine Ext.trans ?_ hb3 | with_reducible refine Ext.trans ?_ hb2 | with_reducible refine Ext.trans ?_ hb1 | with_reducible refine Ext.trans ?_ hw))), hT4.out⟩
                case measure => omega
              | false =>
                have hv2 : entNameB s = false := by rw [hv]; exact all_miss wordB ws k hkl (by rw [hwd]; exact all_miss isPlain _ i hk2 hp)
                clear hT hT3 hP hQ hv
                go_wp2_with fail
                refine Calls.mono (spec_l05Plain ws[k][i] _) ?_
                rintro e w8 ⟨rfl, hb8⟩
                simp only [hp]
                go_wp2
                go_ret
                exact ⟨by first | rfl | (rw [hv2]; rfl), by ((repeat (first | with_reducible exact Ext.refl _ | with_reducible exact hw | with_reducible exact hb9 | with_reducible exact hb8 | with_reducible exact hb7 | with_reducible exact hb6 | with_reducible exact hb5 | with_reducible exact hb4 | with_reducible exact hb3 | with_reducible exact hb2 | with_reducible exact hb1 | with_reducible refine Ext.alloc ?_ _ | with_reducible refine Ext.drew ?_ | ((with_reducible refine Ext.set ?_ ?_ _); focus (dsimp only; omega)) | with_reducible refine Ext.trans ?_ hb9 | with_reducible refine Ext.trans ?_ hb8 | with_reducible refine Ext.trans ?_ hb7 | with_reducible refine Ext.trans ?_ hb6 | with_reducible refine Ext.trans ?_ hb5 | with_reducible refine Ext.trans ?_ hb4 | with_reducible refine Ext.trans ?_ hb3 | with_reducible refine Ext.trans ?_ hb2 | with_reducible refine Ext.trans ?_ hb1 | with_reducible refine Ext.trans ?_ hw)))⟩
            · obtain rfl : i = ws[k].size := by omega
              rw [show ws[k].data.toList.take ws[k].size = ws[k].data.toList from List.take_length] at hP
              rw [hwd, hP] at hT
              have hT2 := hd hT
              clear hT hP hQ hwd hv
              go_wp2
              go_roundg (ws.length - (k + 1))
              case rel => exact ⟨k + 1, rfl, hkl, rfl, by ((repeat (first | with_reducible exact Ext.refl _ | with_reducible exact hw | with_reducible exact hb9 | with_reducible exact hb8 | with_reducible exact hb7 | with_reducible exact hb6 | with_reducible exact hb5 | with_reducible exact hb4 | with_reducible exact hb3 | with_reducible exact hb2 | with_reducible exact hb1 | with_reducible refine Ext.alloc ?_ _ | with_reducible refine Ext.drew ?_ | ((with_reducible refine Ext.set ?_ ?_ _); focus (dsimp only; omega)) | with_reducible refine Ext.trans ?_ hb9 | with_reducible refine Ext.trans ?_ hb8 | with_reducible refine Ext.trans ?_ hb7 | with_reducible refine Ext.trans ?_ hb6 | with_reducible refine Ext.trans ?_ hb5 | with_reducible refine Ext.trans ?_ hb4 | with_reducible refine Ext.trans ?_ hb3 | with_reducible refine Ext.trans ?_ hb2 | with_reducible refine Ext.trans ?_ hb1 | with_reducible refine Ext.trans ?_ hw))), hT2.out⟩
              case measure => omega
      · obtain rfl : k = ws.length := by omega
        rw [List.take_length] at hQ
        rw [hQ] at hv
        clear hQ
        go_wp2
        go_ret
        exact ⟨by first | rfl | (rw [hv]; rfl), by ((repeat (first | with_reducible exact Ext.refl _ | with_reducible exact hw | with_reducible exact hb9 | with_reducible exact hb8 | with_reducible exact hb7 | with_reducible exact hb6 | with_reducible exact hb5 | with_reducible exact hb4 | with_reducible exact hb3 | with_reducible exact hb2 | with_reducible exact hb1 | with_reducible refine Ext.alloc ?_ _ | with_reducible refine Ext.drew ?_ | ((with_reducible refine Ext.set ?_ ?_ _); focus (dsimp only; omega)) | with_reducible refine Ext.trans ?_ hb9 | with_reducible refine Ext.trans ?_ hb8 | with_reducible refine Ext.trans ?_ hb7 | with_reducible refine Ext.trans ?_ hb6 | with_reducible refine Ext.trans ?_ hb5 | with_reducible refine Ext.trans ?_ hb4 | with_reducible refine Ext.trans ?_ hb3 | with_reducible refine Ext.trans ?_ hb2 | with_reducible refine Ext.trans ?_ hb1 | with_reducible refine Ext.trans ?_ hw)))⟩
  · have hv : entNameB s = false := by
      simp only [entNameB, Bool.and_eq_false_iff, decide_eq_false_iff_not]
      omega
    have hin : inB s.size 1 24 = false := by
      simp only [inB, Bool.and_eq_false_iff, decide_eq_false_iff_not]
      omega
    go_enter Tryd.func68, Tryd.ntmps68
    go_wp2_with fail
    refine Calls.mono (spec_l00In _ _ _ _) ?_
    rintro e w1 ⟨rfl, hb1⟩
    go_wp2
    go_ret
    exact ⟨by first | rfl | (rw [hv]; rfl), by ((repeat (first | with_reducible exact Ext.refl _ | with_reducible exact hw | with_reducible exact hb9 | with_reducible exact hb8 | with_reducible exact hb7 | with_reducible exact hb6 | with_reducible exact hb5 | with_reducible exact hb4 | with_reducible exact hb3 | with_reducible exact hb2 | with_reducible exact hb1 | with_reducible refine Ext.alloc ?_ _ | with_reducible refine Ext.drew ?_ | ((with_reducible refine Ext.set ?_ ?_ _); focus (dsimp only; omega)) | with_reducible refine Ext.trans ?_ hb9 | with_reducible refine Ext.trans ?_ hb8 | with_reducible refine Ext.trans ?_ hb7 | with_reducible refine Ext.trans ?_ hb6 | with_reducible refine Ext.trans ?_ hb5 | with_reducible refine Ext.trans ?_ hb4 | with_reducible refine Ext.trans ?_ hb3 | with_reducible refine Ext.trans ?_ hb2 | with_reducible refine Ext.trans ?_ hb1 | with_reducible refine Ext.trans ?_ hw)))⟩
