/-
  Contracts of the functions that compare names as they are filed: the lists of words.
-/
import Derived.Test.YtoibmelbjblfhaaDoorE17
set_option linter.unusedVariables false
set_option linter.unusedSimpArgs false
set_option maxRecDepth 100000
namespace Go.Proofs.YtoibmelbjblfhaaDoor
open Go.RowKit
theorem name_words {s : ByteArray} (h : entNameB s = true) : s.size ≤ 24 ∧ ∀ x ∈ filedF (splitC 32 s), x.data.toList.all isPlain = true ∧ x.size ≤ 24 := by
  unfold entNameB at h
  simp only [Bool.and_eq_true, decide_eq_true_eq] at h
  refine ⟨h.2.1, fun x hx => ?_⟩
  have hx2 := filedF_mem hx
  have h3 := h.2.2
  rw [List.all_eq_true] at h3
  have h4 := h3 x hx2
  unfold wordB at h4
  simp only [Bool.and_eq_true] at h4
  exact ⟨h4.2, splitC_sizes s h.2.1 x hx2⟩
set_option maxHeartbeats 1000000 in
theorem slices_CompareFunc (xs ys : List ByteArray) (A B : Option Addr) (n m cap cap' : Nat) (w : World) (hn : n = xs.length) (hm : m = ys.length) (hR : Rd encStr w A xs) (hS : Rd encStr w B ys) (hx : ∀ x ∈ xs, x.size ≤ 24) (hy : ∀ y ∈ ys, y.size ≤ 24) (hnx : xs.length ≤ 1048576) (hny : ys.length ≤ 1048576) :
    Calls Tryd.prog 81 #[.slice A n cap, .slice B m cap', .func (.func 83) #[] #[]] w fun e w' => e = .returned (.int .i64 (cmpL xs ys)) ∧ Ext w w' := by
  subst hn hm
  go_enter Tryd.func81, Tryd.ntmps81
  go_wp2
  go_loopg [13] xs.length (fun g i wr => ∃ k : Nat, g = xs.length - k ∧ k ≤ xs.length ∧ k ≤ ys.length ∧ i = .int .i64 k ∧ Ext w wr ∧ cmpL xs ys = cmpL (xs.drop k) (ys.drop k))
  case atStart => exact ⟨0, by omega, by omega, by omega, rfl, Ext.refl _, rfl⟩
  case round =>
    obtain ⟨k, hg, hk, hk2, rfl, hw, hQ⟩ := hrel
    by_cases hkl : k < xs.length
    · obtain ⟨b, off, hA, hlt, _⟩ := hR k hkl
      subst hA
      have m0 := (hR.ext hw).str k hkl
      by_cases hky : k < ys.length
      · obtain ⟨b', off', hB, hlt', _⟩ := hS k hky
        subst hB
        have n0 := (hS.ext hw).str k hky
        rw [cmpL_step xs ys k hkl hky] at hQ
        have hsx := hx _ (List.getElem_mem hkl)
        have hsy := hy _ (List.getElem_mem hky)
        by_cases q : cmpW xs[k] ys[k] = 0
        · have hQ2 := hd (hQ.trans (by rw [if_neg (by simp [q])]))
          clear hQ
          go_wp2_with fail
          refine Calls.mono (impl_compareWords xs[k] ys[k] (by omega) (by omega) _) ?_
          rintro e w1 ⟨rfl, hb1⟩
          rw [q]
          go_wp2
          go_roundg (xs.length - (k + 1))
          case rel => exact ⟨k + 1, rfl, hkl, hky, rfl, by ((repeat (first | with_reducible exact Ext.refl _ | with_reducible exact hw | with_reducible exact hb9 | with_reducible exact hb8 | with_reducible exact hb7 | with_reducible exact hb6 | with_reducible exact hb5 | with_reducible exact hb4 | with_reducible exact hb3 | with_reducible exact hb2 | with_reducible exact hb1 | with_reducible refine Ext.alloc ?_ _ | with_reducible refine Ext.drew ?_ | ((with_reducible refine Ext.set ?_ ?_ _); focus (dsimp only; omega)) | with_reducible refine Ext.trans ?_ hb9 | with_reducible refine Ext.trans ?_ hb8 | with_reducible refine Ext.trans ?_ hb7 | with_reducible refine Ext.trans ?_ hb6 | with_reducible refine Ext.trans ?_ hb5 | with_reducible refine Ext.trans ?_ hb4 | with_reducible refine Ext.trans ?_ hb3 | with_reducible refine Ext.trans ?_ hb2 | with_reducible refine Ext.trans ?_ hb1 | with_reducible refine Ext.trans ?_ hw))), hQ2.out⟩
          case measure => omega
        · have hQ2 := hd (hQ.trans (by rw [if_pos q]))
          have q2 : (cmpW xs[k] ys[k] != 0) = true := by simp [q]
          clear hQ
          go_wp2_with fail
          refine Calls.mono (impl_compareWords xs[k] ys[k] (by omega) (by omega) _) ?_
          rintro e w1 ⟨rfl, hb1⟩
          go_wp2
          go_ret
          exact ⟨by rw [hQ2.out]; rfl, by ((repeat (first | with_reducible exact Ext.refl _ | with_reducible exact hw | with_reducible exact hb9 | with_reducible exact hb8 | with_reducible exact hb7 | with_reducible exact hb6 | with_reducible exact hb5 | with_reducible exact hb4 | with_reducible exact hb3 | with_reducible exact hb2 | with_reducible exact hb1 | with_reducible refine Ext.alloc ?_ _ | with_reducible refine Ext.drew ?_ | ((with_reducible refine Ext.set ?_ ?_ _); focus (dsimp only; omega)) | with_reducible refine Ext.trans ?_ hb9 | with_reducible refine Ext.trans ?_ hb8 | with_reducible refine Ext.trans ?_ hb7 | with_reducible refine Ext.trans ?_ hb6 | with_reducible refine Ext.trans ?_ hb5 | with_reducible refine Ext.trans ?_ hb4 | with_reducible refine Ext.trans ?_ hb3 | with_reducible refine Ext.trans ?_ hb2 | with_reducible refine Ext.trans ?_ hb1 | with_reducible refine Ext.trans ?_ hw)))⟩
      · have hQ2 := hd (hQ.trans (cmpL_long xs ys k hkl (by omega)))
        have hky2 : ys.length ≤ k := by omega
        clear hQ
        go_wp2
        go_ret
        exact ⟨by rw [hQ2.out]; rfl, hw⟩
    · by_cases hky : k < ys.length
      · have hQ2 := hd (hQ.trans (cmpL_short xs ys k (by omega) hky))
        have hl : xs.length < ys.length := by omega
        clear hQ
        go_wp2
        go_ret
        exact ⟨by rw [hQ2.out]; rfl, hw⟩
      · have hQ2 := hd (hQ.trans (cmpL_end xs ys k (by omega) (by omega)))
        have hl : ¬ xs.length < ys.length := by omega
        clear hQ
        go_wp2
        go_ret
        exact ⟨by rw [hQ2.out]; rfl, hw⟩
theorem filedF_yes {ws : List ByteArray} (h1 : 1 < ws.length) (h2 : artB ws[0]! = true) : filedF ws = ws.drop 1 := by unfold filedF; rw [if_pos (by rw [decide_eq_true h1, h2]; rfl)]
theorem filedF_no {ws : List ByteArray} (h : ¬ (1 < ws.length ∧ artB ws[0]! = true)) : filedF ws = ws := by
  unfold filedF
  rw [if_neg]
  intro h2
  simp only [Bool.and_eq_true, decide_eq_true_eq] at h2
  exact h h2
set_option maxHeartbeats 1000000 in
theorem impl_filedWords (s : ByteArray) (hs : s.size ≤ 24) (w : World) (hG : Glob w) :
    Calls Tryd.prog 82 #[.string s] w fun e w' => ∃ (A : Option Addr) (n cap : Nat), e = .returned (.slice A n cap) ∧ n = (filedF (splitC 32 s)).length ∧ Rd encStr w' A (filedF (splitC 32 s)) ∧ Ext w w' := by
  have hle := splitC_le s 32
  have hpos : 0 < (splitC 32 s).length := by rw [splitC_len]; omega
  go_enter Tryd.func82, Tryd.ntmps82
  go_wp2_with fail
  refine Calls.mono (strings_Split s 32 _ (by omega) hG) ?_
  rintro e w1 ⟨rfl, hR, hb1⟩
  generalize hgen : splitC 32 s = ws at hle hpos hR 
  have hgen2 := hd hgen
  clear hgen
  obtain ⟨b, off, hA, hlt, _⟩ := hR 0 hpos
  simp only [Option.some.injEq, Addr.mk.injEq, and_true] at hA
  obtain ⟨rfl, rfl⟩ := hA
  have c0 := hR.str 0 hpos
  rw [Nat.add_zero] at c0
  skip
  have h00 := getBang ws 0 hpos
  by_cases hl : 1 < ws.length
  · cases ha : artB ws[0]! with
    | true =>
      have hv := filedF_yes hl ha
      have hres : Rd encStr w1 (some ⟨w.heap.size, 0 + 1, none⟩) (filedF ws) := by rw [hv]; exact hR.drop1
      have hlen : (filedF ws).length = ws.length - 1 := by rw [hv, List.length_drop]
      rw [h00] at ha
      unfold artB at ha
      clear hv h00
      by_cases e1 : ws[0].toList = [97]
      all_goals by_cases e2 : ws[0].toList = [97, 110]
      all_goals by_cases e3 : ws[0].toList = [116, 104, 101]
      all_goals first | (exact absurd (e1.symm.trans e2) (by decide)) | (exact absurd (e1.symm.trans e3) (by decide)) | (exact absurd (e2.symm.trans e3) (by decide)) | (exfalso; simp [e1, e2, e3] at ha; done) | skip
      all_goals
        clear ha
        go_wp2
        go_ret
        have hres2 := hres
        have hlen2 := hlen
        rw [show filedF ws = filedF (splitC 32 s) from by rw [hgen2.out]] at hres2 hlen2
        have hext : Ext w w1 := by ((repeat (first | with_reducible exact Ext.refl _ | with_reducible exact hw | with_reducible exact hb9 | with_reducible exact hb8 | with_reducible exact hb7 | with_reducible exact hb6 | with_reducible exact hb5 | with_reducible exact hb4 | with_reducible exact hb3 | with_reducible exact hb2 | with_reducible exact hb1 | with_reducible refine Ext.alloc ?_ _ | with_reducible refine Ext.drew ?_ | ((with_reducible refine Ext.set ?_ ?_ _); focus (dsimp only; omega)) | with_reducible refine Ext.trans ?_ hb9 | with_reducible refine Ext.trans ?_ hb8 | with_reducible refine Ext.trans ?_ hb7 | with_reducible refine Ext.trans ?_ hb6 | with_reducible refine Ext.trans ?_ hb5 | with_reducible refine Ext.trans ?_ hb4 | with_reducible refine Ext.trans ?_ hb3 | with_reducible refine Ext.trans ?_ hb2 | with_reducible refine Ext.trans ?_ hb1 | with_reducible refine Ext.trans ?_ hw)))
        first | exact ⟨_, _, _, rfl, hlen2.symm, hres2, hext⟩ | exact ⟨_, _, ⟨_, rfl⟩, hlen2.symm, hres2, hext⟩
    | false =>
      have hv := filedF_no (ws := ws) (by rw [ha]; simp)
      have hres : Rd encStr w1 (some ⟨w.heap.size, 0, none⟩) (filedF ws) := by rw [hv]; exact hR
      have hlen : (filedF ws).length = ws.length := by rw [hv]
      rw [h00] at ha
      unfold artB at ha
      simp only [Bool.or_eq_false_iff, decide_eq_false_iff_not] at ha
      obtain ⟨e1, e2, e3⟩ := ha
      have b1 : (ws[0].toList == [97]) = false := by simp [e1]
      have b2 : (ws[0].toList == [97, 110]) = false := by simp [e2]
      have b3 : (ws[0].toList == [116, 104, 101]) = false := by simp [e3]
      clear hv h00
      go_wp2
      go_ret
      have hres2 := hres
      have hlen2 := hlen
      rw [show filedF ws = filedF (splitC 32 s) from by rw [hgen2.out]] at hres2 hlen2
      have hext : Ext w w1 := by ((repeat (first | with_reducible exact Ext.refl _ | with_reducible exact hw | with_reducible exact hb9 | with_reducible exact hb8 | with_reducible exact hb7 | with_reducible exact hb6 | with_reducible exact hb5 | with_reducible exact hb4 | with_reducible exact hb3 | with_reducible exact hb2 | with_reducible exact hb1 | with_reducible refine Ext.alloc ?_ _ | with_reducible refine Ext.drew ?_ | ((with_reducible refine Ext.set ?_ ?_ _); focus (dsimp only; omega)) | with_reducible refine Ext.trans ?_ hb9 | with_reducible refine Ext.trans ?_ hb8 | with_reducible refine Ext.trans ?_ hb7 | with_reducible refine Ext.trans ?_ hb6 | with_reducible refine Ext.trans ?_ hb5 | with_reducible refine Ext.trans ?_ hb4 | with_reducible refine Ext.trans ?_ hb3 | with_reducible refine Ext.trans ?_ hb2 | with_reducible refine Ext.trans ?_ hb1 | with_reducible refine Ext.trans ?_ hw)))
      first | exact ⟨_, _, _, rfl, hlen2.symm, hres2, hext⟩ | exact ⟨_, _, ⟨_, rfl⟩, hlen2.symm, hres2, hext⟩
  · have hv := filedF_no (ws := ws) (fun h => hl h.1)
    have hres : Rd encStr w1 (some ⟨w.heap.size, 0, none⟩) (filedF ws) := by rw [hv]; exact hR
    have hlen : (filedF ws).length = ws.length := by rw [hv]
    clear hv h00
    go_wp2
    go_ret
    have hres2 := hres
    have hlen2 := hlen
    rw [show filedF ws = filedF (splitC 32 s) from by rw [hgen2.out]] at hres2 hlen2
    have hext : Ext w w1 := by ((repeat (first | with_reducible exact Ext.refl _ | with_reducible exact hw | with_reducible exact hb9 | with_reducible exact hb8 | with_reducible exact hb7 | with_reducible exact hb6 | with_reducible exact hb5 | with_reducible exact hb4 | with_reducible exact hb3 | with_reducible exact hb2 | with_reducible exact hb1 | with_reducible refine Ext.alloc ?_ _ | with_reducible refine Ext.drew ?_ | ((with_reducible refine Ext.set ?_ ?_ _); focus (dsimp only; omega)) | with_reducible refine Ext.trans ?_ hb9 | with_reducible refine Ext.trans ?_ hb8 | with_reducible refine Ext.trans ?_ hb7 | with_reducible refine Ext.trans ?_ hb6 | with_reducible refine Ext.trans ?_ hb5 | with_reducible refine Ext.trans ?_ hb4 | with_reducible refine Ext.trans ?_ hb3 | with_reducible refine Ext.trans ?_ hb2 | with_reducible refine Ext.trans ?_ hb1 | with_reducible refine Ext.trans ?_ hw)))
    first | exact ⟨_, _, _, rfl, hlen2.symm, hres2, hext⟩ | exact ⟨_, _, ⟨_, rfl⟩, hlen2.symm, hres2, hext⟩

set_option maxHeartbeats 1000000 in
theorem spec_l05Words (s : ByteArray) (hs : s.size ≤ 24) (w : World)  :
    Calls Tryd.prog 76 #[.string s] w fun e w' => ∃ (A : Option Addr) (n cap : Nat), e = .returned (.slice A n cap) ∧ n = (filedF (splitC 32 s)).length ∧ Rd encStr w' A (filedF (splitC 32 s)) ∧ Ext w w' := by
  have hle := splitC_le s 32
  have hpos : 0 < (splitC 32 s).length := by rw [splitC_len]; omega
  go_enter Tryd.func76, Tryd.ntmps76
  go_wp2_with fail
  refine Calls.mono (show Calls Tryd.prog 69 #[.string s, .int .u8 32] w _ from spec_l01Split s 32 (by omega) w) ?_
  rintro e w1 ⟨v1, rfl, hO1, hb1⟩
  obtain ⟨A1, cap1, rfl, hle1, hR⟩ := hO1.slice
  generalize hgen : splitC 32 s = ws at hle hpos hR hle1 hO1
  have hgen2 := hd hgen
  clear hgen
  obtain ⟨b, off, hA, hlt, _⟩ := hR 0 hpos
  subst hA
  clear hO1
  have c0 := hR.str 0 hpos
  rw [Nat.add_zero] at c0
  skip
  have h00 := getBang ws 0 hpos
  by_cases hl : 1 < ws.length
  · cases ha : artB ws[0]! with
    | true =>
      have hv := filedF_yes hl ha
      have hres : Rd encStr w1 (some ⟨b, off + 1, none⟩) (filedF ws) := by rw [hv]; exact hR.drop1
      have hlen : (filedF ws).length = ws.length - 1 := by rw [hv, List.length_drop]
      rw [h00] at ha
      unfold artB at ha
      clear hv h00
      by_cases e1 : ws[0].toList = [97]
      all_goals by_cases e2 : ws[0].toList = [97, 110]
      all_goals by_cases e3 : ws[0].toList = [116, 104, 101]
      all_goals first | (exact absurd (e1.symm.trans e2) (by decide)) | (exact absurd (e1.symm.trans e3) (by decide)) | (exact absurd (e2.symm.trans e3) (by decide)) | (exfalso; simp [e1, e2, e3] at ha; done) | skip
      all_goals
        clear ha
        go_wp2
        go_ret
        have hres2 := hres
        have hlen2 := hlen
        rw [show filedF ws = filedF (splitC 32 s) from by rw [hgen2.out]] at hres2 hlen2
        have hext : Ext w w1 := by ((repeat (first | with_reducible exact Ext.refl _ | with_reducible exact hw | with_reducible exact hb9 | with_reducible exact hb8 | with_reducible exact hb7 | with_reducible exact hb6 | with_reducible exact hb5 | with_reducible exact hb4 | with_reducible exact hb3 | with_reducible exact hb2 | with_reducible exact hb1 | with_reducible refine Ext.alloc ?_ _ | with_reducible refine Ext.drew ?_ | ((with_reducible refine Ext.set ?_ ?_ _); focus (dsimp only; omega)) | with_reducible refine Ext.trans ?_ hb9 | with_reducible refine Ext.trans ?_ hb8 | with_reducible refine Ext.trans ?_ hb7 | with_reducible refine Ext.trans ?_ hb6 | with_reducible refine Ext.trans ?_ hb5 | with_reducible refine Ext.trans ?_ hb4 | with_reducible refine Ext.trans ?_ hb3 | with_reducible refine Ext.trans ?_ hb2 | with_reducible refine Ext.trans ?_ hb1 | with_reducible refine Ext.trans ?_ hw)))
        first | exact ⟨_, _, _, rfl, hlen2.symm, hres2, hext⟩ | exact ⟨_, _, ⟨_, rfl⟩, hlen2.symm, hres2, hext⟩
    | false =>
      have hv := filedF_no (ws := ws) (by rw [ha]; simp)
      have hres : Rd encStr w1 (some ⟨b, off, none⟩) (filedF ws) := by rw [hv]; exact hR
      have hlen : (filedF ws).length = ws.length := by rw [hv]
      rw [h00] at ha
      unfold artB at ha
      simp only [Bool.or_eq_false_iff, decide_eq_false_iff_not] at ha
      obtain ⟨e1, e2, e3⟩ := ha
      have b1 : (ws[0].toList == [97]) = false := by simp [e1]
      have b2 : (ws[0].toList == [97, 110]) = false := by simp [e2]
      have b3 : (ws[0].toList == [116, 104, 101]) = false := by simp [e3]
      clear hv h00
      go_wp2
      go_ret
      have hres2 := hres
      have hlen2 := hlen
      rw [show filedF ws = filedF (splitC 32 s) from by rw [hgen2.out]] at hres2 hlen2
      have hext : Ext w w1 := by ((repeat (first | with_reducible exact Ext.refl _ | with_reducible exact hw | with_reducible exact hb9 | with_reducible exact hb8 | with_reducible exact hb7 | with_reducible exact hb6 | with_reducible exact hb5 | with_reducible exact hb4 | with_reducible exact hb3 | with_reducible exact hb2 | with_reducible exact hb1 | with_reducible refine Ext.alloc ?_ _ | with_reducible refine Ext.drew ?_ | ((with_reducible refine Ext.set ?_ ?_ _); focus (dsimp only; omega)) | with_reducible refine Ext.trans ?_ hb9 | with_reducible refine Ext.trans ?_ hb8 | with_reducible refine Ext.trans ?_ hb7 | with_reducible refine Ext.trans ?_ hb6 | with_reducible refine Ext.trans ?_ hb5 | with_reducible refine Ext.trans ?_ hb4 | with_reducible refine Ext.trans ?_ hb3 | with_reducible refine Ext.trans ?_ hb2 | with_reducible refine Ext.trans ?_ hb1 | with_reducible refine Ext.trans ?_ hw)))
      first | exact ⟨_, _, _, rfl, hlen2.symm, hres2, hext⟩ | exact ⟨_, _, ⟨_, rfl⟩, hlen2.symm, hres2, hext⟩
  · have hv := filedF_no (ws := ws) (fun h => hl h.1)
    have hres : Rd encStr w1 (some ⟨b, off, none⟩) (filedF ws) := by rw [hv]; exact hR
    have hlen : (filedF ws).length = ws.length := by rw [hv]
    clear hv h00
    go_wp2
    go_ret
    have hres2 := hres
    have hlen2 := hlen
    rw [show filedF ws = filedF (splitC 32 s) from by rw [hgen2.out]] at hres2 hlen2
    have hext : Ext w w1 := by ((repeat (first | with_reducible exact Ext.refl _ | with_reducible exact hw | with_reducible exact hb9 | with_reducible exact hb8 | with_reducible exact hb7 | with_reducible exact hb6 | with_reducible exact hb5 | with_reducible exact hb4 | with_reducible exact hb3 | with_reducible exact hb2 | with_reducible exact hb1 | with_reducible refine Ext.alloc ?_ _ | with_reducible refine Ext.drew ?_ | ((with_reducible refine Ext.set ?_ ?_ _); focus (dsimp only; omega)) | with_reducible refine Ext.trans ?_ hb9 | with_reducible refine Ext.trans ?_ hb8 | with_reducible refine Ext.trans ?_ hb7 | with_reducible refine Ext.trans ?_ hb6 | with_reducible refine Ext.trans ?_ hb5 | with_reducible refine Ext.trans ?_ hb4 | with_reducible refine Ext.trans ?_ hb3 | with_reducible refine Ext.trans ?_ hb2 | with_reducible refine Ext.trans ?_ hb1 | with_reducible refine Ext.trans ?_ hw)))
    first | exact ⟨_, _, _, rfl, hlen2.symm, hres2, hext⟩ | exact ⟨_, _, ⟨_, rfl⟩, hlen2.symm, hres2, hext⟩

