/-
  Contracts of the functions that ask words, masks and a mix.
-/
import Derived.Test.YtbmompanhigmnaaDoorX2
import Derived.Test.YtbmompanhigmnaaDoorL8
set_option linter.unusedVariables false
set_option linter.unusedSimpArgs false
set_option maxRecDepth 100000
namespace Go.Proofs.YtbmompanhigmnaaDoor
open Go.RowKit
theorem Rd.strs {w : World} {b off : Nat} {xs : List ByteArray} (h : Rd encStr w (some ⟨b, off, none⟩) xs) (k : Nat) (hk : k < xs.length) :
    w.cell? ⟨b, off + k, none⟩ = some (.string xs[k]) ∧ b < w.heap.size := ⟨h.str k hk, World.block_lt_of_cell? _ _ (h.str k hk)⟩
def StrIn (s : ByteArray) : Prop := s.size ≤ 9223372036854775807
/-- Are there at most so many words? -/
def wordsB (ws : List ByteArray) (most : Int) : Bool := decide ((ws.length : Int) ≤ most) && ws.all isNameB
def wordsF (ws : List ByteArray) (most : Int) : Int := if wordsB ws most = true then 0 else 2
/-- The code of a mix, masks and words. -/
def askF (x : Mx) (ms : List Mask) (ws : List ByteArray) (most : Int) : Int :=
  if (mixB x && ms.all isMaskB) = true then (if (decide (ms.length ≤ 60) && wordsB ws most) = true then 0 else 2) else 1
theorem ask_bad {x : Mx} {ms : List Mask} {ws : List ByteArray} {most : Int} (h : (mixB x && ms.all isMaskB) = false) : askF x ms ws most = 1 := by unfold askF; rw [h]; rfl
theorem ask_far {x : Mx} {ms : List Mask} {ws : List ByteArray} {most : Int} (h : (mixB x && ms.all isMaskB) = true) (h2 : (decide (ms.length ≤ 60) && wordsB ws most) = false) : askF x ms ws most = 2 := by unfold askF; rw [h, h2]; rfl
theorem ask_ok {x : Mx} {ms : List Mask} {ws : List ByteArray} {most : Int} (h : (mixB x && ms.all isMaskB) = true) (h2 : (decide (ms.length ≤ 60) && wordsB ws most) = true) : askF x ms ws most = 0 := by unfold askF; rw [h, h2]; rfl
theorem ask_words {x : Mx} {ms : List Mask} {ws : List ByteArray} {most : Int} (h : (mixB x && ms.all isMaskB) = true) (h2 : ms.length ≤ 60) : askF x ms ws most = wordsF ws most := by
  unfold askF wordsF; rw [h, decide_eq_true h2, Bool.true_and]; rfl
theorem ask_zero {x : Mx} {ms : List Mask} {ws : List ByteArray} {most : Int} (h : askF x ms ws most = 0) : mixB x = true ∧ ms.all isMaskB = true ∧ ms.length ≤ 60 ∧ (ws.length : Int) ≤ most ∧ ws.all isNameB = true := by
  unfold askF at h
  split at h
  · rename_i h1
    split at h
    · rename_i h2
      simp only [wordsB, Bool.and_eq_true, decide_eq_true_eq] at h1 h2
      exact ⟨h1.1, h1.2, h2.1, h2.2.1, h2.2.2⟩
    · omega
  · omega
theorem wordsF_bad {ws : List ByteArray} {most : Int} (h : wordsB ws most = false) : wordsF ws most = 2 := by unfold wordsF; rw [h]; rfl
theorem wordsF_ok {ws : List ByteArray} {most : Int} (h : wordsB ws most = true) : wordsF ws most = 0 := by unfold wordsF; rw [h]; rfl
theorem lohi_win (m n : Mask) : (lo (mless m n) == 0 && hi (mless m n) == 0) = mwin m n := lohi_zero (mless m n)
set_option maxHeartbeats 400000 in
theorem spec_l03Word (s : ByteArray) (w : World) (hs : s.size ≤ 9223372036854775807) :
    Calls Tryd.prog 89 #[.string s] w fun e w' => e = .returned (.bool (isNameB s)) ∧ Ext w w' := by
  go_enter Tryd.func89, Tryd.ntmps89
  go_wp2
  go_loopg [3] s.size (fun g i wr => ∃ k : Nat, g = s.size - k ∧ k ≤ s.size ∧ i = .int .i64 k ∧ Ext w wr ∧ (s.data.toList.take k).all isLow = true)
  case atStart => exact ⟨0, by omega, by omega, rfl, Ext.refl _, by rw [List.take_zero]; rfl⟩
  case round =>
    obtain ⟨k, hg, hk, rfl, hw, hQ⟩ := hrel
    by_cases hkl : k < s.size
    · have hk2 : k < s.data.toList.length := hkl
      have hT := all_take isLow s.data.toList k hk2
      rw [hQ, Bool.true_and, show s.data.toList[k] = s[k] from rfl] at hT
      by_cases ha : s[k].toNat < 97
      · have hv : isNameB s = false := by
          have := all_miss isLow s.data.toList k hk2 (by rw [show s.data.toList[k] = s[k] from rfl, isLow, Bool.and_eq_false_iff, decide_eq_false_iff_not, decide_eq_false_iff_not]; omega)
          simp [isNameB, this]
        have d1 : ((s[k].toNat : Int) < 97) = True := by simp; omega
        clear hT hQ
        go_wp2
        go_ret
        exact ⟨by first | rfl | (rw [hv]; rfl), hw⟩
      · by_cases hb : 122 < s[k].toNat
        · have hv : isNameB s = false := by
            have := all_miss isLow s.data.toList k hk2 (by rw [show s.data.toList[k] = s[k] from rfl, isLow, Bool.and_eq_false_iff, decide_eq_false_iff_not, decide_eq_false_iff_not]; omega)
            simp [isNameB, this]
          have d1 : ((s[k].toNat : Int) < 97) = False := by simp; omega
          have d2 : ((122 : Int) < (s[k].toNat : Int)) = True := by simp; omega
          clear hT hQ
          go_wp2
          go_ret
          exact ⟨by first | rfl | (rw [hv]; rfl), hw⟩
        · have hT2 : (s.data.toList.take (k + 1)).all isLow = true := by rw [hT]; simp [isLow]; omega
          have d1 : ((s[k].toNat : Int) < 97) = False := by simp; omega
          have d2 : ((122 : Int) < (s[k].toNat : Int)) = False := by simp; omega
          have hT2' := hd hT2
          clear hT hT2 hQ
          go_wp2
          go_roundg (s.size - (k + 1))
          case rel => exact ⟨k + 1, rfl, hkl, rfl, hw, hT2'.out⟩
          case measure => omega
    · obtain rfl : k = s.size := by omega
      rw [show s.data.toList.take s.size = s.data.toList from List.take_length] at hQ
      have hl : s.data.toList.length = s.size := rfl
      by_cases h0 : s.size = 0
      · have hv : isNameB s = false := by simp [isNameB, h0]
        have hE : s.toList.isEmpty = true := by rw [ByteArray.toList_eq, List.isEmpty_iff, ← List.length_eq_zero_iff]; omega
        clear hQ
        go_wp2
        go_ret
        exact ⟨by first | rfl | (rw [hv]; rfl), hw⟩
      · have hE : s.toList.isEmpty = false := by
          rw [ByteArray.toList_eq]
          cases hq : s.data.toList with
          | nil => rw [hq] at hl; simp at hl; omega
          | cons => rfl
        have hv := hd (show isNameB s = decide ((s.size : Int) ≤ 16) by
          simp only [isNameB, hQ, Bool.and_true]
          rw [decide_eq_true (show 1 ≤ s.size by omega), Bool.true_and, decide_eq_decide]
          omega)
        clear hQ
        go_wp2
        go_ret
        exact ⟨by rw [hv.out]; rfl, hw⟩
set_option maxHeartbeats 400000 in
theorem spec_l03Words (ws : List ByteArray) (A : Option Addr) (cap : Nat) (most : Int) (w : World) (hR : Rd encStr w A ws) (hn : ws.length ≤ 1048576) (hok : ∀ x ∈ ws, StrIn x) :
    Calls Tryd.prog 67 #[.slice A ws.length cap, .int .i64 most] w fun e w' => e = .returned (.int .i64 (wordsF ws most)) ∧ Ext w w' := by
  by_cases hl : (ws.length : Int) ≤ most
  · go_enter Tryd.func67, Tryd.ntmps67
    go_wp2
    go_loopg [5] ws.length (fun g i wr => ∃ k : Nat, g = ws.length - k ∧ k ≤ ws.length ∧ i = .int .i64 k ∧ Hd ((ws.take k).all isNameB = true) ∧ Ext w wr)
    case atStart => exact ⟨0, by omega, by omega, rfl, hd (by rw [List.take_zero]; rfl), Ext.refl _⟩
    case round =>
      obtain ⟨k, hg, hk, rfl, hC, hw⟩ := hrel
      by_cases hkl : k < ws.length
      · obtain ⟨b, off, hA, hlt, _⟩ := hR k hkl
        subst hA
        obtain ⟨m0, m1⟩ := (hR.ext hw).strs k hkl
        have hs := all_take isNameB ws k hkl
        rw [hC.out, Bool.true_and] at hs
        have hs := hd hs
        have hmiss := fun h => hd (all_miss isNameB ws k hkl h)
        have hcall := fun W => spec_l03Word ws[k] W (hok _ (List.getElem_mem hkl))
        cases hq : isNameB ws[k] with
        | true =>
          have hs2 := hd (hs.out.trans hq)
          rw [hq] at hcall
          clear hs hmiss hq
          go_wp2_with fail
          refine Calls.mono (hcall _) ?_
          rintro e w1 ⟨rfl, hb1⟩
          go_wp2
          go_roundg (ws.length - (k + 1))
          case rel => exact ⟨k + 1, rfl, hkl, rfl, hs2, by ((repeat (first | with_reducible exact Ext.refl _ | with_reducible exact hw | with_reducible exact hb9 | with_reducible exact hb8 | with_reducible exact hb7 | with_reducible exact hb6 | with_reducible exact hb5 | with_reducible exact hb4 | with_reducible exact hb3 | with_reducible exact hb2 | with_reducible exact hb1 | with_reducible refine Ext.alloc ?_ _ | with_reducible refine Ext.drew ?_ | ((with_reducible refine Ext.set ?_ ?_ _); focus (dsimp only; omega)) | with_reducible refine Ext.trans ?_ hb9 | with_reducible refine Ext.trans ?_ hb8 | with_reducible refine Ext.trans ?_ hb7 | with_reducible refine Ext.trans ?_ hb6 | with_reducible refine Ext.trans ?_ hb5 | with_reducible refine Ext.trans ?_ hb4 | with_reducible refine Ext.trans ?_ hb3 | with_reducible refine Ext.trans ?_ hb2 | with_reducible refine Ext.trans ?_ hb1 | with_reducible refine Ext.trans ?_ hw)))⟩
          case measure => omega
        | false =>
          have hv := hd (show wordsF ws most = 2 from wordsF_bad (by unfold wordsB; rw [(hmiss hq).out, Bool.and_false]))
          rw [hq] at hcall
          clear hs hmiss hq hC
          go_wp2_with fail
          refine Calls.mono (hcall _) ?_
          rintro e w1 ⟨rfl, hb1⟩
          go_wp2
          go_ret
          exact ⟨by rw [hv.out]; rfl, by ((repeat (first | with_reducible exact Ext.refl _ | with_reducible exact hw | with_reducible exact hb9 | with_reducible exact hb8 | with_reducible exact hb7 | with_reducible exact hb6 | with_reducible exact hb5 | with_reducible exact hb4 | with_reducible exact hb3 | with_reducible exact hb2 | with_reducible exact hb1 | with_reducible refine Ext.alloc ?_ _ | with_reducible refine Ext.drew ?_ | ((with_reducible refine Ext.set ?_ ?_ _); focus (dsimp only; omega)) | with_reducible refine Ext.trans ?_ hb9 | with_reducible refine Ext.trans ?_ hb8 | with_reducible refine Ext.trans ?_ hb7 | with_reducible refine Ext.trans ?_ hb6 | with_reducible refine Ext.trans ?_ hb5 | with_reducible refine Ext.trans ?_ hb4 | with_reducible refine Ext.trans ?_ hb3 | with_reducible refine Ext.trans ?_ hb2 | with_reducible refine Ext.trans ?_ hb1 | with_reducible refine Ext.trans ?_ hw)))⟩
      · obtain rfl : k = ws.length := by omega
        have hC2 := hC.out
        rw [List.take_length] at hC2
        have hv := hd (show wordsF ws most = 0 from wordsF_ok (by unfold wordsB; rw [hC2, decide_eq_true hl]; rfl))
        clear hC hC2
        go_wp2
        go_ret
        exact ⟨by rw [hv.out]; rfl, hw⟩
  · have hv := hd (show wordsF ws most = 2 from wordsF_bad (by unfold wordsB; rw [decide_eq_false hl]; rfl))
    go_enter Tryd.func67, Tryd.ntmps67
    go_wp2
    go_ret
    exact ⟨by rw [hv.out]; rfl, Ext.refl _⟩
set_option maxHeartbeats 400000 in
theorem impl_areWords1 (s : ByteArray) (hs : StrIn s) (w : World) :
    Calls Tryd.prog 93 #[.string s] w fun e w' => e = .returned (.bool (!isNameB s)) ∧ Ext w w' := by
  have hcall := fun W => impl_isName s W hs
  generalize isNameB s = q at hcall
  go_enter Tryd.func93, Tryd.ntmps93
  go_wp2_with fail
  refine Calls.mono (hcall _) ?_
  rintro e w1 ⟨rfl, hb1⟩
  go_wp2
  go_ret
  exact ⟨rfl, by ((repeat (first | with_reducible exact Ext.refl _ | with_reducible exact hw | with_reducible exact hb9 | with_reducible exact hb8 | with_reducible exact hb7 | with_reducible exact hb6 | with_reducible exact hb5 | with_reducible exact hb4 | with_reducible exact hb3 | with_reducible exact hb2 | with_reducible exact hb1 | with_reducible refine Ext.alloc ?_ _ | with_reducible refine Ext.drew ?_ | ((with_reducible refine Ext.set ?_ ?_ _); focus (dsimp only; omega)) | with_reducible refine Ext.trans ?_ hb9 | with_reducible refine Ext.trans ?_ hb8 | with_reducible refine Ext.trans ?_ hb7 | with_reducible refine Ext.trans ?_ hb6 | with_reducible refine Ext.trans ?_ hb5 | with_reducible refine Ext.trans ?_ hb4 | with_reducible refine Ext.trans ?_ hb3 | with_reducible refine Ext.trans ?_ hb2 | with_reducible refine Ext.trans ?_ hb1 | with_reducible refine Ext.trans ?_ hw)))⟩
set_option maxHeartbeats 400000 in
theorem slices_IndexFunc_areWords (xs : List ByteArray) (A : Option Addr) (n cap : Nat) (w : World) (hnx : n = xs.length) (hR : Rd encStr w A xs) (hn : n ≤ 1048576) (hok : ∀ x ∈ xs, StrIn x) :
    Calls Tryd.prog 112 #[.slice A n cap, .func (.func 93) #[] #[]] w fun e w' => e = .returned (.int .i64 (fidx (fun s : ByteArray => !isNameB s) xs)) ∧ Ext w w' := by
  subst hnx
  go_enter Tryd.func112, Tryd.ntmps112
  go_wp2
  go_loopg [8] xs.length (fun g i wr => ∃ k : Nat, g = xs.length - k ∧ k ≤ xs.length ∧ i = .int .i64 k ∧ Ext w wr ∧ (xs.take k).any (fun s : ByteArray => !isNameB s) = false)
  case atStart => exact ⟨0, by omega, by omega, rfl, Ext.refl _, by rw [List.take_zero]; rfl⟩
  case round =>
    obtain ⟨k, hg, hk, rfl, hw, hQ⟩ := hrel
    by_cases hkl : k < xs.length
    · obtain ⟨b, off, hA, hlt, _⟩ := hR k hkl
      subst hA
      obtain ⟨m0, m1⟩ := (hR.ext hw).strs k hkl
      have hs := any_take (fun s : ByteArray => !isNameB s) xs k hkl
      rw [hQ, Bool.false_or] at hs
      cases hq : (fun s : ByteArray => !isNameB s) xs[k] with
      | true =>
        have hM := fidx_hit (fun s : ByteArray => !isNameB s) xs k hkl hq hQ
        try dsimp only at hq
        clear hs hQ
        go_wp2_with fail
        refine Calls.mono (impl_areWords1 xs[k] (hok _ (List.getElem_mem hkl)) _) ?_
        rintro e w1 ⟨rfl, hb1⟩
        simp only [hq]
        go_wp2
        go_ret
        exact ⟨by rw [hM]; rfl, by ((repeat (first | with_reducible exact Ext.refl _ | with_reducible exact hw | with_reducible exact hb9 | with_reducible exact hb8 | with_reducible exact hb7 | with_reducible exact hb6 | with_reducible exact hb5 | with_reducible exact hb4 | with_reducible exact hb3 | with_reducible exact hb2 | with_reducible exact hb1 | with_reducible refine Ext.alloc ?_ _ | with_reducible refine Ext.drew ?_ | ((with_reducible refine Ext.set ?_ ?_ _); focus (dsimp only; omega)) | with_reducible refine Ext.trans ?_ hb9 | with_reducible refine Ext.trans ?_ hb8 | with_reducible refine Ext.trans ?_ hb7 | with_reducible refine Ext.trans ?_ hb6 | with_reducible refine Ext.trans ?_ hb5 | with_reducible refine Ext.trans ?_ hb4 | with_reducible refine Ext.trans ?_ hb3 | with_reducible refine Ext.trans ?_ hb2 | with_reducible refine Ext.trans ?_ hb1 | with_reducible refine Ext.trans ?_ hw)))⟩
      | false =>
        have hs2 := hd (hs.trans hq)
        try dsimp only at hq
        clear hs hQ
        go_wp2_with fail
        refine Calls.mono (impl_areWords1 xs[k] (hok _ (List.getElem_mem hkl)) _) ?_
        rintro e w1 ⟨rfl, hb1⟩
        simp only [hq]
        go_wp2
        go_roundg (xs.length - (k + 1))
        case rel => exact ⟨k + 1, rfl, hkl, rfl, by ((repeat (first | with_reducible exact Ext.refl _ | with_reducible exact hw | with_reducible exact hb9 | with_reducible exact hb8 | with_reducible exact hb7 | with_reducible exact hb6 | with_reducible exact hb5 | with_reducible exact hb4 | with_reducible exact hb3 | with_reducible exact hb2 | with_reducible exact hb1 | with_reducible refine Ext.alloc ?_ _ | with_reducible refine Ext.drew ?_ | ((with_reducible refine Ext.set ?_ ?_ _); focus (dsimp only; omega)) | with_reducible refine Ext.trans ?_ hb9 | with_reducible refine Ext.trans ?_ hb8 | with_reducible refine Ext.trans ?_ hb7 | with_reducible refine Ext.trans ?_ hb6 | with_reducible refine Ext.trans ?_ hb5 | with_reducible refine Ext.trans ?_ hb4 | with_reducible refine Ext.trans ?_ hb3 | with_reducible refine Ext.trans ?_ hb2 | with_reducible refine Ext.trans ?_ hb1 | with_reducible refine Ext.trans ?_ hw))), hs2.out⟩
        case measure => omega
    · obtain rfl : k = xs.length := by omega
      rw [List.take_length] at hQ
      have hM := fidx_none (fun s : ByteArray => !isNameB s) xs hQ
      go_wp2
      go_ret
      exact ⟨by rw [hM]; rfl, hw⟩

set_option maxHeartbeats 400000 in
theorem impl_areWords (ws : List ByteArray) (A : Option Addr) (cap : Nat) (most : Int) (w : World) (hR : Rd encStr w A ws) (hn : ws.length ≤ 1048576) (hok : ∀ x ∈ ws, StrIn x) :
    Calls Tryd.prog 69 #[.slice A ws.length cap, .int .i64 most] w fun e w' => e = .returned (.bool (wordsB ws most)) ∧ Ext w w' := by
  have hI := fun (W : World) (h : Rd encStr W A ws) => slices_IndexFunc_areWords ws A _ cap W rfl h hn hok
  have hv := fidx_ge (fun s : ByteArray => !isNameB s) ws
  have hm : (!ws.all isNameB) = decide (fidx (fun s : ByteArray => !isNameB s) ws ≥ 0) := by
    rw [List.not_all_eq_any_not, Bool.eq_iff_iff, decide_eq_true_iff]
    exact hv.symm
  generalize fidx (fun s : ByteArray => !isNameB s) ws = q at hm hI
  have hC : ∀ W, Rd encStr W A ws → Calls Tryd.prog 92 #[.slice A ws.length cap, .func (.func 93) #[] #[]] W fun e w' => e = .returned (.bool (!ws.all isNameB)) ∧ Ext W w' := by
    intro W h
    rw [hm]
    clear hm hv
    go_enter Tryd.func92, Tryd.ntmps92
    go_wp2_with fail
    refine Calls.mono (hI _ h) ?_
    rintro e w1 ⟨rfl, hb1⟩
    go_wp2
    go_ret
    exact ⟨rfl, hb1⟩
  clear hI hm hv
  have hx : wordsB ws most = (decide ((ws.length : Int) ≤ most) && ws.all isNameB) := rfl
  generalize ws.all isNameB = b at hC hx
  by_cases hl : (ws.length : Int) ≤ most
  · have hx := hd (show wordsB ws most = b by rw [hx, decide_eq_true hl, Bool.true_and])
    go_enter Tryd.func69, Tryd.ntmps69
    go_wp2_with fail
    refine Calls.mono (hC _ hR) ?_
    rintro e w1 ⟨rfl, hb1⟩
    go_wp2
    go_ret
    exact ⟨by rw [hx.out]; first | rfl | rw [Bool.not_not], by ((repeat (first | with_reducible exact Ext.refl _ | with_reducible exact hw | with_reducible exact hb9 | with_reducible exact hb8 | with_reducible exact hb7 | with_reducible exact hb6 | with_reducible exact hb5 | with_reducible exact hb4 | with_reducible exact hb3 | with_reducible exact hb2 | with_reducible exact hb1 | with_reducible refine Ext.alloc ?_ _ | with_reducible refine Ext.drew ?_ | ((with_reducible refine Ext.set ?_ ?_ _); focus (dsimp only; omega)) | with_reducible refine Ext.trans ?_ hb9 | with_reducible refine Ext.trans ?_ hb8 | with_reducible refine Ext.trans ?_ hb7 | with_reducible refine Ext.trans ?_ hb6 | with_reducible refine Ext.trans ?_ hb5 | with_reducible refine Ext.trans ?_ hb4 | with_reducible refine Ext.trans ?_ hb3 | with_reducible refine Ext.trans ?_ hb2 | with_reducible refine Ext.trans ?_ hb1 | with_reducible refine Ext.trans ?_ hw)))⟩
  · have hx := hd (show wordsB ws most = false by rw [hx, decide_eq_false hl, Bool.false_and])
    go_enter Tryd.func69, Tryd.ntmps69
    go_wp2
    go_ret
    exact ⟨by first | (rw [hx.out]; rfl) | (rw [decide_eq_false (Int.not_le.2 hl)]; rfl), by ((repeat (first | with_reducible exact Ext.refl _ | with_reducible exact hw | with_reducible exact hb9 | with_reducible exact hb8 | with_reducible exact hb7 | with_reducible exact hb6 | with_reducible exact hb5 | with_reducible exact hb4 | with_reducible exact hb3 | with_reducible exact hb2 | with_reducible exact hb1 | with_reducible refine Ext.alloc ?_ _ | with_reducible refine Ext.drew ?_ | ((with_reducible refine Ext.set ?_ ?_ _); focus (dsimp only; omega)) | with_reducible refine Ext.trans ?_ hb9 | with_reducible refine Ext.trans ?_ hb8 | with_reducible refine Ext.trans ?_ hb7 | with_reducible refine Ext.trans ?_ hb6 | with_reducible refine Ext.trans ?_ hb5 | with_reducible refine Ext.trans ?_ hb4 | with_reducible refine Ext.trans ?_ hb3 | with_reducible refine Ext.trans ?_ hb2 | with_reducible refine Ext.trans ?_ hb1 | with_reducible refine Ext.trans ?_ hw)))⟩
set_option maxHeartbeats 400000 in
theorem impl_checkWords (x : Mx) (hx : MxIn x) (ws : List ByteArray) (A : Option Addr) (cap : Nat) (w : World) (hR : Rd encStr w A ws) (hn : ws.length ≤ 1048576) (hok : ∀ x ∈ ws, StrIn x) :
    Calls Tryd.prog 55 #[.agg #[.int .i16 x.st, .int .i16 x.sz, .int .i16 x.per], .slice A ws.length cap] w fun e w' => e = .returned (.int .i64 (askF x [] ws 12)) ∧ Ext w w' := by
  have h1 := fun W => impl_isMix x hx W
  have h2 := fun (W : World) (h : Ext w W) => impl_areWords ws A cap 12 W (hR.ext h) hn hok
  have hb := ask_bad (x := x) (ms := []) (ws := ws) (most := 12)
  have hf := ask_far (x := x) (ms := []) (ws := ws) (most := 12)
  have ho := ask_ok (x := x) (ms := []) (ws := ws) (most := 12)
  rw [List.all_nil, Bool.and_true] at hb hf ho
  rw [show decide (([] : List Mask).length ≤ 60) = true from rfl, Bool.true_and] at hf ho
  generalize mixB x = p at h1 hb hf ho
  generalize wordsB ws 12 = q at h2 hf ho
  cases p with
  | false =>
    have hv := hd (hb rfl)
    clear hb hf ho
    go_enter Tryd.func55, Tryd.ntmps55
    go_wp2_with fail
    refine Calls.mono (h1 _) ?_
    rintro e w1 ⟨rfl, hb1⟩
    go_wp2
    go_ret
    exact ⟨by rw [hv.out]; rfl, by ((repeat (first | with_reducible exact Ext.refl _ | with_reducible exact hw | with_reducible exact hb9 | with_reducible exact hb8 | with_reducible exact hb7 | with_reducible exact hb6 | with_reducible exact hb5 | with_reducible exact hb4 | with_reducible exact hb3 | with_reducible exact hb2 | with_reducible exact hb1 | with_reducible refine Ext.alloc ?_ _ | with_reducible refine Ext.drew ?_ | ((with_reducible refine Ext.set ?_ ?_ _); focus (dsimp only; omega)) | with_reducible refine Ext.trans ?_ hb9 | with_reducible refine Ext.trans ?_ hb8 | with_reducible refine Ext.trans ?_ hb7 | with_reducible refine Ext.trans ?_ hb6 | with_reducible refine Ext.trans ?_ hb5 | with_reducible refine Ext.trans ?_ hb4 | with_reducible refine Ext.trans ?_ hb3 | with_reducible refine Ext.trans ?_ hb2 | with_reducible refine Ext.trans ?_ hb1 | with_reducible refine Ext.trans ?_ hw)))⟩
  | true =>
    cases q with
    | false =>
      have hv := hd (hf rfl rfl)
      clear hb hf ho
      go_enter Tryd.func55, Tryd.ntmps55
      go_wp2_with fail
      refine Calls.mono (h1 _) ?_
      rintro e w1 ⟨rfl, hb1⟩
      go_wp2_with fail
      refine Calls.mono (h2 _ (by ((repeat (first | with_reducible exact Ext.refl _ | with_reducible exact hw | with_reducible exact hb9 | with_reducible exact hb8 | with_reducible exact hb7 | with_reducible exact hb6 | with_reducible exact hb5 | with_reducible exact hb4 | with_reducible exact hb3 | with_reducible exact hb2 | with_reducible exact hb1 | with_reducible refine Ext.alloc ?_ _ | with_reducible refine Ext.drew ?_ | ((with_reducible refine Ext.set ?_ ?_ _); focus (dsimp only; omega)) | with_reducible refine Ext.trans ?_ hb9 | with_reducible refine Ext.trans ?_ hb8 | with_reducible refine Ext.trans ?_ hb7 | with_reducible refine Ext.trans ?_ hb6 | with_reducible refine Ext.trans ?_ hb5 | with_reducible refine Ext.trans ?_ hb4 | with_reducible refine Ext.trans ?_ hb3 | with_reducible refine Ext.trans ?_ hb2 | with_reducible refine Ext.trans ?_ hb1 | with_reducible refine Ext.trans ?_ hw))))) ?_
      rintro e w2 ⟨rfl, hb2⟩
      go_wp2
      go_ret
      exact ⟨by rw [hv.out]; rfl, by ((repeat (first | with_reducible exact Ext.refl _ | with_reducible exact hw | with_reducible exact hb9 | with_reducible exact hb8 | with_reducible exact hb7 | with_reducible exact hb6 | with_reducible exact hb5 | with_reducible exact hb4 | with_reducible exact hb3 | with_reducible exact hb2 | with_reducible exact hb1 | with_reducible refine Ext.alloc ?_ _ | with_reducible refine Ext.drew ?_ | ((with_reducible refine Ext.set ?_ ?_ _); focus (dsimp only; omega)) | with_reducible refine Ext.trans ?_ hb9 | with_reducible refine Ext.trans ?_ hb8 | with_reducible refine Ext.trans ?_ hb7 | with_reducible refine Ext.trans ?_ hb6 | with_reducible refine Ext.trans ?_ hb5 | with_reducible refine Ext.trans ?_ hb4 | with_reducible refine Ext.trans ?_ hb3 | with_reducible refine Ext.trans ?_ hb2 | with_reducible refine Ext.trans ?_ hb1 | with_reducible refine Ext.trans ?_ hw)))⟩
    | true =>
      have hv := hd (ho rfl rfl)
      clear hb hf ho
      go_enter Tryd.func55, Tryd.ntmps55
      go_wp2_with fail
      refine Calls.mono (h1 _) ?_
      rintro e w1 ⟨rfl, hb1⟩
      go_wp2_with fail
      refine Calls.mono (h2 _ (by ((repeat (first | with_reducible exact Ext.refl _ | with_reducible exact hw | with_reducible exact hb9 | with_reducible exact hb8 | with_reducible exact hb7 | with_reducible exact hb6 | with_reducible exact hb5 | with_reducible exact hb4 | with_reducible exact hb3 | with_reducible exact hb2 | with_reducible exact hb1 | with_reducible refine Ext.alloc ?_ _ | with_reducible refine Ext.drew ?_ | ((with_reducible refine Ext.set ?_ ?_ _); focus (dsimp only; omega)) | with_reducible refine Ext.trans ?_ hb9 | with_reducible refine Ext.trans ?_ hb8 | with_reducible refine Ext.trans ?_ hb7 | with_reducible refine Ext.trans ?_ hb6 | with_reducible refine Ext.trans ?_ hb5 | with_reducible refine Ext.trans ?_ hb4 | with_reducible refine Ext.trans ?_ hb3 | with_reducible refine Ext.trans ?_ hb2 | with_reducible refine Ext.trans ?_ hb1 | with_reducible refine Ext.trans ?_ hw))))) ?_
      rintro e w2 ⟨rfl, hb2⟩
      go_wp2
      go_ret
      exact ⟨by rw [hv.out]; rfl, by ((repeat (first | with_reducible exact Ext.refl _ | with_reducible exact hw | with_reducible exact hb9 | with_reducible exact hb8 | with_reducible exact hb7 | with_reducible exact hb6 | with_reducible exact hb5 | with_reducible exact hb4 | with_reducible exact hb3 | with_reducible exact hb2 | with_reducible exact hb1 | with_reducible refine Ext.alloc ?_ _ | with_reducible refine Ext.drew ?_ | ((with_reducible refine Ext.set ?_ ?_ _); focus (dsimp only; omega)) | with_reducible refine Ext.trans ?_ hb9 | with_reducible refine Ext.trans ?_ hb8 | with_reducible refine Ext.trans ?_ hb7 | with_reducible refine Ext.trans ?_ hb6 | with_reducible refine Ext.trans ?_ hb5 | with_reducible refine Ext.trans ?_ hb4 | with_reducible refine Ext.trans ?_ hb3 | with_reducible refine Ext.trans ?_ hb2 | with_reducible refine Ext.trans ?_ hb1 | with_reducible refine Ext.trans ?_ hw)))⟩
set_option maxHeartbeats 400000 in
theorem spec_ValidMask (m : Mask) (w : World) : Calls Tryd.prog 80 #[.agg #[.int .u64 (lo m), .int .u64 (hi m)]] w fun e w' => e = .returned (.bool (isMaskB m)) ∧ Ext w w' := by
  have h := fun W => spec_l01Mask m W
  generalize isMaskB m = q at h
  go_enter Tryd.func80, Tryd.ntmps80
  go_wp2_with fail
  refine Calls.mono (h _) ?_
  rintro e w1 ⟨rfl, hb1⟩
  go_wp2
  go_ret
  exact ⟨rfl, by ((repeat (first | with_reducible exact Ext.refl _ | with_reducible exact hw | with_reducible exact hb9 | with_reducible exact hb8 | with_reducible exact hb7 | with_reducible exact hb6 | with_reducible exact hb5 | with_reducible exact hb4 | with_reducible exact hb3 | with_reducible exact hb2 | with_reducible exact hb1 | with_reducible refine Ext.alloc ?_ _ | with_reducible refine Ext.drew ?_ | ((with_reducible refine Ext.set ?_ ?_ _); focus (dsimp only; omega)) | with_reducible refine Ext.trans ?_ hb9 | with_reducible refine Ext.trans ?_ hb8 | with_reducible refine Ext.trans ?_ hb7 | with_reducible refine Ext.trans ?_ hb6 | with_reducible refine Ext.trans ?_ hb5 | with_reducible refine Ext.trans ?_ hb4 | with_reducible refine Ext.trans ?_ hb3 | with_reducible refine Ext.trans ?_ hb2 | with_reducible refine Ext.trans ?_ hb1 | with_reducible refine Ext.trans ?_ hw)))⟩
set_option maxHeartbeats 1000000 in
theorem spec_l03Asked (x : Mx) (hx : MxIn x) (b o : Nat) (ms : List Mask) (B : Option Addr) (cap' : Nat) (ws : List ByteArray) (A : Option Addr) (cap : Nat) (most : Int) (w : World) (hM : MixAt w b o x) (hS : Rd encMask w B ms) (hm : ms.length ≤ 1048576) (hR : Rd encStr w A ws) (hn : ws.length ≤ 1048576) (hok : ∀ x ∈ ws, StrIn x) :
    Calls Tryd.prog 49 #[.pointer (some ⟨b, o, none⟩), .slice B ms.length cap', .slice A ws.length cap, .int .i64 most] w fun e w' => e = .returned (.int .i64 (askF x ms ws most)) ∧ Ext w w' := by
  have h1 := spec_l03Ok x hx b o w hM
  have h2 := fun (W : World) (h : Ext w W) => spec_l03Words ws A cap most W (hR.ext h) hn hok
  have hb := ask_bad (x := x) (ms := ms) (ws := ws) (most := most)
  have hf := ask_far (x := x) (ms := ms) (ws := ws) (most := most)
  have ho := ask_words (x := x) (ms := ms) (ws := ws) (most := most)
  generalize wordsF ws most = wf at h2 ho
  generalize mixB x = p at h1 hb hf ho
  have hb := hd hb
  have hf := hd hf
  have ho := hd ho
  cases p with
  | false =>
    have hv := hd (hb.out rfl)
    go_enter Tryd.func49, Tryd.ntmps49
    go_wp2_with fail
    refine Calls.mono (h1) ?_
    rintro e w1 ⟨rfl, hb1⟩
    go_wp2
    go_ret
    exact ⟨by rw [hv.out]; rfl, by ((repeat (first | with_reducible exact Ext.refl _ | with_reducible exact hw | with_reducible exact hb9 | with_reducible exact hb8 | with_reducible exact hb7 | with_reducible exact hb6 | with_reducible exact hb5 | with_reducible exact hb4 | with_reducible exact hb3 | with_reducible exact hb2 | with_reducible exact hb1 | with_reducible refine Ext.alloc ?_ _ | with_reducible refine Ext.drew ?_ | ((with_reducible refine Ext.set ?_ ?_ _); focus (dsimp only; omega)) | with_reducible refine Ext.trans ?_ hb9 | with_reducible refine Ext.trans ?_ hb8 | with_reducible refine Ext.trans ?_ hb7 | with_reducible refine Ext.trans ?_ hb6 | with_reducible refine Ext.trans ?_ hb5 | with_reducible refine Ext.trans ?_ hb4 | with_reducible refine Ext.trans ?_ hb3 | with_reducible refine Ext.trans ?_ hb2 | with_reducible refine Ext.trans ?_ hb1 | with_reducible refine Ext.trans ?_ hw)))⟩
  | true =>
    go_enter Tryd.func49, Tryd.ntmps49
    go_wp2_with fail
    refine Calls.mono (h1) ?_
    rintro e w9 ⟨rfl, hb9⟩
    go_wp2
    go_loopg [9] ms.length (fun g i wr => ∃ k : Nat, g = ms.length - k ∧ k ≤ ms.length ∧ i = .int .i64 k ∧ Hd ((ms.take k).all isMaskB = true) ∧ Ext w wr)
    case atStart => exact ⟨0, by omega, by omega, rfl, hd (by rw [List.take_zero]; rfl), hb9⟩
    case round =>
      obtain ⟨k, hg, hk, rfl, hC, hw⟩ := hrel
      by_cases hkl : k < ms.length
      · obtain ⟨bb, off, hA, hlt, _⟩ := hS k hkl
        subst hA
        obtain ⟨m0, m1, m2⟩ := (hS.ext hw).mask k hkl
        have hs := all_take isMaskB ms k hkl
        rw [hC.out, Bool.true_and] at hs
        have hs := hd hs
        have hmiss := fun h => hd (all_miss isMaskB ms k hkl h)
        have hcall := fun W => spec_ValidMask ms[k] W
        cases hq : isMaskB ms[k] with
        | true =>
          have hs2 := hd (hs.out.trans hq)
          rw [hq] at hcall
          clear hs hmiss hq
          go_wp2_with fail
          refine Calls.mono (hcall _) ?_
          rintro e w1 ⟨rfl, hb1⟩
          go_wp2
          go_roundg (ms.length - (k + 1))
          case rel => exact ⟨k + 1, rfl, hkl, rfl, hs2, by ((repeat (first | with_reducible exact Ext.refl _ | with_reducible exact hw | with_reducible exact hb9 | with_reducible exact hb8 | with_reducible exact hb7 | with_reducible exact hb6 | with_reducible exact hb5 | with_reducible exact hb4 | with_reducible exact hb3 | with_reducible exact hb2 | with_reducible exact hb1 | with_reducible refine Ext.alloc ?_ _ | with_reducible refine Ext.drew ?_ | ((with_reducible refine Ext.set ?_ ?_ _); focus (dsimp only; omega)) | with_reducible refine Ext.trans ?_ hb9 | with_reducible refine Ext.trans ?_ hb8 | with_reducible refine Ext.trans ?_ hb7 | with_reducible refine Ext.trans ?_ hb6 | with_reducible refine Ext.trans ?_ hb5 | with_reducible refine Ext.trans ?_ hb4 | with_reducible refine Ext.trans ?_ hb3 | with_reducible refine Ext.trans ?_ hb2 | with_reducible refine Ext.trans ?_ hb1 | with_reducible refine Ext.trans ?_ hw)))⟩
          case measure => omega
        | false =>
          have hv := hd (hb.out (by rw [(hmiss hq).out]; rfl))
          rw [hq] at hcall
          clear hs hmiss hq hC
          go_wp2_with fail
          refine Calls.mono (hcall _) ?_
          rintro e w1 ⟨rfl, hb1⟩
          go_wp2
          go_ret
          exact ⟨by rw [hv.out]; rfl, by ((repeat (first | with_reducible exact Ext.refl _ | with_reducible exact hw | with_reducible exact hb9 | with_reducible exact hb8 | with_reducible exact hb7 | with_reducible exact hb6 | with_reducible exact hb5 | with_reducible exact hb4 | with_reducible exact hb3 | with_reducible exact hb2 | with_reducible exact hb1 | with_reducible refine Ext.alloc ?_ _ | with_reducible refine Ext.drew ?_ | ((with_reducible refine Ext.set ?_ ?_ _); focus (dsimp only; omega)) | with_reducible refine Ext.trans ?_ hb9 | with_reducible refine Ext.trans ?_ hb8 | with_reducible refine Ext.trans ?_ hb7 | with_reducible refine Ext.trans ?_ hb6 | with_reducible refine Ext.trans ?_ hb5 | with_reducible refine Ext.trans ?_ hb4 | with_reducible refine Ext.trans ?_ hb3 | with_reducible refine Ext.trans ?_ hb2 | with_reducible refine Ext.trans ?_ hb1 | with_reducible refine Ext.trans ?_ hw)))⟩
      · obtain rfl : k = ms.length := by omega
        have hC2 := hC.out
        rw [List.take_length] at hC2
        by_cases h60 : ms.length ≤ 60
        · have hv := hd (ho.out (by rw [hC2]; rfl) h60)
          clear hC hC2
          go_wp2_with fail
          refine Calls.mono (h2 _ hw) ?_
          rintro e w1 ⟨rfl, hb1⟩
          go_wp2
          go_ret
          exact ⟨by rw [hv.out]; rfl, by ((repeat (first | with_reducible exact Ext.refl _ | with_reducible exact hw | with_reducible exact hb9 | with_reducible exact hb8 | with_reducible exact hb7 | with_reducible exact hb6 | with_reducible exact hb5 | with_reducible exact hb4 | with_reducible exact hb3 | with_reducible exact hb2 | with_reducible exact hb1 | with_reducible refine Ext.alloc ?_ _ | with_reducible refine Ext.drew ?_ | ((with_reducible refine Ext.set ?_ ?_ _); focus (dsimp only; omega)) | with_reducible refine Ext.trans ?_ hb9 | with_reducible refine Ext.trans ?_ hb8 | with_reducible refine Ext.trans ?_ hb7 | with_reducible refine Ext.trans ?_ hb6 | with_reducible refine Ext.trans ?_ hb5 | with_reducible refine Ext.trans ?_ hb4 | with_reducible refine Ext.trans ?_ hb3 | with_reducible refine Ext.trans ?_ hb2 | with_reducible refine Ext.trans ?_ hb1 | with_reducible refine Ext.trans ?_ hw)))⟩
        · have hv := hd (hf.out (by rw [hC2]; rfl) (by rw [decide_eq_false h60]; rfl))
          clear hC hC2
          go_wp2
          go_ret
          exact ⟨by rw [hv.out]; rfl, by ((repeat (first | with_reducible exact Ext.refl _ | with_reducible exact hw | with_reducible exact hb9 | with_reducible exact hb8 | with_reducible exact hb7 | with_reducible exact hb6 | with_reducible exact hb5 | with_reducible exact hb4 | with_reducible exact hb3 | with_reducible exact hb2 | with_reducible exact hb1 | with_reducible refine Ext.alloc ?_ _ | with_reducible refine Ext.drew ?_ | ((with_reducible refine Ext.set ?_ ?_ _); focus (dsimp only; omega)) | with_reducible refine Ext.trans ?_ hb9 | with_reducible refine Ext.trans ?_ hb8 | with_reducible refine Ext.trans ?_ hb7 | with_reducible refine Ext.trans ?_ hb6 | with_reducible refine Ext.trans ?_ hb5 | with_reducible refine Ext.trans ?_ hb4 | with_reducible refine Ext.trans ?_ hb3 | with_reducible refine Ext.trans ?_ hb2 | with_reducible refine Ext.trans ?_ hb1 | with_reducible refine Ext.trans ?_ hw)))⟩
set_option maxHeartbeats 400000 in
theorem impl_IsWithin (m n : Mask) (w : World) : Calls Tryd.prog 56 #[.agg #[.int .u64 (lo m), .int .u64 (hi m)], .agg #[.int .u64 (lo n), .int .u64 (hi n)]] w fun e w' => e = .returned (.bool (mwin m n)) ∧ Ext w w' := by
  have e1 := lohi_win m n
  have e2 := eqA_Mask
  go_enter Tryd.func56, Tryd.ntmps56
  go_wp2_with fail
  refine Calls.mono (impl_LessMask m n _) ?_
  rintro e w1 ⟨rfl, hb1⟩
  obtain ⟨hc1, hf1, hz1⟩ := bcell3 hb1
  try simp at hz1
  have hz1_0 : w.heap.size < w1.heap.size := by omega
  have hz1_1 : w.heap.size + 1 < w1.heap.size := by omega
  go_wp2
  go_ret
  refine ⟨rfl, ?_⟩
  (repeat (first | with_reducible exact Ext.refl _ | with_reducible exact hw | with_reducible exact hb9 | with_reducible exact hb8 | with_reducible exact hb7 | with_reducible exact hb6 | with_reducible exact hb5 | with_reducible exact hb4 | with_reducible exact hb3 | with_reducible exact hb2 | with_reducible exact hb1 | with_reducible refine Ext.alloc ?_ _ | with_reducible refine Ext.drew ?_ | ((with_reducible refine Ext.set ?_ ?_ _); focus (dsimp only; omega)) | with_reducible refine Ext.trans ?_ hb9 | with_reducible refine Ext.trans ?_ hb8 | with_reducible refine Ext.trans ?_ hb7 | with_reducible refine Ext.trans ?_ hb6 | with_reducible refine Ext.trans ?_ hb5 | with_reducible refine Ext.trans ?_ hb4 | with_reducible refine Ext.trans ?_ hb3 | with_reducible refine Ext.trans ?_ hb2 | with_reducible refine Ext.trans ?_ hb1 | with_reducible refine Ext.trans ?_ hw))
set_option maxHeartbeats 400000 in
theorem spec_IsWithin (m n : Mask) (w : World) : Calls Tryd.prog 81 #[.agg #[.int .u64 (lo m), .int .u64 (hi m)], .agg #[.int .u64 (lo n), .int .u64 (hi n)]] w fun e w' => e = .returned (.bool (mwin m n)) ∧ Ext w w' := by
  have e1 := lohi_win m n
  have e2 := eqA_Mask
  go_enter Tryd.func81, Tryd.ntmps81
  go_wp2_with fail
  refine Calls.mono (spec_l01Less m n _) ?_
  rintro e w1 ⟨rfl, hb1⟩
  obtain ⟨hc1, hf1, hz1⟩ := bcell3 hb1
  try simp at hz1
  have hz1_0 : w.heap.size < w1.heap.size := by omega
  have hz1_1 : w.heap.size + 1 < w1.heap.size := by omega
  go_wp2
  go_ret
  refine ⟨rfl, ?_⟩
  (repeat (first | with_reducible exact Ext.refl _ | with_reducible exact hw | with_reducible exact hb9 | with_reducible exact hb8 | with_reducible exact hb7 | with_reducible exact hb6 | with_reducible exact hb5 | with_reducible exact hb4 | with_reducible exact hb3 | with_reducible exact hb2 | with_reducible exact hb1 | with_reducible refine Ext.alloc ?_ _ | with_reducible refine Ext.drew ?_ | ((with_reducible refine Ext.set ?_ ?_ _); focus (dsimp only; omega)) | with_reducible refine Ext.trans ?_ hb9 | with_reducible refine Ext.trans ?_ hb8 | with_reducible refine Ext.trans ?_ hb7 | with_reducible refine Ext.trans ?_ hb6 | with_reducible refine Ext.trans ?_ hb5 | with_reducible refine Ext.trans ?_ hb4 | with_reducible refine Ext.trans ?_ hb3 | with_reducible refine Ext.trans ?_ hb2 | with_reducible refine Ext.trans ?_ hb1 | with_reducible refine Ext.trans ?_ hw))
end Go.Proofs.YtbmompanhigmnaaDoor
