/-
  Contracts of the functions that ask a lot of words, and of MixLot, program's and reference's.
-/
import Derived.Test.YtbmompanhigmnaaDoorX6
import Derived.Test.YtbmompanhigmnaaDoorNS
set_option linter.unusedVariables false
set_option linter.unusedSimpArgs false
set_option maxRecDepth 100000
namespace Go.Proofs.YtbmompanhigmnaaDoor
open Go.RowKit
/-- Are there a few lists of a few words? -/
def lotB (lot : List (List ByteArray)) : Bool := decide (lot.length ≤ 60) && lot.all fun ws => wordsB ws 12
def lotF (lot : List (List ByteArray)) : Int := if lotB lot = true then 0 else 2
theorem lotF_ok {lot : List (List ByteArray)} (h : lotB lot = true) : lotF lot = 0 := by unfold lotF; rw [if_pos h]
theorem lotF_no {lot : List (List ByteArray)} (h : lotB lot = false) : lotF lot = 2 := by unfold lotF; rw [h]; rfl
theorem lot_all {lot : List (List ByteArray)} (h : lotB lot = true) : lot.length ≤ 60 ∧ ∀ l ∈ lot, l.length ≤ 12 ∧ l.all isNameB = true := by
  simp only [lotB, Bool.and_eq_true, decide_eq_true_eq, List.all_eq_true] at h
  refine ⟨h.1, fun l hl => ?_⟩
  have := h.2 l hl
  simp only [wordsB, Bool.and_eq_true, decide_eq_true_eq] at this
  exact ⟨by omega, this.2⟩
theorem len_tot {lot : List (List ByteArray)} {l : List ByteArray} (h : l ∈ lot) : l.length ≤ tot lot := by
  unfold tot
  induction lot with
  | nil => simp at h
  | cons x xs ih =>
    rw [List.map_cons, List.sum_cons]
    rcases List.mem_cons.1 h with rfl | h2
    · omega
    · have := ih h2; omega
noncomputable def masksL (x : Mx) (lot : List (List ByteArray)) : List Mask := lot.map (wallM x)
theorem masksL_len (x : Mx) (lot : List (List ByteArray)) : (masksL x lot).length = lot.length := by unfold masksL; rw [List.length_map]
theorem masksL_take (x : Mx) (lot : List (List ByteArray)) (k : Nat) (h : k < lot.length) : masksL x (lot.take (k + 1)) = masksL x (lot.take k) ++ [wallM x lot[k]] := by
  unfold masksL; rw [List.take_succ_eq_append_getElem h, List.map_append]; rfl
noncomputable def mixLotF (x : Mx) (lot : List (List ByteArray)) : List Mask × Int := if mixB x = true then (if lotB lot = true then (masksL x lot, 0) else ([], 2)) else ([], 1)
theorem mixLot_bad {x : Mx} {lot : List (List ByteArray)} (h : mixB x = false) : mixLotF x lot = ([], 1) := by unfold mixLotF; rw [h]; rfl
theorem mixLot_far {x : Mx} {lot : List (List ByteArray)} (h : mixB x = true) (h2 : lotB lot = false) : mixLotF x lot = ([], 2) := by unfold mixLotF; rw [h, h2]; rfl
theorem mixLot_ok {x : Mx} {lot : List (List ByteArray)} (h : mixB x = true) (h2 : lotB lot = true) : mixLotF x lot = (masksL x lot, 0) := by unfold mixLotF; rw [h, h2]; rfl
theorem mixLot_len (x : Mx) (lot : List (List ByteArray)) : (mixLotF x lot).1.length ≤ 1048576 := by
  unfold mixLotF
  split
  · split
    · rename_i h
      have := (lot_all h).1
      show (masksL x lot).length ≤ _
      rw [masksL_len]; omega
    · simp
  · simp
set_option maxHeartbeats 400000 in
theorem impl_isLot1 (ws : List ByteArray) (A : Option Addr) (n cap : Nat) (hnx : n = ws.length) (w : World) (hR : Rd encStr w A ws) (hn : ws.length ≤ 1048576) (hok : ∀ x ∈ ws, StrIn x) :
    Calls Tryd.prog 77 #[.slice A n cap] w fun e w' => e = .returned (.bool (!wordsB ws 12)) ∧ Ext w w' := by
  subst hnx
  have hcall := fun (W : World) (hE : Ext w W) => impl_areWords ws A cap 12 W (hR.ext hE) hn hok
  generalize wordsB ws 12 = q at hcall
  go_enter Tryd.func77, Tryd.ntmps77
  go_wp2_with fail
  refine Calls.mono (hcall _ (Ext.refl _)) ?_
  rintro e w1 ⟨rfl, hb1⟩
  go_wp2
  go_ret
  exact ⟨rfl, by ((repeat (first | with_reducible exact Ext.refl _ | with_reducible exact hw | with_reducible exact hb9 | with_reducible exact hb8 | with_reducible exact hb7 | with_reducible exact hb6 | with_reducible exact hb5 | with_reducible exact hb4 | with_reducible exact hb3 | with_reducible exact hb2 | with_reducible exact hb1 | with_reducible refine Ext.alloc ?_ _ | with_reducible refine Ext.drew ?_ | ((with_reducible refine Ext.set ?_ ?_ _); focus (dsimp only; omega)) | with_reducible refine Ext.trans ?_ hb9 | with_reducible refine Ext.trans ?_ hb8 | with_reducible refine Ext.trans ?_ hb7 | with_reducible refine Ext.trans ?_ hb6 | with_reducible refine Ext.trans ?_ hb5 | with_reducible refine Ext.trans ?_ hb4 | with_reducible refine Ext.trans ?_ hb3 | with_reducible refine Ext.trans ?_ hb2 | with_reducible refine Ext.trans ?_ hb1 | with_reducible refine Ext.trans ?_ hw)))⟩
set_option maxHeartbeats 400000 in
theorem slices_IndexFunc_isLot (lot : List (List ByteArray)) (A : Option Addr) (n cap : Nat) (w : World) (hnx : n = lot.length) (hR : RdL w A lot) (hn : n ≤ 1048576) (hll : ∀ l ∈ lot, l.length ≤ 1048576) (hok : ∀ l ∈ lot, ∀ x ∈ l, StrIn x) :
    Calls Tryd.prog 100 #[.slice A n cap, .func (.func 77) #[] #[]] w fun e w' => e = .returned (.int .i64 (fidx (fun ws => !wordsB ws 12) lot)) ∧ Ext w w' := by
  subst hnx
  go_enter Tryd.func100, Tryd.ntmps100
  go_wp2
  go_loopg [8] lot.length (fun g i wr => ∃ k : Nat, g = lot.length - k ∧ k ≤ lot.length ∧ i = .int .i64 k ∧ Ext w wr ∧ (lot.take k).any (fun ws => !wordsB ws 12) = false)
  case atStart => exact ⟨0, by omega, by omega, rfl, Ext.refl _, by rw [List.take_zero]; rfl⟩
  case round =>
    obtain ⟨k, hg, hk, rfl, hw, hQ⟩ := hrel
    by_cases hkl : k < lot.length
    · obtain ⟨b, off, rfl, hlt⟩ := hR.block k hkl
      obtain ⟨B, c, m0, hB⟩ := (hR.ext hw).at k hkl
      have l1 := World.block_lt_of_cell? _ _ m0
      dsimp only at l1
      have hcall := fun (W : World) (hE : Ext wr W) => impl_isLot1 lot[k] B _ c rfl W (hB.ext hE) (hll _ (List.getElem_mem hkl)) (hok _ (List.getElem_mem hkl))
      have hs := any_take (fun ws => !wordsB ws 12) lot k hkl
      rw [hQ, Bool.false_or] at hs
      have hit := fun h => hd (fidx_hit (fun ws => !wordsB ws 12) lot k hkl h hQ)
      cases hq : wordsB lot[k] 12 with
      | false =>
        have hM := hit (by rw [hq]; rfl)
        rw [hq] at hcall
        clear hs hQ hit hq
        go_wp2_with fail
        refine Calls.mono (hcall _ (Ext.refl _)) ?_
        rintro e w1 ⟨rfl, hb1⟩
        go_wp2
        go_ret
        exact ⟨by rw [hM.out]; rfl, by ((repeat (first | with_reducible exact Ext.refl _ | with_reducible exact hw | with_reducible exact hb9 | with_reducible exact hb8 | with_reducible exact hb7 | with_reducible exact hb6 | with_reducible exact hb5 | with_reducible exact hb4 | with_reducible exact hb3 | with_reducible exact hb2 | with_reducible exact hb1 | with_reducible refine Ext.alloc ?_ _ | with_reducible refine Ext.drew ?_ | ((with_reducible refine Ext.set ?_ ?_ _); focus (dsimp only; omega)) | with_reducible refine Ext.trans ?_ hb9 | with_reducible refine Ext.trans ?_ hb8 | with_reducible refine Ext.trans ?_ hb7 | with_reducible refine Ext.trans ?_ hb6 | with_reducible refine Ext.trans ?_ hb5 | with_reducible refine Ext.trans ?_ hb4 | with_reducible refine Ext.trans ?_ hb3 | with_reducible refine Ext.trans ?_ hb2 | with_reducible refine Ext.trans ?_ hb1 | with_reducible refine Ext.trans ?_ hw)))⟩
      | true =>
        rw [hq] at hcall hs
        have hs2 := hd hs
        clear hs hQ hit hq
        go_wp2_with fail
        refine Calls.mono (hcall _ (Ext.refl _)) ?_
        rintro e w1 ⟨rfl, hb1⟩
        go_wp2
        go_roundg (lot.length - (k + 1))
        case rel => exact ⟨k + 1, rfl, hkl, by simp, by ((repeat (first | with_reducible exact Ext.refl _ | with_reducible exact hw | with_reducible exact hb9 | with_reducible exact hb8 | with_reducible exact hb7 | with_reducible exact hb6 | with_reducible exact hb5 | with_reducible exact hb4 | with_reducible exact hb3 | with_reducible exact hb2 | with_reducible exact hb1 | with_reducible refine Ext.alloc ?_ _ | with_reducible refine Ext.drew ?_ | ((with_reducible refine Ext.set ?_ ?_ _); focus (dsimp only; omega)) | with_reducible refine Ext.trans ?_ hb9 | with_reducible refine Ext.trans ?_ hb8 | with_reducible refine Ext.trans ?_ hb7 | with_reducible refine Ext.trans ?_ hb6 | with_reducible refine Ext.trans ?_ hb5 | with_reducible refine Ext.trans ?_ hb4 | with_reducible refine Ext.trans ?_ hb3 | with_reducible refine Ext.trans ?_ hb2 | with_reducible refine Ext.trans ?_ hb1 | with_reducible refine Ext.trans ?_ hw))), hs2.out⟩
        case measure => omega
    · obtain rfl : k = lot.length := by omega
      rw [List.take_length] at hQ
      have hM := hd (fidx_none (fun ws => !wordsB ws 12) lot hQ)
      clear hQ
      go_wp2
      go_ret
      exact ⟨by rw [hM.out]; rfl, hw⟩
set_option maxHeartbeats 400000 in
theorem impl_isLot (lot : List (List ByteArray)) (A : Option Addr) (cap : Nat) (w : World) (hR : RdL w A lot) (hn : lot.length ≤ 1048576) (hll : ∀ l ∈ lot, l.length ≤ 1048576) (hok : ∀ l ∈ lot, ∀ x ∈ l, StrIn x) :
    Calls Tryd.prog 46 #[.slice A lot.length cap] w fun e w' => e = .returned (.bool (lotB lot)) ∧ Ext w w' := by
  have hI := fun (W : World) (h : RdL W A lot) => slices_IndexFunc_isLot lot A _ cap W rfl h hn hll hok
  have hv := fidx_ge (fun ws => !wordsB ws 12) lot
  have hm : (!lot.all fun ws => wordsB ws 12) = decide (fidx (fun ws => !wordsB ws 12) lot ≥ 0) := by
    rw [List.not_all_eq_any_not, Bool.eq_iff_iff, decide_eq_true_iff]
    exact hv.symm
  generalize fidx (fun ws => !wordsB ws 12) lot = q at hm hI
  have hC : ∀ W, RdL W A lot → Calls Tryd.prog 76 #[.slice A lot.length cap, .func (.func 77) #[] #[]] W fun e w' => e = .returned (.bool (!lot.all fun ws => wordsB ws 12)) ∧ Ext W w' := by
    intro W h
    rw [hm]
    clear hm hv
    go_enter Tryd.func76, Tryd.ntmps76
    go_wp2_with fail
    refine Calls.mono (hI _ h) ?_
    rintro e w1 ⟨rfl, hb1⟩
    go_wp2
    go_ret
    exact ⟨rfl, hb1⟩
  clear hI hm hv
  have hx : lotB lot = (decide (lot.length ≤ 60) && lot.all fun ws => wordsB ws 12) := rfl
  generalize (lot.all fun ws => wordsB ws 12) = b at hC hx
  by_cases hl : lot.length ≤ 60
  · have hx := hd (show lotB lot = b by rw [hx, decide_eq_true hl, Bool.true_and])
    generalize lotB lot = lb at hx ⊢
    go_enter Tryd.func46, Tryd.ntmps46
    go_wp2_with fail
    refine Calls.mono (hC _ hR) ?_
    rintro e w1 ⟨rfl, hb1⟩
    go_wp2
    go_ret
    exact ⟨by rw [hx.out]; first | rfl | rw [Bool.not_not], by ((repeat (first | with_reducible exact Ext.refl _ | with_reducible exact hw | with_reducible exact hb9 | with_reducible exact hb8 | with_reducible exact hb7 | with_reducible exact hb6 | with_reducible exact hb5 | with_reducible exact hb4 | with_reducible exact hb3 | with_reducible exact hb2 | with_reducible exact hb1 | with_reducible refine Ext.alloc ?_ _ | with_reducible refine Ext.drew ?_ | ((with_reducible refine Ext.set ?_ ?_ _); focus (dsimp only; omega)) | with_reducible refine Ext.trans ?_ hb9 | with_reducible refine Ext.trans ?_ hb8 | with_reducible refine Ext.trans ?_ hb7 | with_reducible refine Ext.trans ?_ hb6 | with_reducible refine Ext.trans ?_ hb5 | with_reducible refine Ext.trans ?_ hb4 | with_reducible refine Ext.trans ?_ hb3 | with_reducible refine Ext.trans ?_ hb2 | with_reducible refine Ext.trans ?_ hb1 | with_reducible refine Ext.trans ?_ hw)))⟩
  · have hx := hd (show lotB lot = false by rw [hx, decide_eq_false hl, Bool.false_and])
    generalize lotB lot = lb at hx ⊢
    go_enter Tryd.func46, Tryd.ntmps46
    go_wp2
    go_ret
    exact ⟨by rw [hx.out]; rfl, by ((repeat (first | with_reducible exact Ext.refl _ | with_reducible exact hw | with_reducible exact hb9 | with_reducible exact hb8 | with_reducible exact hb7 | with_reducible exact hb6 | with_reducible exact hb5 | with_reducible exact hb4 | with_reducible exact hb3 | with_reducible exact hb2 | with_reducible exact hb1 | with_reducible refine Ext.alloc ?_ _ | with_reducible refine Ext.drew ?_ | ((with_reducible refine Ext.set ?_ ?_ _); focus (dsimp only; omega)) | with_reducible refine Ext.trans ?_ hb9 | with_reducible refine Ext.trans ?_ hb8 | with_reducible refine Ext.trans ?_ hb7 | with_reducible refine Ext.trans ?_ hb6 | with_reducible refine Ext.trans ?_ hb5 | with_reducible refine Ext.trans ?_ hb4 | with_reducible refine Ext.trans ?_ hb3 | with_reducible refine Ext.trans ?_ hb2 | with_reducible refine Ext.trans ?_ hb1 | with_reducible refine Ext.trans ?_ hw)))⟩
set_option maxHeartbeats 400000 in
theorem spec_l03Lot (lot : List (List ByteArray)) (A : Option Addr) (cap : Nat) (w : World) (hR : RdL w A lot) (hn : lot.length ≤ 1048576) (hll : ∀ l ∈ lot, l.length ≤ 1048576) (hok : ∀ l ∈ lot, ∀ x ∈ l, StrIn x) :
    Calls Tryd.prog 43 #[.slice A lot.length cap] w fun e w' => e = .returned (.int .i64 (lotF lot)) ∧ Ext w w' := by
  have hx : lotB lot = (decide (lot.length ≤ 60) && lot.all fun ws => wordsB ws 12) := rfl
  have hok1 := lotF_ok (lot := lot)
  have hno := lotF_no (lot := lot)
  generalize lotB lot = lb at hx hok1 hno
  by_cases hl : lot.length ≤ 60
  · rw [decide_eq_true hl, Bool.true_and] at hx
    have hx := hd hx
    go_enter Tryd.func43, Tryd.ntmps43
    go_wp2
    go_loopg [3] lot.length (fun g i wr => ∃ k : Nat, g = lot.length - k ∧ k ≤ lot.length ∧ i = .int .i64 k ∧ Hd ((lot.take k).all (fun ws => wordsB ws 12) = true) ∧ Ext w wr)
    case atStart => exact ⟨0, by omega, by omega, rfl, hd (by rw [List.take_zero]; rfl), Ext.refl _⟩
    case round =>
      obtain ⟨k, hg, hk, rfl, hC, hw⟩ := hrel
      by_cases hkl : k < lot.length
      · obtain ⟨b, off, rfl, hlt⟩ := hR.block k hkl
        obtain ⟨B, c, m0, hB⟩ := (hR.ext hw).at k hkl
        have l1 := World.block_lt_of_cell? _ _ m0
        dsimp only at l1
        have hs := all_take (fun ws => wordsB ws 12) lot k hkl
        rw [hC.out, Bool.true_and] at hs
        have hs := hd hs
        have hmiss := fun h => hd (all_miss (fun ws => wordsB ws 12) lot k hkl h)
        have hcall := fun (W : World) (hE : Ext wr W) => spec_l03Words lot[k] B c 12 W (hB.ext hE) (hll _ (List.getElem_mem hkl)) (hok _ (List.getElem_mem hkl))
        cases hq : wordsB lot[k] 12 with
        | true =>
          rw [wordsF_ok hq] at hcall
          have hs2 := hd (hs.out.trans hq)
          clear hs hmiss hq
          go_wp2_with fail
          refine Calls.mono (hcall _ (Ext.refl _)) ?_
          rintro e w1 ⟨rfl, hb1⟩
          go_wp2
          go_roundg (lot.length - (k + 1))
          case rel => exact ⟨k + 1, rfl, hkl, by simp, hs2, by ((repeat (first | with_reducible exact Ext.refl _ | with_reducible exact hw | with_reducible exact hb9 | with_reducible exact hb8 | with_reducible exact hb7 | with_reducible exact hb6 | with_reducible exact hb5 | with_reducible exact hb4 | with_reducible exact hb3 | with_reducible exact hb2 | with_reducible exact hb1 | with_reducible refine Ext.alloc ?_ _ | with_reducible refine Ext.drew ?_ | ((with_reducible refine Ext.set ?_ ?_ _); focus (dsimp only; omega)) | with_reducible refine Ext.trans ?_ hb9 | with_reducible refine Ext.trans ?_ hb8 | with_reducible refine Ext.trans ?_ hb7 | with_reducible refine Ext.trans ?_ hb6 | with_reducible refine Ext.trans ?_ hb5 | with_reducible refine Ext.trans ?_ hb4 | with_reducible refine Ext.trans ?_ hb3 | with_reducible refine Ext.trans ?_ hb2 | with_reducible refine Ext.trans ?_ hb1 | with_reducible refine Ext.trans ?_ hw)))⟩
          case measure => omega
        | false =>
          rw [wordsF_bad hq] at hcall
          have hv := hd (hno (by rw [hx.out, (hmiss hq).out]))
          clear hs hmiss hq hC hno hok1
          go_wp2_with fail
          refine Calls.mono (hcall _ (Ext.refl _)) ?_
          rintro e w1 ⟨rfl, hb1⟩
          go_wp2
          go_ret
          exact ⟨by rw [hv.out]; rfl, by ((repeat (first | with_reducible exact Ext.refl _ | with_reducible exact hw | with_reducible exact hb9 | with_reducible exact hb8 | with_reducible exact hb7 | with_reducible exact hb6 | with_reducible exact hb5 | with_reducible exact hb4 | with_reducible exact hb3 | with_reducible exact hb2 | with_reducible exact hb1 | with_reducible refine Ext.alloc ?_ _ | with_reducible refine Ext.drew ?_ | ((with_reducible refine Ext.set ?_ ?_ _); focus (dsimp only; omega)) | with_reducible refine Ext.trans ?_ hb9 | with_reducible refine Ext.trans ?_ hb8 | with_reducible refine Ext.trans ?_ hb7 | with_reducible refine Ext.trans ?_ hb6 | with_reducible refine Ext.trans ?_ hb5 | with_reducible refine Ext.trans ?_ hb4 | with_reducible refine Ext.trans ?_ hb3 | with_reducible refine Ext.trans ?_ hb2 | with_reducible refine Ext.trans ?_ hb1 | with_reducible refine Ext.trans ?_ hw)))⟩
      · obtain rfl : k = lot.length := by omega
        have hC2 := hC.out
        rw [List.take_length] at hC2
        have hv := hd (hok1 (by rw [hx.out, hC2]))
        clear hC hC2 hno hok1
        go_wp2
        go_ret
        exact ⟨by rw [hv.out]; rfl, hw⟩
  · rw [decide_eq_false hl, Bool.false_and] at hx
    have hv := hd (hno hx)
    clear hx hno hok1
    go_enter Tryd.func43, Tryd.ntmps43
    go_wp2
    go_ret
    exact ⟨by rw [hv.out]; rfl, Ext.refl _⟩
set_option maxHeartbeats 1000000 in
theorem spec_l03Masks (x : Mx) (hmx : mixB x = true) (lot : List (List ByteArray)) (A : Option Addr) (cap : Nat) (b0 o0 : Nat) (w : World) (hM : MixAt w b0 o0 x) (hR : RdL w A lot) (hn : lot.length ≤ 1048576) (hll : ∀ l ∈ lot, l.length ≤ 1048576) (hok : ∀ l ∈ lot, ∀ x ∈ l, StrIn x) :
    Calls Tryd.prog 44 #[.pointer (some ⟨b0, o0, none⟩), .slice A lot.length cap] w fun e w' => ∃ v, e = .returned v ∧ Ow encMask 53 w' w.heap.size v (masksL x lot) ∧ Ext w w' := by
  have htk := fun k (h : k < lot.length) => masksL_take x lot k h
  have hz : masksL x (lot.take 0) = [] := by rw [List.take_zero]; rfl
  have hall : masksL x (lot.take lot.length) = masksL x lot := by rw [List.take_length]
  have hlt := fun k => (by have := masksL_len x (lot.take k); rw [List.length_take] at this; omega : (masksL x (lot.take k)).length ≤ k)
  have hcall0 := fun k (h : k < lot.length) (B : Option Addr) (c : Nat) (W : World) (hE : Ext w W) (hB : Rd encStr W B lot[k]) => spec_l03All x hmx lot[k] B c b0 o0 W (hM.ext hE) hB (hll _ (List.getElem_mem h)) (hok _ (List.getElem_mem h))
  generalize masksL x lot = r at hall ⊢
  go_enter Tryd.func44, Tryd.ntmps44
  go_wp2
  go_loopg [5, 6] lot.length (fun g v i wr => ∃ k : Nat, g = lot.length - k ∧ k ≤ lot.length ∧ i = .int .i64 k ∧ Ext w wr ∧ Ow encMask 53 wr w.heap.size v (masksL x (lot.take k)))
  case atStart => exact ⟨0, by omega, by omega, rfl, (Ext.refl _).alloc _, by rw [hz]; exact Ow.made0 rfl (Nat.le_refl _)⟩
  case round =>
    obtain ⟨k, hg, hk, rfl, hw, hO⟩ := hrel
    by_cases hkl : k < lot.length
    · obtain ⟨b, off, rfl, hlt1⟩ := hR.block k hkl
      obtain ⟨B, c, m0, hB⟩ := (hR.ext hw).at k hkl
      have l1 := World.block_lt_of_cell? _ _ m0
      dsimp only at l1
      have hl := hlt k
      have hsu := hd (htk k hkl)
      have hcall := hcall0 k hkl B c wr hw hB
      generalize wallM x lot[k] = q at hcall hsu
      generalize masksL x (lot.take k) = ys at hO hl hsu
      go_wp2_with fail
      refine Calls.mono hcall ?_
      rintro e w2 ⟨rfl, hb2⟩
      have hO2 := hO.ext hb2
      have hw2 := hw.trans hb2
      clear hO hb2 hcall
      go_wp2_with (at_builtin; refine wpList_push2 (w0 := w) (base := w.heap.size) (xs := ys) encMask (by rfl) _ _ 27 (.agg #[.int .u64 0, .int .u64 0]) 16 (by rfl) Tryd.underlying27 info_Mask (by rfl) (q) (by rfl) (by rfl) (by simp) (hO2) ((hw2 : Ext w _).size) (Nat.le_refl _) (hw2) (by omega) (by omega) ?_)
      intro v3 w3 hO3 hb3 hg3 ho3
      go_wp2
      go_roundg (lot.length - (k + 1))
      case rel => exact ⟨k + 1, rfl, hkl, by simp, hb3, by rw [hsu.out]; exact hO3⟩
      case measure => omega
    · obtain rfl : k = lot.length := by omega
      rw [hall] at hO
      go_wp2
      go_ret
      exact ⟨_, rfl, hO, hw⟩
set_option maxHeartbeats 1000000 in
theorem spec_MixLot (x : Mx) (hxi : MxIn x) (lot : List (List ByteArray)) (A : Option Addr) (cap : Nat) (w : World) (hR : RdL w A lot) (hn : lot.length ≤ 1048576) (hll : ∀ l ∈ lot, l.length ≤ 1048576) (hok : ∀ l ∈ lot, ∀ x ∈ l, StrIn x) :
    Calls Tryd.prog 11 #[.agg #[.int .i16 x.st, .int .i16 x.sz, .int .i16 x.per], .slice A lot.length cap] w fun e w' => ∃ v, e = .returned (.tuple #[v, .int .i64 (mixLotF x lot).2]) ∧ Ow encMask 53 w' w.heap.size v (mixLotF x lot).1 ∧ Ext w w' := by
  have hM0 : ∀ W, BoxAt W w.heap.size #[.int .i16 x.st, .int .i16 x.sz, .int .i16 x.per] 30 → MixAt W w.heap.size 0 x := fun W h => ⟨h.cell 0, h.cell 1, h.cell 2⟩
  have h1 := fun (W : World) (h : MixAt W w.heap.size 0 x) => spec_l03Ok x hxi w.heap.size 0 W h
  have h2 := fun (W : World) (hE : Ext w W) => spec_l03Lot lot A cap W (hR.ext hE) hn hll hok
  have h3 := fun (hq : mixB x = true) (W : World) (h : MixAt W w.heap.size 0 x) (hE : Ext w W) => spec_l03Masks x hq lot A cap w.heap.size 0 W h (hR.ext hE) hn hll hok
  have k1 := mixLot_bad (x := x) (lot := lot)
  have k2 := mixLot_far (x := x) (lot := lot)
  have k3 := mixLot_ok (x := x) (lot := lot)
  have hX0 : BoxAt (w.alloc (.cells #[.int .i16 x.st, .int .i16 x.sz, .int .i16 x.per] 30)) w.heap.size #[.int .i16 x.st, .int .i16 x.sz, .int .i16 x.per] 30 := BoxAt.new' rfl
  cases hq : mixB x with
  | false =>
    have hv := hd (k1 hq)
    rw [hq] at h1
    clear k1 k2 k3 h3
    go_enter Tryd.func11, Tryd.ntmps11
    go_wp2_with fail
    refine Calls.mono (h1 _ (hM0 _ hX0)) ?_
    rintro e w1 ⟨rfl, hb1⟩
    have hw1 : Ext w w1 := ((Ext.refl _).alloc _).trans hb1
    go_wp2
    refine bodyPost_ret (v := .tuple #[.slice (some ⟨w1.heap.size, 0, none⟩) 0 0, .int .i64 1]) (by simp [results, Tryd.results11, go_sem]) rfl ⟨_, by rw [hv.out], by rw [hv.out]; exact Ow.made0 rfl hw1.size, hw1.alloc _⟩
  | true =>
    rw [hq] at h1
    have h3 := h3 hq
    cases hl : lotB lot with
    | false =>
      have hv := hd (k2 hq hl)
      rw [lotF_no hl] at h2
      clear k1 k2 k3 h3
      go_enter Tryd.func11, Tryd.ntmps11
      go_wp2_with fail
      refine Calls.mono (h1 _ (hM0 _ hX0)) ?_
      rintro e w1 ⟨rfl, hb1⟩
      have hw1 : Ext w w1 := ((Ext.refl _).alloc _).trans hb1
      go_wp2_with fail
      refine Calls.mono (h2 _ hw1) ?_
      rintro e w2 ⟨rfl, hb2⟩
      have hw2 := hw1.trans hb2
      go_wp2
      refine bodyPost_ret (v := .tuple #[.slice (some ⟨w2.heap.size, 0, none⟩) 0 0, .int .i64 2]) (by simp [results, Tryd.results11, go_sem]) rfl ⟨_, by rw [hv.out], by rw [hv.out]; exact Ow.made0 rfl hw2.size, hw2.alloc _⟩
    | true =>
      have hv := hd (k3 hq hl)
      rw [lotF_ok hl] at h2
      clear k1 k2 k3
      go_enter Tryd.func11, Tryd.ntmps11
      go_wp2_with fail
      refine Calls.mono (h1 _ (hM0 _ hX0)) ?_
      rintro e w1 ⟨rfl, hb1⟩
      have hX := hX0.ext hb1
      have hw1 : Ext w w1 := ((Ext.refl _).alloc _).trans hb1
      go_wp2_with fail
      refine Calls.mono (h2 _ hw1) ?_
      rintro e w2 ⟨rfl, hb2⟩
      have hw2 := hw1.trans hb2
      have hX := hX.ext hb2
      go_wp2_with fail
      refine Calls.mono (h3 _ (hM0 _ hX) hw2) ?_
      rintro e w3 ⟨v3, rfl, hO3, hb3⟩
      go_wp2
      refine bodyPost_ret (v := .tuple #[v3, .int .i64 0]) (by simp [results, Tryd.results11, go_sem]) rfl ⟨_, by rw [hv.out], by rw [hv.out]; exact hO3.lower hw2.size, hw2.trans hb3⟩
set_option maxHeartbeats 1000000 in
theorem impl_MixLot (x : Mx) (hxi : MxIn x) (lot : List (List ByteArray)) (A : Option Addr) (cap : Nat) (w : World) (hR : RdL w A lot) (hn : lot.length ≤ 1048576) (hll : ∀ l ∈ lot, l.length ≤ 1048576) (hok : ∀ l ∈ lot, ∀ x ∈ l, StrIn x) :
    Calls Tryd.prog 14 #[.agg #[.int .i16 x.st, .int .i16 x.sz, .int .i16 x.per], .slice A lot.length cap] w fun e w' => ∃ v, e = .returned (.tuple #[v, .int .i64 (mixLotF x lot).2]) ∧ Ow encMask 53 w' w.heap.size v (mixLotF x lot).1 ∧ Ext w w' := by
  have h1 := fun (W : World) => impl_isMix x hxi W
  have h2 := fun (W : World) (hE : Ext w W) => impl_isLot lot A cap W (hR.ext hE) hn hll hok
  have h3 := fun (hq : mixB x = true) k (h : k < lot.length) (B : Option Addr) (c : Nat) (W : World) (hB : Rd encStr W B lot[k]) => impl_holesOf x hq lot[k] B c W hB (hll _ (List.getElem_mem h)) (hok _ (List.getElem_mem h))
  have k1 := mixLot_bad (x := x) (lot := lot)
  have k2 := mixLot_far (x := x) (lot := lot)
  have k3 := mixLot_ok (x := x) (lot := lot)
  have htk := fun k (h : k < lot.length) => masksL_take x lot k h
  have hz : masksL x (lot.take 0) = [] := by rw [List.take_zero]; rfl
  have hall : masksL x (lot.take lot.length) = masksL x lot := by rw [List.take_length]
  have hlt := fun k => (by have := masksL_len x (lot.take k); rw [List.length_take] at this; omega : (masksL x (lot.take k)).length ≤ k)
  obtain ⟨st, sz, per⟩ := x
  dsimp only at h1 h3
  generalize mixB ⟨st, sz, per⟩ = p at h1 h3 k1 k2 k3
  generalize lotB lot = q at h2 k2 k3
  cases p with
  | false =>
    have hv := hd (k1 rfl)
    clear k1 k2 k3 h3
    go_enter Tryd.func14, Tryd.ntmps14
    go_wp2_with fail
    refine Calls.mono (h1 _) ?_
    rintro e w1 ⟨rfl, hb1⟩
    have hw1 : Ext w w1 := ((Ext.refl _).alloc _).trans hb1
    go_wp2
    refine bodyPost_ret (v := .tuple #[.slice none 0 0, .int .i64 1]) (by simp [results, Tryd.results14, go_sem]) rfl ⟨_, by rw [hv.out], by rw [hv.out]; exact Ow.nil _ _ _ _, hw1⟩
  | true =>
    cases q with
    | false =>
      have hv := hd (k2 rfl rfl)
      clear k1 k2 k3 h3
      go_enter Tryd.func14, Tryd.ntmps14
      go_wp2_with fail
      refine Calls.mono (h1 _) ?_
      rintro e w1 ⟨rfl, hb1⟩
      have hw1 : Ext w w1 := ((Ext.refl _).alloc _).trans hb1
      go_wp2_with fail
      refine Calls.mono (h2 _ hw1) ?_
      rintro e w2 ⟨rfl, hb2⟩
      go_wp2
      refine bodyPost_ret (v := .tuple #[.slice none 0 0, .int .i64 2]) (by simp [results, Tryd.results14, go_sem]) rfl ⟨_, by rw [hv.out], by rw [hv.out]; exact Ow.nil _ _ _ _, hw1.trans hb2⟩
    | true =>
      have hv := hd (k3 rfl rfl)
      replace h3 := h3 rfl
      clear k1 k2 k3
      generalize masksL ⟨st, sz, per⟩ lot = r at hall hv
      go_enter Tryd.func14, Tryd.ntmps14
      go_wp2_with fail
      refine Calls.mono (h1 _) ?_
      rintro e w1 ⟨rfl, hb1⟩
      have hX : BoxAt w1 w.heap.size #[.int .i16 st, .int .i16 sz, .int .i16 per] 30 := (BoxAt.new' rfl).ext hb1
      have hw1 : Ext w w1 := ((Ext.refl _).alloc _).trans hb1
      go_wp2_with fail
      refine Calls.mono (h2 _ hw1) ?_
      rintro e w2 ⟨rfl, hb2⟩
      have hw2 := hw1.trans hb2
      have hX := hX.ext hb2
      clear hb1 hb2 hw1
      go_wp2
      go_loopg [6, 18] lot.length (fun g v i wr => ∃ k : Nat, g = lot.length - k ∧ k ≤ lot.length ∧ i = .int .i64 k ∧ Ext w2 wr ∧ Ow encMask 53 wr w2.heap.size v (masksL ⟨st, sz, per⟩ (lot.take k)))
      case atStart => exact ⟨0, by omega, by omega, rfl, (Ext.refl _).alloc _, by rw [hz]; exact Ow.made0 rfl (Nat.le_refl _)⟩
      case round =>
        obtain ⟨k, hg, hk, rfl, hw, hO⟩ := hrel
        by_cases hkl : k < lot.length
        · obtain ⟨b, off, rfl, hlt1⟩ := hR.block k hkl
          obtain ⟨B, c, m0, hB⟩ := ((hR.ext hw2).ext hw).at k hkl
          have l1 := World.block_lt_of_cell? _ _ m0
          dsimp only at l1
          have hX := hX.ext hw
          have x0 : wr.cell? ⟨w.heap.size, 0, none⟩ = some (.int .i16 st) := hX.cell 0
          have x1 : wr.cell? ⟨w.heap.size, 1, none⟩ = some (.int .i16 sz) := hX.cell 1
          have x2 : wr.cell? ⟨w.heap.size, 2, none⟩ = some (.int .i16 per) := hX.cell 2
          have lX := hX.lt
          have hl := hlt k
          have hsu := hd (htk k hkl)
          have hcall := h3 k hkl B c wr hB
          generalize wallM ⟨st, sz, per⟩ lot[k] = q at hcall hsu
          generalize masksL ⟨st, sz, per⟩ (lot.take k) = ys at hO hl hsu
          go_wp2_with fail
          refine Calls.mono hcall ?_
          rintro e w3 ⟨rfl, hb3⟩
          have hO3 := hO.ext hb3
          have hw3 := hw.trans hb3
          clear hO hb3 hcall x0 x1 x2 lX
          go_wp2_with (at_builtin; refine wpList_push2 (w0 := w2) (base := w2.heap.size) (xs := ys) encMask (by rfl) _ _ 27 (.agg #[.int .u64 0, .int .u64 0]) 16 (by rfl) Tryd.underlying27 info_Mask (by rfl) (q) (by rfl) (by rfl) (by simp) (hO3) ((hw3 : Ext w2 _).size) (Nat.le_refl _) (hw3) (by omega) (by omega) ?_)
          intro v4 w4 hO4 hb4 hg4 ho4
          go_wp2
          go_roundg (lot.length - (k + 1))
          case rel => exact ⟨k + 1, rfl, hkl, by simp, hb4, by rw [hsu.out]; exact hO4⟩
          case measure => omega
        · obtain rfl : k = lot.length := by omega
          rw [hall] at hO
          go_wp2
          refine bodyPost_ret (v := .tuple #[_, .int .i64 0]) (by simp [results, Tryd.results14, go_sem]; rfl) rfl ⟨_, by rw [hv.out], by rw [hv.out]; exact hO.lower hw2.size, hw2.trans hw⟩
end Go.Proofs.YtbmompanhigmnaaDoor
