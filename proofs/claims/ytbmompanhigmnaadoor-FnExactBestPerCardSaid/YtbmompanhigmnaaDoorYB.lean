/-
  YB: the texts Y1 Y2 Y3 Y4 Y5 Y6 in one (written by merge.py).
-/
import Derived.Test.YtbmompanhigmnaaDoorX6
import Derived.Test.YtbmompanhigmnaaDoorNS
import Derived.Test.YtbmompanhigmnaaDoorShelf
import Derived.Test.YtbmompanhigmnaaDoorL9
import Derived.Lib.OwnBridge
import Derived.Lib.RowBridge
set_option linter.unusedVariables false
set_option linter.unusedSimpArgs false
set_option maxRecDepth 100000
namespace Go.Proofs.YtbmompanhigmnaaDoor
open Go.RowKit
/-- Are there a few lists of a few words? -/
def lotB (lot : List (List ByteArray)) : Bool := decide (lot.length ≤ 60) && lot.all fun ws => wordsB ws 12
def lotF (lot : List (List ByteArray)) : Int := if lotB lot = true then 0 else 2
theorem lotF_ok {lot : List (List ByteArray)} (h : lotB lot = true) : lotF lot = 0 := by unfold lotF; rw [if_pos h]
theorem lotF_no {lot : List (List ByteArray)} (h : lotB lot = false) : lotF lot = 2 := by unfold lotF; rw [h]; rfl
theorem lot_all {lot : List (List ByteArray)} (h : lotB lot = true) : lot.length ≤ 60 ∧ ∀ l ∈ lot, l.length ≤ 12 ∧ l.all isNameB = true := by
  simp only [lotB, Bool.and_eq_true, decide_eq_true_eq, List.all_eq_true] at h
  refine ⟨h.1, fun l hl => ?_⟩
  have := h.2 l hl
  simp only [wordsB, Bool.and_eq_true, decide_eq_true_eq] at this
  exact ⟨by omega, this.2⟩
theorem len_tot {lot : List (List ByteArray)} {l : List ByteArray} (h : l ∈ lot) : l.length ≤ tot lot := by
  unfold tot
  induction lot with
  | nil => simp at h
  | cons x xs ih =>
    rw [List.map_cons, List.sum_cons]
    rcases List.mem_cons.1 h with rfl | h2
    · omega
    · have := ih h2; omega
noncomputable def masksL (x : Mx) (lot : List (List ByteArray)) : List Mask := lot.map (wallM x)
theorem masksL_len (x : Mx) (lot : List (List ByteArray)) : (masksL x lot).length = lot.length := by unfold masksL; rw [List.length_map]
theorem masksL_take (x : Mx) (lot : List (List ByteArray)) (k : Nat) (h : k < lot.length) : masksL x (lot.take (k + 1)) = masksL x (lot.take k) ++ [wallM x lot[k]] := by
  unfold masksL; rw [List.take_succ_eq_append_getElem h, List.map_append]; rfl
noncomputable def mixLotF (x : Mx) (lot : List (List ByteArray)) : List Mask × Int := if mixB x = true then (if lotB lot = true then (masksL x lot, 0) else ([], 2)) else ([], 1)
theorem mixLot_bad {x : Mx} {lot : List (List ByteArray)} (h : mixB x = false) : mixLotF x lot = ([], 1) := by unfold mixLotF; rw [h]; rfl
theorem mixLot_far {x : Mx} {lot : List (List ByteArray)} (h : mixB x = true) (h2 : lotB lot = false) : mixLotF x lot = ([], 2) := by unfold mixLotF; rw [h, h2]; rfl
theorem mixLot_ok {x : Mx} {lot : List (List ByteArray)} (h : mixB x = true) (h2 : lotB lot = true) : mixLotF x lot = (masksL x lot, 0) := by unfold mixLotF; rw [h, h2]; rfl
theorem mixLot_len (x : Mx) (lot : List (List ByteArray)) : (mixLotF x lot).1.length ≤ 1048576 := by
  unfold mixLotF
  split
  · split
    · rename_i h
      have := (lot_all h).1
      show (masksL x lot).length ≤ _
      rw [masksL_len]; omega
    · simp
  · simp
set_option maxHeartbeats 400000 in
theorem impl_isLot1 (ws : List ByteArray) (A : Option Addr) (n cap : Nat) (hnx : n = ws.length) (w : World) (hR : Rd encStr w A ws) (hn : ws.length ≤ 1048576) (hok : ∀ x ∈ ws, StrIn x) :
    Calls Tryd.prog 77 #[.slice A n cap] w fun e w' => e = .returned (.bool (!wordsB ws 12)) ∧ Ext w w' := by
  subst hnx
  have hcall := fun (W : World) (hE : Ext w W) => impl_areWords ws A cap 12 W (hR.ext hE) hn hok
  generalize wordsB ws 12 = q at hcall
  go_enter Tryd.func77, Tryd.ntmps77
  go_wp2_with fail
  refine Calls.mono (hcall _ (Ext.refl _)) ?_
  rintro e w1 ⟨rfl, hb1⟩
  go_wp2
  go_ret
  exact ⟨rfl, by ((repeat (first | with_reducible exact Ext.refl _ | with_reducible exact hw | with_reducible exact hb9 | with_reducible exact hb8 | with_reducible exact hb7 | with_reducible exact hb6 | with_reducible exact hb5 | with_reducible exact hb4 | with_reducible exact hb3 | with_reducible exact hb2 | with_reducible exact hb1 | with_reducible refine Ext.alloc ?_ _ | with_reducible refine Ext.drew ?_ | ((with_reducible refine Ext.set ?_ ?_ _); focus (dsimp only; omega)) | with_reducible refine Ext.trans ?_ hb9 | with_reducible refine Ext.trans ?_ hb8 | with_reducible refine Ext.trans ?_ hb7 | with_reducible refine Ext.trans ?_ hb6 | with_reducible refine Ext.trans ?_ hb5 | with_reducible refine Ext.trans ?_ hb4 | with_reducible refine Ext.trans ?_ hb3 | with_reducible refine Ext.trans ?_ hb2 | with_reducible refine Ext.trans ?_ hb1 | with_reducible refine Ext.trans ?_ hw)))⟩
set_option maxHeartbeats 400000 in
theorem slices_IndexFunc_isLot (lot : List (List ByteArray)) (A : Option Addr) (n cap : Nat) (w : World) (hnx : n = lot.length) (hR : RdL w A lot) (hn : n ≤ 1048576) (hll : ∀ l ∈ lot, l.length ≤ 1048576) (hok : ∀ l ∈ lot, ∀ x ∈ l, StrIn x) :
    Calls Tryd.prog 100 #[.slice A n cap, .func (.func 77) #[] #[]] w fun e w' => e = .returned (.int .i64 (fidx (fun ws => !wordsB ws 12) lot)) ∧ Ext w w' := by
  subst hnx
  go_enter Tryd.func100, Tryd.ntmps100
  go_wp2
  go_loopg [8] lot.length (fun g i wr => ∃ k : Nat, g = lot.length - k ∧ k ≤ lot.length ∧ i = .int .i64 k ∧ Ext w wr ∧ (lot.take k).any (fun ws => !wordsB ws 12) = false)
  case atStart => exact ⟨0, by omega, by omega, rfl, Ext.refl _, by rw [List.take_zero]; rfl⟩
  case round =>
    obtain ⟨k, hg, hk, rfl, hw, hQ⟩ := hrel
    by_cases hkl : k < lot.length
    · obtain ⟨b, off, rfl, hlt⟩ := hR.block k hkl
      obtain ⟨B, c, m0, hB⟩ := (hR.ext hw).at k hkl
      have l1 := World.block_lt_of_cell? _ _ m0
      dsimp only at l1
      have hcall := fun (W : World) (hE : Ext wr W) => impl_isLot1 lot[k] B _ c rfl W (hB.ext hE) (hll _ (List.getElem_mem hkl)) (hok _ (List.getElem_mem hkl))
      have hs := any_take (fun ws => !wordsB ws 12) lot k hkl
      rw [hQ, Bool.false_or] at hs
      have hit := fun h => hd (fidx_hit (fun ws => !wordsB ws 12) lot k hkl h hQ)
      cases hq : wordsB lot[k] 12 with
      | false =>
        have hM := hit (by rw [hq]; rfl)
        rw [hq] at hcall
        clear hs hQ hit hq
        go_wp2_with fail
        refine Calls.mono (hcall _ (Ext.refl _)) ?_
        rintro e w1 ⟨rfl, hb1⟩
        go_wp2
        go_ret
        exact ⟨by rw [hM.out]; rfl, by ((repeat (first | with_reducible exact Ext.refl _ | with_reducible exact hw | with_reducible exact hb9 | with_reducible exact hb8 | with_reducible exact hb7 | with_reducible exact hb6 | with_reducible exact hb5 | with_reducible exact hb4 | with_reducible exact hb3 | with_reducible exact hb2 | with_reducible exact hb1 | with_reducible refine Ext.alloc ?_ _ | with_reducible refine Ext.drew ?_ | ((with_reducible refine Ext.set ?_ ?_ _); focus (dsimp only; omega)) | with_reducible refine Ext.trans ?_ hb9 | with_reducible refine Ext.trans ?_ hb8 | with_reducible refine Ext.trans ?_ hb7 | with_reducible refine Ext.trans ?_ hb6 | with_reducible refine Ext.trans ?_ hb5 | with_reducible refine Ext.trans ?_ hb4 | with_reducible refine Ext.trans ?_ hb3 | with_reducible refine Ext.trans ?_ hb2 | with_reducible refine Ext.trans ?_ hb1 | with_reducible refine Ext.trans ?_ hw)))⟩
      | true =>
        rw [hq] at hcall hs
        have hs2 := hd hs
        clear hs hQ hit hq
        go_wp2_with fail
        refine Calls.mono (hcall _ (Ext.refl _)) ?_
        rintro e w1 ⟨rfl, hb1⟩
        go_wp2
        go_roundg (lot.length - (k + 1))
        case rel => exact ⟨k + 1, rfl, hkl, by simp, by ((repeat (first | with_reducible exact Ext.refl _ | with_reducible exact hw | with_reducible exact hb9 | with_reducible exact hb8 | with_reducible exact hb7 | with_reducible exact hb6 | with_reducible exact hb5 | with_reducible exact hb4 | with_reducible exact hb3 | with_reducible exact hb2 | with_reducible exact hb1 | with_reducible refine Ext.alloc ?_ _ | with_reducible refine Ext.drew ?_ | ((with_reducible refine Ext.set ?_ ?_ _); focus (dsimp only; omega)) | with_reducible refine Ext.trans ?_ hb9 | with_reducible refine Ext.trans ?_ hb8 | with_reducible refine Ext.trans ?_ hb7 | with_reducible refine Ext.trans ?_ hb6 | with_reducible refine Ext.trans ?_ hb5 | with_reducible refine Ext.trans ?_ hb4 | with_reducible refine Ext.trans ?_ hb3 | with_reducible refine Ext.trans ?_ hb2 | with_reducible refine Ext.trans ?_ hb1 | with_reducible refine Ext.trans ?_ hw))), hs2.out⟩
        case measure => omega
    · obtain rfl : k = lot.length := by omega
      rw [List.take_length] at hQ
      have hM := hd (fidx_none (fun ws => !wordsB ws 12) lot hQ)
      clear hQ
      go_wp2
      go_ret
      exact ⟨by rw [hM.out]; rfl, hw⟩
set_option maxHeartbeats 400000 in
theorem impl_isLot (lot : List (List ByteArray)) (A : Option Addr) (cap : Nat) (w : World) (hR : RdL w A lot) (hn : lot.length ≤ 1048576) (hll : ∀ l ∈ lot, l.length ≤ 1048576) (hok : ∀ l ∈ lot, ∀ x ∈ l, StrIn x) :
    Calls Tryd.prog 46 #[.slice A lot.length cap] w fun e w' => e = .returned (.bool (lotB lot)) ∧ Ext w w' := by
  have hI := fun (W : World) (h : RdL W A lot) => slices_IndexFunc_isLot lot A _ cap W rfl h hn hll hok
  have hv := fidx_ge (fun ws => !wordsB ws 12) lot
  have hm : (!lot.all fun ws => wordsB ws 12) = decide (fidx (fun ws => !wordsB ws 12) lot ≥ 0) := by
    rw [List.not_all_eq_any_not, Bool.eq_iff_iff, decide_eq_true_iff]
    exact hv.symm
  generalize fidx (fun ws => !wordsB ws 12) lot = q at hm hI
  have hC : ∀ W, RdL W A lot → Calls Tryd.prog 76 #[.slice A lot.length cap, .func (.func 77) #[] #[]] W fun e w' => e = .returned (.bool (!lot.all fun ws => wordsB ws 12)) ∧ Ext W w' := by
    intro W h
    rw [hm]
    clear hm hv
    go_enter Tryd.func76, Tryd.ntmps76
    go_wp2_with fail
    refine Calls.mono (hI _ h) ?_
    rintro e w1 ⟨rfl, hb1⟩
    go_wp2
    go_ret
    exact ⟨rfl, hb1⟩
  clear hI hm hv
  have hx : lotB lot = (decide (lot.length ≤ 60) && lot.all fun ws => wordsB ws 12) := rfl
  generalize (lot.all fun ws => wordsB ws 12) = b at hC hx
  by_cases hl : lot.length ≤ 60
  · have hx := hd (show lotB lot = b by rw [hx, decide_eq_true hl, Bool.true_and])
    generalize lotB lot = lb at hx ⊢
    go_enter Tryd.func46, Tryd.ntmps46
    go_wp2_with fail
    refine Calls.mono (hC _ hR) ?_
    rintro e w1 ⟨rfl, hb1⟩
    go_wp2
    go_ret
    exact ⟨by rw [hx.out]; first | rfl | rw [Bool.not_not], by ((repeat (first | with_reducible exact Ext.refl _ | with_reducible exact hw | with_reducible exact hb9 | with_reducible exact hb8 | with_reducible exact hb7 | with_reducible exact hb6 | with_reducible exact hb5 | with_reducible exact hb4 | with_reducible exact hb3 | with_reducible exact hb2 | with_reducible exact hb1 | with_reducible refine Ext.alloc ?_ _ | with_reducible refine Ext.drew ?_ | ((with_reducible refine Ext.set ?_ ?_ _); focus (dsimp only; omega)) | with_reducible refine Ext.trans ?_ hb9 | with_reducible refine Ext.trans ?_ hb8 | with_reducible refine Ext.trans ?_ hb7 | with_reducible refine Ext.trans ?_ hb6 | with_reducible refine Ext.trans ?_ hb5 | with_reducible refine Ext.trans ?_ hb4 | with_reducible refine Ext.trans ?_ hb3 | with_reducible refine Ext.trans ?_ hb2 | with_reducible refine Ext.trans ?_ hb1 | with_reducible refine Ext.trans ?_ hw)))⟩
  · have hx := hd (show lotB lot = false by rw [hx, decide_eq_false hl, Bool.false_and])
    generalize lotB lot = lb at hx ⊢
    go_enter Tryd.func46, Tryd.ntmps46
    go_wp2
    go_ret
    exact ⟨by rw [hx.out]; rfl, by ((repeat (first | with_reducible exact Ext.refl _ | with_reducible exact hw | with_reducible exact hb9 | with_reducible exact hb8 | with_reducible exact hb7 | with_reducible exact hb6 | with_reducible exact hb5 | with_reducible exact hb4 | with_reducible exact hb3 | with_reducible exact hb2 | with_reducible exact hb1 | with_reducible refine Ext.alloc ?_ _ | with_reducible refine Ext.drew ?_ | ((with_reducible refine Ext.set ?_ ?_ _); focus (dsimp only; omega)) | with_reducible refine Ext.trans ?_ hb9 | with_reducible refine Ext.trans ?_ hb8 | with_reducible refine Ext.trans ?_ hb7 | with_reducible refine Ext.trans ?_ hb6 | with_reducible refine Ext.trans ?_ hb5 | with_reducible refine Ext.trans ?_ hb4 | with_reducible refine Ext.trans ?_ hb3 | with_reducible refine Ext.trans ?_ hb2 | with_reducible refine Ext.trans ?_ hb1 | with_reducible refine Ext.trans ?_ hw)))⟩
set_option maxHeartbeats 400000 in
theorem spec_l03Lot (lot : List (List ByteArray)) (A : Option Addr) (cap : Nat) (w : World) (hR : RdL w A lot) (hn : lot.length ≤ 1048576) (hll : ∀ l ∈ lot, l.length ≤ 1048576) (hok : ∀ l ∈ lot, ∀ x ∈ l, StrIn x) :
    Calls Tryd.prog 43 #[.slice A lot.length cap] w fun e w' => e = .returned (.int .i64 (lotF lot)) ∧ Ext w w' := by
  have hx : lotB lot = (decide (lot.length ≤ 60) && lot.all fun ws => wordsB ws 12) := rfl
  have hok1 := lotF_ok (lot := lot)
  have hno := lotF_no (lot := lot)
  generalize lotB lot = lb at hx hok1 hno
  by_cases hl : lot.length ≤ 60
  · rw [decide_eq_true hl, Bool.true_and] at hx
    have hx := hd hx
    go_enter Tryd.func43, Tryd.ntmps43
    go_wp2
    go_loopg [3] lot.length (fun g i wr => ∃ k : Nat, g = lot.length - k ∧ k ≤ lot.length ∧ i = .int .i64 k ∧ Hd ((lot.take k).all (fun ws => wordsB ws 12) = true) ∧ Ext w wr)
    case atStart => exact ⟨0, by omega, by omega, rfl, hd (by rw [List.take_zero]; rfl), Ext.refl _⟩
    case round =>
      obtain ⟨k, hg, hk, rfl, hC, hw⟩ := hrel
      by_cases hkl : k < lot.length
      · obtain ⟨b, off, rfl, hlt⟩ := hR.block k hkl
        obtain ⟨B, c, m0, hB⟩ := (hR.ext hw).at k hkl
        have l1 := World.block_lt_of_cell? _ _ m0
        dsimp only at l1
        have hs := all_take (fun ws => wordsB ws 12) lot k hkl
        rw [hC.out, Bool.true_and] at hs
        have hs := hd hs
        have hmiss := fun h => hd (all_miss (fun ws => wordsB ws 12) lot k hkl h)
        have hcall := fun (W : World) (hE : Ext wr W) => spec_l03Words lot[k] B c 12 W (hB.ext hE) (hll _ (List.getElem_mem hkl)) (hok _ (List.getElem_mem hkl))
        cases hq : wordsB lot[k] 12 with
        | true =>
          rw [wordsF_ok hq] at hcall
          have hs2 := hd (hs.out.trans hq)
          clear hs hmiss hq
          go_wp2_with fail
          refine Calls.mono (hcall _ (Ext.refl _)) ?_
          rintro e w1 ⟨rfl, hb1⟩
          go_wp2
          go_roundg (lot.length - (k + 1))
          case rel => exact ⟨k + 1, rfl, hkl, by simp, hs2, by ((repeat (first | with_reducible exact Ext.refl _ | with_reducible exact hw | with_reducible exact hb9 | with_reducible exact hb8 | with_reducible exact hb7 | with_reducible exact hb6 | with_reducible exact hb5 | with_reducible exact hb4 | with_reducible exact hb3 | with_reducible exact hb2 | with_reducible exact hb1 | with_reducible refine Ext.alloc ?_ _ | with_reducible refine Ext.drew ?_ | ((with_reducible refine Ext.set ?_ ?_ _); focus (dsimp only; omega)) | with_reducible refine Ext.trans ?_ hb9 | with_reducible refine Ext.trans ?_ hb8 | with_reducible refine Ext.trans ?_ hb7 | with_reducible refine Ext.trans ?_ hb6 | with_reducible refine Ext.trans ?_ hb5 | with_reducible refine Ext.trans ?_ hb4 | with_reducible refine Ext.trans ?_ hb3 | with_reducible refine Ext.trans ?_ hb2 | with_reducible refine Ext.trans ?_ hb1 | with_reducible refine Ext.trans ?_ hw)))⟩
          case measure => omega
        | false =>
          rw [wordsF_bad hq] at hcall
          have hv := hd (hno (by rw [hx.out, (hmiss hq).out]))
          clear hs hmiss hq hC hno hok1
          go_wp2_with fail
          refine Calls.mono (hcall _ (Ext.refl _)) ?_
          rintro e w1 ⟨rfl, hb1⟩
          go_wp2
          go_ret
          exact ⟨by rw [hv.out]; rfl, by ((repeat (first | with_reducible exact Ext.refl _ | with_reducible exact hw | with_reducible exact hb9 | with_reducible exact hb8 | with_reducible exact hb7 | with_reducible exact hb6 | with_reducible exact hb5 | with_reducible exact hb4 | with_reducible exact hb3 | with_reducible exact hb2 | with_reducible exact hb1 | with_reducible refine Ext.alloc ?_ _ | with_reducible refine Ext.drew ?_ | ((with_reducible refine Ext.set ?_ ?_ _); focus (dsimp only; omega)) | with_reducible refine Ext.trans ?_ hb9 | with_reducible refine Ext.trans ?_ hb8 | with_reducible refine Ext.trans ?_ hb7 | with_reducible refine Ext.trans ?_ hb6 | with_reducible refine Ext.trans ?_ hb5 | with_reducible refine Ext.trans ?_ hb4 | with_reducible refine Ext.trans ?_ hb3 | with_reducible refine Ext.trans ?_ hb2 | with_reducible refine Ext.trans ?_ hb1 | with_reducible refine Ext.trans ?_ hw)))⟩
      · obtain rfl : k = lot.length := by omega
        have hC2 := hC.out
        rw [List.take_length] at hC2
        have hv := hd (hok1 (by rw [hx.out, hC2]))
        clear hC hC2 hno hok1
        go_wp2
        go_ret
        exact ⟨by rw [hv.out]; rfl, hw⟩
  · rw [decide_eq_false hl, Bool.false_and] at hx
    have hv := hd (hno hx)
    clear hx hno hok1
    go_enter Tryd.func43, Tryd.ntmps43
    go_wp2
    go_ret
    exact ⟨by rw [hv.out]; rfl, Ext.refl _⟩
set_option maxHeartbeats 1000000 in
theorem spec_l03Masks (x : Mx) (hmx : mixB x = true) (lot : List (List ByteArray)) (A : Option Addr) (cap : Nat) (b0 o0 : Nat) (w : World) (hM : MixAt w b0 o0 x) (hR : RdL w A lot) (hn : lot.length ≤ 1048576) (hll : ∀ l ∈ lot, l.length ≤ 1048576) (hok : ∀ l ∈ lot, ∀ x ∈ l, StrIn x) :
    Calls Tryd.prog 44 #[.pointer (some ⟨b0, o0, none⟩), .slice A lot.length cap] w fun e w' => ∃ v, e = .returned v ∧ Ow encMask 53 w' w.heap.size v (masksL x lot) ∧ Ext w w' := by
  have htk := fun k (h : k < lot.length) => masksL_take x lot k h
  have hz : masksL x (lot.take 0) = [] := by rw [List.take_zero]; rfl
  have hall : masksL x (lot.take lot.length) = masksL x lot := by rw [List.take_length]
  have hlt := fun k => (by have := masksL_len x (lot.take k); rw [List.length_take] at this; omega : (masksL x (lot.take k)).length ≤ k)
  have hcall0 := fun k (h : k < lot.length) (B : Option Addr) (c : Nat) (W : World) (hE : Ext w W) (hB : Rd encStr W B lot[k]) => spec_l03All x hmx lot[k] B c b0 o0 W (hM.ext hE) hB (hll _ (List.getElem_mem h)) (hok _ (List.getElem_mem h))
  generalize masksL x lot = r at hall ⊢
  go_enter Tryd.func44, Tryd.ntmps44
  go_wp2
  go_loopg [5, 6] lot.length (fun g v i wr => ∃ k : Nat, g = lot.length - k ∧ k ≤ lot.length ∧ i = .int .i64 k ∧ Ext w wr ∧ Ow encMask 53 wr w.heap.size v (masksL x (lot.take k)))
  case atStart => exact ⟨0, by omega, by omega, rfl, (Ext.refl _).alloc _, by rw [hz]; exact Ow.made0 rfl (Nat.le_refl _)⟩
  case round =>
    obtain ⟨k, hg, hk, rfl, hw, hO⟩ := hrel
    by_cases hkl : k < lot.length
    · obtain ⟨b, off, rfl, hlt1⟩ := hR.block k hkl
      obtain ⟨B, c, m0, hB⟩ := (hR.ext hw).at k hkl
      have l1 := World.block_lt_of_cell? _ _ m0
      dsimp only at l1
      have hl := hlt k
      have hsu := hd (htk k hkl)
      have hcall := hcall0 k hkl B c wr hw hB
      generalize wallM x lot[k] = q at hcall hsu
      generalize masksL x (lot.take k) = ys at hO hl hsu
      go_wp2_with fail
      refine Calls.mono hcall ?_
      rintro e w2 ⟨rfl, hb2⟩
      have hO2 := hO.ext hb2
      have hw2 := hw.trans hb2
      clear hO hb2 hcall
      go_wp2_with (at_builtin; refine wpList_push2 (w0 := w) (base := w.heap.size) (xs := ys) encMask (by rfl) _ _ 27 (.agg #[.int .u64 0, .int .u64 0]) 16 (by rfl) Tryd.underlying27 info_Mask (by rfl) (q) (by rfl) (by rfl) (by simp) (hO2) ((hw2 : Ext w _).size) (Nat.le_refl _) (hw2) (by omega) (by omega) ?_)
      intro v3 w3 hO3 hb3 hg3 ho3
      go_wp2
      go_roundg (lot.length - (k + 1))
      case rel => exact ⟨k + 1, rfl, hkl, by simp, hb3, by rw [hsu.out]; exact hO3⟩
      case measure => omega
    · obtain rfl : k = lot.length := by omega
      rw [hall] at hO
      go_wp2
      go_ret
      exact ⟨_, rfl, hO, hw⟩
set_option maxHeartbeats 1000000 in
theorem spec_MixLot (x : Mx) (hxi : MxIn x) (lot : List (List ByteArray)) (A : Option Addr) (cap : Nat) (w : World) (hR : RdL w A lot) (hn : lot.length ≤ 1048576) (hll : ∀ l ∈ lot, l.length ≤ 1048576) (hok : ∀ l ∈ lot, ∀ x ∈ l, StrIn x) :
    Calls Tryd.prog 11 #[.agg #[.int .i16 x.st, .int .i16 x.sz, .int .i16 x.per], .slice A lot.length cap] w fun e w' => ∃ v, e = .returned (.tuple #[v, .int .i64 (mixLotF x lot).2]) ∧ Ow encMask 53 w' w.heap.size v (mixLotF x lot).1 ∧ Ext w w' := by
  have hM0 : ∀ W, BoxAt W w.heap.size #[.int .i16 x.st, .int .i16 x.sz, .int .i16 x.per] 30 → MixAt W w.heap.size 0 x := fun W h => ⟨h.cell 0, h.cell 1, h.cell 2⟩
  have h1 := fun (W : World) (h : MixAt W w.heap.size 0 x) => spec_l03Ok x hxi w.heap.size 0 W h
  have h2 := fun (W : World) (hE : Ext w W) => spec_l03Lot lot A cap W (hR.ext hE) hn hll hok
  have h3 := fun (hq : mixB x = true) (W : World) (h : MixAt W w.heap.size 0 x) (hE : Ext w W) => spec_l03Masks x hq lot A cap w.heap.size 0 W h (hR.ext hE) hn hll hok
  have k1 := mixLot_bad (x := x) (lot := lot)
  have k2 := mixLot_far (x := x) (lot := lot)
  have k3 := mixLot_ok (x := x) (lot := lot)
  have hX0 : BoxAt (w.alloc (.cells #[.int .i16 x.st, .int .i16 x.sz, .int .i16 x.per] 30)) w.heap.size #[.int .i16 x.st, .int .i16 x.sz, .int .i16 x.per] 30 := BoxAt.new' rfl
  cases hq : mixB x with
  | false =>
    have hv := hd (k1 hq)
    rw [hq] at h1
    clear k1 k2 k3 h3
    go_enter Tryd.func11, Tryd.ntmps11
    go_wp2_with fail
    refine Calls.mono (h1 _ (hM0 _ hX0)) ?_
    rintro e w1 ⟨rfl, hb1⟩
    have hw1 : Ext w w1 := ((Ext.refl _).alloc _).trans hb1
    go_wp2
    refine bodyPost_ret (v := .tuple #[.slice (some ⟨w1.heap.size, 0, none⟩) 0 0, .int .i64 1]) (by simp [results, Tryd.results11, go_sem]) rfl ⟨_, by rw [hv.out], by rw [hv.out]; exact Ow.made0 rfl hw1.size, hw1.alloc _⟩
  | true =>
    rw [hq] at h1
    have h3 := h3 hq
    cases hl : lotB lot with
    | false =>
      have hv := hd (k2 hq hl)
      rw [lotF_no hl] at h2
      clear k1 k2 k3 h3
      go_enter Tryd.func11, Tryd.ntmps11
      go_wp2_with fail
      refine Calls.mono (h1 _ (hM0 _ hX0)) ?_
      rintro e w1 ⟨rfl, hb1⟩
      have hw1 : Ext w w1 := ((Ext.refl _).alloc _).trans hb1
      go_wp2_with fail
      refine Calls.mono (h2 _ hw1) ?_
      rintro e w2 ⟨rfl, hb2⟩
      have hw2 := hw1.trans hb2
      go_wp2
      refine bodyPost_ret (v := .tuple #[.slice (some ⟨w2.heap.size, 0, none⟩) 0 0, .int .i64 2]) (by simp [results, Tryd.results11, go_sem]) rfl ⟨_, by rw [hv.out], by rw [hv.out]; exact Ow.made0 rfl hw2.size, hw2.alloc _⟩
    | true =>
      have hv := hd (k3 hq hl)
      rw [lotF_ok hl] at h2
      clear k1 k2 k3
      go_enter Tryd.func11, Tryd.ntmps11
      go_wp2_with fail
      refine Calls.mono (h1 _ (hM0 _ hX0)) ?_
      rintro e w1 ⟨rfl, hb1⟩
      have hX := hX0.ext hb1
      have hw1 : Ext w w1 := ((Ext.refl _).alloc _).trans hb1
      go_wp2_with fail
      refine Calls.mono (h2 _ hw1) ?_
      rintro e w2 ⟨rfl, hb2⟩
      have hw2 := hw1.trans hb2
      have hX := hX.ext hb2
      go_wp2_with fail
      refine Calls.mono (h3 _ (hM0 _ hX) hw2) ?_
      rintro e w3 ⟨v3, rfl, hO3, hb3⟩
      go_wp2
      refine bodyPost_ret (v := .tuple #[v3, .int .i64 0]) (by simp [results, Tryd.results11, go_sem]) rfl ⟨_, by rw [hv.out], by rw [hv.out]; exact hO3.lower hw2.size, hw2.trans hb3⟩
set_option maxHeartbeats 1000000 in
theorem impl_MixLot (x : Mx) (hxi : MxIn x) (lot : List (List ByteArray)) (A : Option Addr) (cap : Nat) (w : World) (hR : RdL w A lot) (hn : lot.length ≤ 1048576) (hll : ∀ l ∈ lot, l.length ≤ 1048576) (hok : ∀ l ∈ lot, ∀ x ∈ l, StrIn x) :
    Calls Tryd.prog 14 #[.agg #[.int .i16 x.st, .int .i16 x.sz, .int .i16 x.per], .slice A lot.length cap] w fun e w' => ∃ v, e = .returned (.tuple #[v, .int .i64 (mixLotF x lot).2]) ∧ Ow encMask 53 w' w.heap.size v (mixLotF x lot).1 ∧ Ext w w' := by
  have h1 := fun (W : World) => impl_isMix x hxi W
  have h2 := fun (W : World) (hE : Ext w W) => impl_isLot lot A cap W (hR.ext hE) hn hll hok
  have h3 := fun (hq : mixB x = true) k (h : k < lot.length) (B : Option Addr) (c : Nat) (W : World) (hB : Rd encStr W B lot[k]) => impl_holesOf x hq lot[k] B c W hB (hll _ (List.getElem_mem h)) (hok _ (List.getElem_mem h))
  have k1 := mixLot_bad (x := x) (lot := lot)
  have k2 := mixLot_far (x := x) (lot := lot)
  have k3 := mixLot_ok (x := x) (lot := lot)
  have htk := fun k (h : k < lot.length) => masksL_take x lot k h
  have hz : masksL x (lot.take 0) = [] := by rw [List.take_zero]; rfl
  have hall : masksL x (lot.take lot.length) = masksL x lot := by rw [List.take_length]
  have hlt := fun k => (by have := masksL_len x (lot.take k); rw [List.length_take] at this; omega : (masksL x (lot.take k)).length ≤ k)
  obtain ⟨st, sz, per⟩ := x
  dsimp only at h1 h3
  generalize mixB ⟨st, sz, per⟩ = p at h1 h3 k1 k2 k3
  generalize lotB lot = q at h2 k2 k3
  cases p with
  | false =>
    have hv := hd (k1 rfl)
    clear k1 k2 k3 h3
    go_enter Tryd.func14, Tryd.ntmps14
    go_wp2_with fail
    refine Calls.mono (h1 _) ?_
    rintro e w1 ⟨rfl, hb1⟩
    have hw1 : Ext w w1 := ((Ext.refl _).alloc _).trans hb1
    go_wp2
    refine bodyPost_ret (v := .tuple #[.slice none 0 0, .int .i64 1]) (by simp [results, Tryd.results14, go_sem]) rfl ⟨_, by rw [hv.out], by rw [hv.out]; exact Ow.nil _ _ _ _, hw1⟩
  | true =>
    cases q with
    | false =>
      have hv := hd (k2 rfl rfl)
      clear k1 k2 k3 h3
      go_enter Tryd.func14, Tryd.ntmps14
      go_wp2_with fail
      refine Calls.mono (h1 _) ?_
      rintro e w1 ⟨rfl, hb1⟩
      have hw1 : Ext w w1 := ((Ext.refl _).alloc _).trans hb1
      go_wp2_with fail
      refine Calls.mono (h2 _ hw1) ?_
      rintro e w2 ⟨rfl, hb2⟩
      go_wp2
      refine bodyPost_ret (v := .tuple #[.slice none 0 0, .int .i64 2]) (by simp [results, Tryd.results14, go_sem]) rfl ⟨_, by rw [hv.out], by rw [hv.out]; exact Ow.nil _ _ _ _, hw1.trans hb2⟩
    | true =>
      have hv := hd (k3 rfl rfl)
      replace h3 := h3 rfl
      clear k1 k2 k3
      generalize masksL ⟨st, sz, per⟩ lot = r at hall hv
      go_enter Tryd.func14, Tryd.ntmps14
      go_wp2_with fail
      refine Calls.mono (h1 _) ?_
      rintro e w1 ⟨rfl, hb1⟩
      have hX : BoxAt w1 w.heap.size #[.int .i16 st, .int .i16 sz, .int .i16 per] 30 := (BoxAt.new' rfl).ext hb1
      have hw1 : Ext w w1 := ((Ext.refl _).alloc _).trans hb1
      go_wp2_with fail
      refine Calls.mono (h2 _ hw1) ?_
      rintro e w2 ⟨rfl, hb2⟩
      have hw2 := hw1.trans hb2
      have hX := hX.ext hb2
      clear hb1 hb2 hw1
      go_wp2
      go_loopg [6, 18] lot.length (fun g v i wr => ∃ k : Nat, g = lot.length - k ∧ k ≤ lot.length ∧ i = .int .i64 k ∧ Ext w2 wr ∧ Ow encMask 53 wr w2.heap.size v (masksL ⟨st, sz, per⟩ (lot.take k)))
      case atStart => exact ⟨0, by omega, by omega, rfl, (Ext.refl _).alloc _, by rw [hz]; exact Ow.made0 rfl (Nat.le_refl _)⟩
      case round =>
        obtain ⟨k, hg, hk, rfl, hw, hO⟩ := hrel
        by_cases hkl : k < lot.length
        · obtain ⟨b, off, rfl, hlt1⟩ := hR.block k hkl
          obtain ⟨B, c, m0, hB⟩ := ((hR.ext hw2).ext hw).at k hkl
          have l1 := World.block_lt_of_cell? _ _ m0
          dsimp only at l1
          have hX := hX.ext hw
          have x0 : wr.cell? ⟨w.heap.size, 0, none⟩ = some (.int .i16 st) := hX.cell 0
          have x1 : wr.cell? ⟨w.heap.size, 1, none⟩ = some (.int .i16 sz) := hX.cell 1
          have x2 : wr.cell? ⟨w.heap.size, 2, none⟩ = some (.int .i16 per) := hX.cell 2
          have lX := hX.lt
          have hl := hlt k
          have hsu := hd (htk k hkl)
          have hcall := h3 k hkl B c wr hB
          generalize wallM ⟨st, sz, per⟩ lot[k] = q at hcall hsu
          generalize masksL ⟨st, sz, per⟩ (lot.take k) = ys at hO hl hsu
          go_wp2_with fail
          refine Calls.mono hcall ?_
          rintro e w3 ⟨rfl, hb3⟩
          have hO3 := hO.ext hb3
          have hw3 := hw.trans hb3
          clear hO hb3 hcall x0 x1 x2 lX
          go_wp2_with (at_builtin; refine wpList_push2 (w0 := w2) (base := w2.heap.size) (xs := ys) encMask (by rfl) _ _ 27 (.agg #[.int .u64 0, .int .u64 0]) 16 (by rfl) Tryd.underlying27 info_Mask (by rfl) (q) (by rfl) (by rfl) (by simp) (hO3) ((hw3 : Ext w2 _).size) (Nat.le_refl _) (hw3) (by omega) (by omega) ?_)
          intro v4 w4 hO4 hb4 hg4 ho4
          go_wp2
          go_roundg (lot.length - (k + 1))
          case rel => exact ⟨k + 1, rfl, hkl, by simp, hb4, by rw [hsu.out]; exact hO4⟩
          case measure => omega
        · obtain rfl : k = lot.length := by omega
          rw [hall] at hO
          go_wp2
          refine bodyPost_ret (v := .tuple #[_, .int .i64 0]) (by simp [results, Tryd.results14, go_sem]; rfl) rfl ⟨_, by rw [hv.out], by rw [hv.out]; exact hO.lower hw2.size, hw2.trans hw⟩
end Go.Proofs.YtbmompanhigmnaaDoor
set_option linter.unusedVariables false
set_option linter.unusedSimpArgs false
set_option maxRecDepth 100000
namespace Go.Proofs.YtbmompanhigmnaaDoor
open Go.RowKit
theorem getL (lot : List (List ByteArray)) (k : Nat) (hk : k < lot.length) : lot.getD k [] = lot[k] := by rw [List.getD, List.getElem?_eq_getElem hk]; rfl
theorem ba_beq (a b : ByteArray) : (a == b) = (a.data == b.data) := by cases a; cases b; rfl
instance : LawfulBEq ByteArray where
  eq_of_beq {a b} h := by
    rw [ba_beq] at h
    cases a; cases b
    simp at h
    rw [h]
  rfl {a} := by rw [ba_beq]; simp
theorem contains_any (ws : List ByteArray) (s : ByteArray) : ws.contains s = ws.any (fun t => strB t s) := by
  rw [Bool.eq_iff_iff, List.contains_iff_mem, List.any_eq_true]
  constructor
  · intro h; exact ⟨s, h, strB_refl s⟩
  · rintro ⟨t, h1, h2⟩; rw [← (strB_iff t s).1 h2]; exact h1
/-- The lists that have all words. -/
def trueL (lot : List (List ByteArray)) (ws : List ByteArray) (n : Nat) : List Int := idxTo (fun i => hasAllB (lot.getD i []) ws) n
theorem trueL_zero (lot : List (List ByteArray)) (ws : List ByteArray) : trueL lot ws 0 = [] := rfl
theorem trueL_hit {lot : List (List ByteArray)} {ws : List ByteArray} {k : Nat} (hk : k < lot.length) (hq : hasAllB lot[k] ws = true) : trueL lot ws (k + 1) = trueL lot ws k ++ [(k : Int)] := idxTo_hit _ k (by rw [getL lot k hk]; exact hq)
theorem trueL_miss {lot : List (List ByteArray)} {ws : List ByteArray} {k : Nat} (hk : k < lot.length) (hq : hasAllB lot[k] ws = false) : trueL lot ws (k + 1) = trueL lot ws k := idxTo_miss _ k (by rw [getL lot k hk]; exact hq)
theorem trueL_len (lot : List (List ByteArray)) (ws : List ByteArray) (n : Nat) : (trueL lot ws n).length ≤ n := idxTo_len _ n
theorem false_spec (x : Mx) (lot : List (List ByteArray)) (ws : List ByteArray) : (droppedL (wallM x ws) (masksL x lot) lot.length).filter (fun v => !(trueL lot ws lot.length).contains v) = falseL x lot ws := by
  rw [← falseL_spec]
  congr 1
  unfold droppedL
  refine idxTo_congr _ fun i hi => ?_
  rw [getM _ i (by rw [masksL_len]; exact hi), getL lot i hi]
  unfold masksL
  rw [List.getElem_map]
/-- The false drops among the first n lists. -/
noncomputable def falseTo (x : Mx) (lot : List (List ByteArray)) (ws : List ByteArray) (n : Nat) : List Int := idxTo (fun i => mwin (wallM x ws) (wallM x (lot.getD i [])) && !hasAllB (lot.getD i []) ws) n
theorem falseTo_all (x : Mx) (lot : List (List ByteArray)) (ws : List ByteArray) : falseTo x lot ws lot.length = falseL x lot ws := rfl
theorem falseTo_zero (x : Mx) (lot : List (List ByteArray)) (ws : List ByteArray) : falseTo x lot ws 0 = [] := rfl
theorem falseTo_hit {x : Mx} {lot : List (List ByteArray)} {ws : List ByteArray} {k : Nat} (hk : k < lot.length) (h1 : mwin (wallM x ws) (wallM x lot[k]) = true) (h2 : hasAllB lot[k] ws = false) : falseTo x lot ws (k + 1) = falseTo x lot ws k ++ [(k : Int)] :=
  idxTo_hit _ k (by rw [getL lot k hk, h1, h2]; rfl)
theorem falseTo_miss1 {x : Mx} {lot : List (List ByteArray)} {ws : List ByteArray} {k : Nat} (hk : k < lot.length) (h1 : mwin (wallM x ws) (wallM x lot[k]) = false) : falseTo x lot ws (k + 1) = falseTo x lot ws k :=
  idxTo_miss _ k (by rw [getL lot k hk, h1]; rfl)
theorem falseTo_miss2 {x : Mx} {lot : List (List ByteArray)} {ws : List ByteArray} {k : Nat} (hk : k < lot.length) (h2 : hasAllB lot[k] ws = true) : falseTo x lot ws (k + 1) = falseTo x lot ws k :=
  idxTo_miss _ k (by rw [getL lot k hk, h2]; cases mwin (wallM x ws) (wallM x lot[k]) <;> rfl)
theorem falseTo_len (x : Mx) (lot : List (List ByteArray)) (ws : List ByteArray) (n : Nat) : (falseTo x lot ws n).length ≤ n := idxTo_len _ n
attribute [irreducible] trueL falseTo
noncomputable def falseF (x : Mx) (lot : List (List ByteArray)) (ws : List ByteArray) : List Int × Int :=
  if mixB x = true then (if (lotB lot && wordsB ws 12) = true then (falseL x lot ws, 0) else ([], 2)) else ([], 1)
theorem false_bad {x : Mx} {lot : List (List ByteArray)} {ws : List ByteArray} (h : mixB x = false) : falseF x lot ws = ([], 1) := by unfold falseF; rw [h]; rfl
theorem false_far {x : Mx} {lot : List (List ByteArray)} {ws : List ByteArray} (h : mixB x = true) (h2 : (lotB lot && wordsB ws 12) = false) : falseF x lot ws = ([], 2) := by unfold falseF; rw [h, h2]; rfl
theorem false_ok {x : Mx} {lot : List (List ByteArray)} {ws : List ByteArray} (h : mixB x = true) (h2 : (lotB lot && wordsB ws 12) = true) : falseF x lot ws = (falseL x lot ws, 0) := by unfold falseF; rw [h, h2]; rfl
theorem false_len (x : Mx) (lot : List (List ByteArray)) (ws : List ByteArray) : (falseF x lot ws).1.length ≤ 1048576 := by
  unfold falseF
  split
  · split
    · rename_i h
      rw [Bool.and_eq_true] at h
      have h1 := (lot_all h.1).1
      have h2 := falseTo_len x lot ws lot.length
      rw [falseTo_all] at h2
      show (falseL x lot ws).length ≤ _
      omega
    · simp
  · simp
set_option maxHeartbeats 400000 in
theorem slices_Contains_str (ls : List ByteArray) (A : Option Addr) (n cap : Nat) (hnx : n = ls.length) (s : ByteArray) (w : World) (hR : Rd encStr w A ls) (hn : ls.length ≤ 1048576) :
    Calls Tryd.prog 99 #[.slice A n cap, .string s] w fun e w' => e = .returned (.bool (ls.contains s)) ∧ Ext w w' := by
  subst hnx
  cases ls with
  | nil =>
    refine (Tryd.slices_Contains_string_empty A cap s w).mono ?_
    rintro e w' ⟨rfl, rfl⟩
    exact ⟨rfl, Ext.refl _⟩
  | cons l0 ls =>
    obtain ⟨b, off, rfl, hlt, _⟩ := hR 0 (by simp)
    refine (Tryd.slices_Contains_string b off (l0 :: ls).length cap (l0 :: ls) s w (Nat.le_refl _) (by omega) (fun j hj => by rw [hR.str j hj, List.getD, List.getElem?_eq_getElem hj]; rfl)).mono ?_
    rintro e w' ⟨rfl, rfl⟩
    refine ⟨?_, Ext.refl _⟩
    rw [List.take_length]
    congr 2
    rw [Bool.eq_iff_iff, Lib.containsS_iff, List.contains_iff_mem]
set_option maxHeartbeats 400000 in
theorem impl_hasAll1 (ls : List ByteArray) (B : Option Addr) (cap b : Nat) (s : ByteArray) (w : World) (hc : w.cell? ⟨b, 0, none⟩ = some (.slice B ls.length cap)) (hR : Rd encStr w B ls) (hn : ls.length ≤ 1048576) :
    Calls Tryd.prog 114 #[.string s, .pointer (some ⟨b, 0, none⟩)] w fun e w' => e = .returned (.bool (!ls.contains s)) ∧ Ext w w' := by
  have hlt := World.block_lt_of_cell? _ _ hc
  dsimp only at hlt
  have hcall := fun (W : World) (hE : Ext w W) => slices_Contains_str ls B _ cap rfl s W (hR.ext hE) hn
  generalize ls.contains s = q at hcall
  go_enter Tryd.func114, Tryd.ntmps114
  go_wp2_with fail
  refine Calls.mono (hcall _ (Ext.refl _)) ?_
  rintro e w1 ⟨rfl, hb1⟩
  go_wp2
  go_ret
  exact ⟨rfl, by ((repeat (first | with_reducible exact Ext.refl _ | with_reducible exact hw | with_reducible exact hb9 | with_reducible exact hb8 | with_reducible exact hb7 | with_reducible exact hb6 | with_reducible exact hb5 | with_reducible exact hb4 | with_reducible exact hb3 | with_reducible exact hb2 | with_reducible exact hb1 | with_reducible refine Ext.alloc ?_ _ | with_reducible refine Ext.drew ?_ | ((with_reducible refine Ext.set ?_ ?_ _); focus (dsimp only; omega)) | with_reducible refine Ext.trans ?_ hb9 | with_reducible refine Ext.trans ?_ hb8 | with_reducible refine Ext.trans ?_ hb7 | with_reducible refine Ext.trans ?_ hb6 | with_reducible refine Ext.trans ?_ hb5 | with_reducible refine Ext.trans ?_ hb4 | with_reducible refine Ext.trans ?_ hb3 | with_reducible refine Ext.trans ?_ hb2 | with_reducible refine Ext.trans ?_ hb1 | with_reducible refine Ext.trans ?_ hw)))⟩
set_option maxHeartbeats 400000 in
theorem slices_IndexFunc_hasAll (xs : List ByteArray) (A : Option Addr) (n cap : Nat) (w : World) (hnx : n = xs.length) (hR : Rd encStr w A xs) (hn : n ≤ 1048576) (ls : List ByteArray) (B : Option Addr) (cl bx : Nat) (hc : w.cell? ⟨bx, 0, none⟩ = some (.slice B ls.length cl)) (hL : Rd encStr w B ls) (hnl : ls.length ≤ 1048576) :
    Calls Tryd.prog 112 #[.slice A n cap, .func (.func 114) #[] #[.pointer (some ⟨bx, 0, none⟩)]] w fun e w' => e = .returned (.int .i64 (fidx (fun s : ByteArray => !ls.contains s) xs)) ∧ Ext w w' := by
  subst hnx
  go_enter Tryd.func112, Tryd.ntmps112
  go_wp2
  go_loopg [8] xs.length (fun g i wr => ∃ k : Nat, g = xs.length - k ∧ k ≤ xs.length ∧ i = .int .i64 k ∧ Ext w wr ∧ (xs.take k).any (fun s : ByteArray => !ls.contains s) = false)
  case atStart => exact ⟨0, by omega, by omega, rfl, Ext.refl _, by rw [List.take_zero]; rfl⟩
  case round =>
    obtain ⟨k, hg, hk, rfl, hw, hQ⟩ := hrel
    by_cases hkl : k < xs.length
    · obtain ⟨b, off, hA, hlt, _⟩ := hR k hkl
      subst hA
      obtain ⟨m0, m1⟩ := (hR.ext hw).strs k hkl
      have hs := any_take (fun s : ByteArray => !ls.contains s) xs k hkl
      rw [hQ, Bool.false_or] at hs
      cases hq : (fun s : ByteArray => !ls.contains s) xs[k] with
      | true =>
        have hM := fidx_hit (fun s : ByteArray => !ls.contains s) xs k hkl hq hQ
        try dsimp only at hq
        clear hs hQ
        go_wp2_with fail
        refine Calls.mono (impl_hasAll1 ls B cl bx xs[k] _ (hw.cell hc) (hL.ext hw) hnl) ?_
        rintro e w1 ⟨rfl, hb1⟩
        simp only [hq]
        go_wp2
        go_ret
        exact ⟨by rw [hM]; rfl, by ((repeat (first | with_reducible exact Ext.refl _ | with_reducible exact hw | with_reducible exact hb9 | with_reducible exact hb8 | with_reducible exact hb7 | with_reducible exact hb6 | with_reducible exact hb5 | with_reducible exact hb4 | with_reducible exact hb3 | with_reducible exact hb2 | with_reducible exact hb1 | with_reducible refine Ext.alloc ?_ _ | with_reducible refine Ext.drew ?_ | ((with_reducible refine Ext.set ?_ ?_ _); focus (dsimp only; omega)) | with_reducible refine Ext.trans ?_ hb9 | with_reducible refine Ext.trans ?_ hb8 | with_reducible refine Ext.trans ?_ hb7 | with_reducible refine Ext.trans ?_ hb6 | with_reducible refine Ext.trans ?_ hb5 | with_reducible refine Ext.trans ?_ hb4 | with_reducible refine Ext.trans ?_ hb3 | with_reducible refine Ext.trans ?_ hb2 | with_reducible refine Ext.trans ?_ hb1 | with_reducible refine Ext.trans ?_ hw)))⟩
      | false =>
        have hs2 := hd (hs.trans hq)
        try dsimp only at hq
        clear hs hQ
        go_wp2_with fail
        refine Calls.mono (impl_hasAll1 ls B cl bx xs[k] _ (hw.cell hc) (hL.ext hw) hnl) ?_
        rintro e w1 ⟨rfl, hb1⟩
        simp only [hq]
        go_wp2
        go_roundg (xs.length - (k + 1))
        case rel => exact ⟨k + 1, rfl, hkl, rfl, by ((repeat (first | with_reducible exact Ext.refl _ | with_reducible exact hw | with_reducible exact hb9 | with_reducible exact hb8 | with_reducible exact hb7 | with_reducible exact hb6 | with_reducible exact hb5 | with_reducible exact hb4 | with_reducible exact hb3 | with_reducible exact hb2 | with_reducible exact hb1 | with_reducible refine Ext.alloc ?_ _ | with_reducible refine Ext.drew ?_ | ((with_reducible refine Ext.set ?_ ?_ _); focus (dsimp only; omega)) | with_reducible refine Ext.trans ?_ hb9 | with_reducible refine Ext.trans ?_ hb8 | with_reducible refine Ext.trans ?_ hb7 | with_reducible refine Ext.trans ?_ hb6 | with_reducible refine Ext.trans ?_ hb5 | with_reducible refine Ext.trans ?_ hb4 | with_reducible refine Ext.trans ?_ hb3 | with_reducible refine Ext.trans ?_ hb2 | with_reducible refine Ext.trans ?_ hb1 | with_reducible refine Ext.trans ?_ hw))), hs2.out⟩
        case measure => omega
    · obtain rfl : k = xs.length := by omega
      rw [List.take_length] at hQ
      have hM := fidx_none (fun s : ByteArray => !ls.contains s) xs hQ
      go_wp2
      go_ret
      exact ⟨by rw [hM]; rfl, hw⟩

set_option maxHeartbeats 400000 in
theorem slices_ContainsFunc_hasAll (ws : List ByteArray) (A : Option Addr) (cap : Nat) (w : World) (hR : Rd encStr w A ws) (hn : ws.length ≤ 1048576) (ls : List ByteArray) (B : Option Addr) (cl bx : Nat) (hc : w.cell? ⟨bx, 0, none⟩ = some (.slice B ls.length cl)) (hL : Rd encStr w B ls) (hnl : ls.length ≤ 1048576) :
    Calls Tryd.prog 92 #[.slice A ws.length cap, .func (.func 114) #[] #[.pointer (some ⟨bx, 0, none⟩)]] w fun e w' => e = .returned (.bool (!hasAllB ls ws)) ∧ Ext w w' := by
  have hI := slices_IndexFunc_hasAll ws A _ cap w rfl hR hn ls B cl bx hc hL hnl
  have hv := fidx_ge (fun s : ByteArray => !ls.contains s) ws
  have hm : (!hasAllB ls ws) = decide (fidx (fun s : ByteArray => !ls.contains s) ws ≥ 0) := by
    unfold hasAllB
    rw [List.not_all_eq_any_not, Bool.eq_iff_iff, decide_eq_true_iff]
    exact hv.symm
  generalize fidx (fun s : ByteArray => !ls.contains s) ws = q at hm hI
  rw [hm]
  clear hm hv
  go_enter Tryd.func92, Tryd.ntmps92
  go_wp2_with fail
  refine Calls.mono (hI) ?_
  rintro e w1 ⟨rfl, hb1⟩
  go_wp2
  go_ret
  exact ⟨rfl, hb1⟩
set_option maxHeartbeats 400000 in
theorem impl_hasAll (ls : List ByteArray) (B : Option Addr) (cl : Nat) (ws : List ByteArray) (A : Option Addr) (cap : Nat) (w : World) (hL : Rd encStr w B ls) (hnl : ls.length ≤ 1048576) (hR : Rd encStr w A ws) (hn : ws.length ≤ 1048576) :
    Calls Tryd.prog 95 #[.slice B ls.length cl, .slice A ws.length cap] w fun e w' => e = .returned (.bool (hasAllB ls ws)) ∧ Ext w w' := by
  have hE0 : Ext w (w.alloc (.cells #[.slice B ls.length cl] 38)) := (Ext.refl _).alloc _
  have hX : BoxAt (w.alloc (.cells #[.slice B ls.length cl] 38)) w.heap.size #[.slice B ls.length cl] 38 := BoxAt.new' rfl
  have hcall := slices_ContainsFunc_hasAll ws A cap _ (hR.ext hE0) hn ls B cl w.heap.size (hX.cell 0) (hL.ext hE0) hnl
  generalize hasAllB ls ws = q at hcall
  clear hX
  go_enter Tryd.func95, Tryd.ntmps95
  go_wp2_with fail
  refine Calls.mono (hcall) ?_
  rintro e w1 ⟨rfl, hb1⟩
  go_wp2
  go_ret
  exact ⟨by first | rfl | rw [Bool.not_not], hE0.trans hb1⟩
set_option maxHeartbeats 400000 in
theorem spec_l03Has (ls : List ByteArray) (A : Option Addr) (n cap : Nat) (hnx : n = ls.length) (s : ByteArray) (w : World) (hR : Rd encStr w A ls) (hn : ls.length ≤ 1048576) :
    Calls Tryd.prog 111 #[.slice A n cap, .string s] w fun e w' => e = .returned (.bool (ls.contains s)) ∧ Ext w w' := by
  subst hnx
  rw [contains_any]
  go_enter Tryd.func111, Tryd.ntmps111
  go_wp2
  go_loopg [5] ls.length (fun g i wr => ∃ k : Nat, g = ls.length - k ∧ k ≤ ls.length ∧ i = .int .i64 k ∧ Hd ((ls.take k).any (fun t => strB t s) = false) ∧ Ext w wr)
  case atStart => exact ⟨0, by omega, by omega, rfl, hd (by rw [List.take_zero]; rfl), Ext.refl _⟩
  case round =>
    obtain ⟨k, hg, hk, rfl, hC, hw⟩ := hrel
    by_cases hkl : k < ls.length
    · obtain ⟨b, off, hA, hlt, _⟩ := hR k hkl
      subst hA
      obtain ⟨m0, m1⟩ := (hR.ext hw).strs k hkl
      have hs := any_take (fun t => strB t s) ls k hkl
      rw [hC.out, Bool.false_or] at hs
      have hs := hd hs
      have hit := fun h => hd (any_hit (fun t => strB t s) ls k hkl h)
      cases hq : strB ls[k] s with
      | true =>
        have hv := hit hq
        have hq2 : (ls[k].toList == s.toList) = true := hq
        clear hs hit hq hC
        go_wp2
        go_ret
        exact ⟨by rw [hv.out]; rfl, hw⟩
      | false =>
        have hs2 := hd (hs.out.trans hq)
        have hq2 : (ls[k].toList == s.toList) = false := hq
        clear hs hit hq hC
        go_wp2
        go_roundg (ls.length - (k + 1))
        case rel => exact ⟨k + 1, rfl, hkl, by simp, hs2, hw⟩
        case measure => omega
    · obtain rfl : k = ls.length := by omega
      have hC2 := hC.out
      rw [List.take_length] at hC2
      have hv := hd hC2
      clear hC hC2
      go_wp2
      go_ret
      exact ⟨by rw [hv.out]; rfl, hw⟩
set_option maxHeartbeats 400000 in
theorem spec_l00Has (ls : List Int) (A : Option Addr) (n cap : Nat) (hnx : n = ls.length) (x : Int) (w : World) (hR : Rd encI64 w A ls) (hn : ls.length ≤ 1048576) :
    Calls Tryd.prog 91 #[.slice A n cap, .int .i64 x] w fun e w' => e = .returned (.bool (ls.contains x)) ∧ Ext w w' := by
  subst hnx
  rw [show ls.contains x = ls.any (fun t => t == x) by rw [Bool.eq_iff_iff, List.contains_iff_mem, List.any_eq_true]; exact ⟨fun h => ⟨x, h, by simp⟩, fun ⟨t, h1, h2⟩ => by rw [beq_iff_eq] at h2; rw [← h2]; exact h1⟩]
  go_enter Tryd.func91, Tryd.ntmps91
  go_wp2
  go_loopg [5] ls.length (fun g i wr => ∃ k : Nat, g = ls.length - k ∧ k ≤ ls.length ∧ i = .int .i64 k ∧ Hd ((ls.take k).any (fun t => t == x) = false) ∧ Ext w wr)
  case atStart => exact ⟨0, by omega, by omega, rfl, hd (by rw [List.take_zero]; rfl), Ext.refl _⟩
  case round =>
    obtain ⟨k, hg, hk, rfl, hC, hw⟩ := hrel
    by_cases hkl : k < ls.length
    · obtain ⟨b, off, hA, hlt, _⟩ := hR k hkl
      subst hA
      have m0 := (hR.ext hw).i64 k hkl
      have m1 := World.block_lt_of_cell? _ _ m0
      dsimp only at m1
      have hs := any_take (fun t => t == x) ls k hkl
      rw [hC.out, Bool.false_or] at hs
      have hs := hd hs
      have hit := fun h => hd (any_hit (fun t => t == x) ls k hkl h)
      cases hq : (ls[k] == x) with
      | true =>
        have hv := hit hq
        clear hs hit hC
        go_wp2
        go_ret
        exact ⟨by rw [hv.out]; rfl, hw⟩
      | false =>
        have hs2 := hd (hs.out.trans hq)
        clear hs hit hC
        go_wp2
        go_roundg (ls.length - (k + 1))
        case rel => exact ⟨k + 1, rfl, hkl, by simp, hs2, hw⟩
        case measure => omega
    · obtain rfl : k = ls.length := by omega
      have hC2 := hC.out
      rw [List.take_length] at hC2
      have hv := hd hC2
      clear hC hC2
      go_wp2
      go_ret
      exact ⟨by rw [hv.out]; rfl, hw⟩
set_option maxHeartbeats 2000000 in
theorem spec_l03True (lot : List (List ByteArray)) (A : Option Addr) (cap : Nat) (ws : List ByteArray) (B : Option Addr) (capB : Nat) (w : World) (hR : RdL w A lot) (hn : lot.length ≤ 1048576) (hll : ∀ l ∈ lot, l.length ≤ 1048576) (hS : Rd encStr w B ws) (hm : ws.length ≤ 1048576) :
    Calls Tryd.prog 90 #[.slice A lot.length cap, .slice B ws.length capB] w fun e w' => ∃ v, e = .returned v ∧ Ow encI64 2 w' w.heap.size v (trueL lot ws lot.length) ∧ Ext w w' := by
  have hlen := trueL_len lot ws
  have hz := trueL_zero lot ws
  have hhit0 := fun k (h : k < lot.length) => trueL_hit (ws := ws) h
  have hmiss0 := fun k (h : k < lot.length) => trueL_miss (ws := ws) h
  have hx := @ExtOf.cell
  go_enter Tryd.func90, Tryd.ntmps90
  go_wp2
  go_loopg [5, 6] lot.length (fun g v i wr => ∃ k : Nat, g = lot.length - k ∧ k ≤ lot.length ∧ i = .int .i64 k ∧ Ext w wr ∧ Ow encI64 2 wr w.heap.size v (trueL lot ws k))
  case atStart => exact ⟨0, by omega, by omega, rfl, (Ext.refl _).alloc _, by rw [hz]; exact Ow.made0 rfl (Nat.le_refl _)⟩
  case round =>
    obtain ⟨k, hg, hk, rfl, hw, hO⟩ := hrel
    obtain ⟨wo, hwo⟩ : ∃ x, x = wr := ⟨_, rfl⟩
    subst hwo
    by_cases hkl : k < lot.length
    · obtain ⟨b, off, rfl, hlt1⟩ := hR.block k hkl
      have hl := hlen k
      have hllk := hll _ (List.getElem_mem hkl)
      go_wp2
      go_loopg [7, 8] ws.length (fun g q i wr2 => ∃ j : Nat, ∃ p : Bool, g = ws.length - j ∧ j ≤ ws.length ∧ i = .int .i64 j ∧ q = .bool p ∧ Hd ((ws.take j).all (fun s => lot[k].contains s) = p) ∧ Ext wo wr2)
      case atStart => exact ⟨0, true, by omega, by omega, rfl, rfl, hd (by rw [List.take_zero]; rfl), Ext.refl _⟩
      case round =>
        obtain ⟨j, p, hg2, hj, rfl, rfl, hP, hE⟩ := hrel
        have hWE := hw.trans hE
        by_cases hjl : j < ws.length
        · obtain ⟨bB, oB, hB, hltB, _⟩ := hS j hjl
          subst hB
          obtain ⟨n0, n1⟩ := (hS.ext hWE).strs j hjl
          obtain ⟨B1, c1, m0, hB1⟩ := (hR.ext hWE).at k hkl
          have l1 := World.block_lt_of_cell? _ _ m0
          dsimp only at l1
          have hs := all_take (fun s => lot[k].contains s) ws j hjl
          rw [hP.out] at hs
          have hs := hd hs
          have hcall := fun (W : World) (hE : Ext wr W) => spec_l03Has lot[k] B1 _ c1 rfl ws[j] W (hB1.ext hE) hllk
          cases p with
          | true =>
            generalize lot[k].contains ws[j] = q at hcall hs
            go_wp2
            refine wp_region_ext (by kernel_rfl) (by kernel_rfl) ?_
            repeat (first | go_big_quiet_step (((go_at_call 111; with_reducible exact Calls.ext_all (fun W hE => hcall W hE)))) | quiet_step (((go_at_call 111; with_reducible exact Calls.ext_all (fun W hE => hcall W hE)))))
            refine wpQuiet_nil ?_
            intro w5 hq5
            have hb5 := ext_of_class hq5
            clear hq5
            obtain ⟨hc5, hf5, hz5⟩ := bcell3 hb5
            try simp at hz5
            go_wp2
            go_roundg (ws.length - (j + 1))
            case rel => exact ⟨j + 1, q, rfl, hjl, by simp, rfl, hd (by rw [hs.out]; simp), hE.trans hb5⟩
            case measure => omega
          | false =>
            clear hcall
            go_wp2
            refine wp_region_ext (by kernel_rfl) (by kernel_rfl) ?_
            repeat (first | go_big_quiet_step (fail) | quiet_step (fail))
            refine wpQuiet_nil ?_
            intro w5 hq5
            have hb5 := ext_of_class hq5
            clear hq5
            obtain ⟨hc5, hf5, hz5⟩ := bcell3 hb5
            try simp at hz5
            go_wp2
            go_roundg (ws.length - (j + 1))
            case rel => exact ⟨j + 1, false, rfl, hjl, by simp, rfl, hd (by rw [hs.out]; simp), hE.trans hb5⟩
            case measure => omega
        · obtain rfl : j = ws.length := by omega
          have hP2 := hP.out
          rw [List.take_length] at hP2
          have hP3 : hasAllB lot[k] ws = p := hP2
          have hO2 := hO.ext hE
          clear hP hP2
          cases p with
          | true =>
            have hv := hd (hhit0 k hkl hP3)
            clear hP3
            go_wp2_with (at_builtin; refine wpList_push2 (w0 := w) (base := w.heap.size) (xs := trueL lot ws k) encI64 (by rfl) _ _ 41 (.int .i64 0) 8 (by rfl) Tryd.underlying41 info_i64 (by rfl) ((k : Int)) (by rfl) (by rfl) (by simp) (hO2) ((hWE : Ext w _).size) (Nat.le_refl _) (hWE) (by omega) (by omega) ?_)
            intro v6 w6 hO6 hb6 hg6 _
            go_wp2
            go_roundg (lot.length - (k + 1))
            case rel => exact ⟨k + 1, rfl, hkl, by simp, hb6, by rw [hv.out]; exact hO6⟩
            case measure => omega
          | false =>
            have hv := hd (hmiss0 k hkl hP3)
            clear hP3
            go_wp2
            go_roundg (lot.length - (k + 1))
            case rel => exact ⟨k + 1, rfl, hkl, by simp, hWE, by rw [hv.out]; exact hO2⟩
            case measure => omega
    · obtain rfl : k = lot.length := by omega
      go_wp2
      go_ret
      exact ⟨_, rfl, hO, hw⟩
end Go.Proofs.YtbmompanhigmnaaDoor
set_option linter.unusedVariables false
set_option linter.unusedSimpArgs false
set_option maxRecDepth 100000
namespace Go.Proofs.YtbmompanhigmnaaDoor
open Go.RowKit
theorem filter_take (p : Int → Bool) (xs : List Int) (k : Nat) (h : k < xs.length) : (xs.take (k + 1)).filter p = if p xs[k] = true then (xs.take k).filter p ++ [xs[k]] else (xs.take k).filter p := by
  rw [List.take_succ_eq_append_getElem h, List.filter_append, List.filter_cons, List.filter_nil]
  split
  · rfl
  · rw [List.append_nil]
theorem filter_len (p : Int → Bool) (xs : List Int) (k : Nat) : ((xs.take k).filter p).length ≤ k := by
  have h1 := List.length_filter_le p (xs.take k)
  have h2 : (xs.take k).length ≤ k := by rw [List.length_take]; omega
  omega
set_option maxHeartbeats 2000000 in
theorem spec_l03False (x : Mx) (hmx : mixB x = true) (lot : List (List ByteArray)) (A : Option Addr) (cap : Nat) (ms : List Mask) (hms : ms = masksL x lot) (C : Option Addr) (nC capC : Nat) (hnC : nC = lot.length) (ws : List ByteArray) (B : Option Addr) (nB capB : Nat) (hnB : nB = ws.length) (b0 o0 : Nat) (w : World) (hM : MixAt w b0 o0 x) (hR : RdL w A lot) (hn : lot.length ≤ 1048576) (hll : ∀ l ∈ lot, l.length ≤ 1048576) (hC : Rd encMask w C ms) (hS : Rd encStr w B ws) (hm : ws.length ≤ 1048576) (hok : ∀ x ∈ ws, StrIn x) :
    Calls Tryd.prog 68 #[.pointer (some ⟨b0, o0, none⟩), .slice A lot.length cap, .slice C nC capC, .slice B nB capB] w fun e w' => ∃ v, e = .returned v ∧ Ow encI64 2 w' w.heap.size v (falseL x lot ws) ∧ Ext w w' := by
  subst hnC
  subst hnB
  have hml : ms.length = lot.length := by rw [hms, masksL_len]
  have hres := false_spec x lot ws
  rw [← hms] at hres
  clear hms
  have htr := fun (W : World) (hE : Ext w W) => spec_l03True lot A cap ws B capB W (hR.ext hE) hn hll (hS.ext hE) hm
  have hal := fun (W : World) (hE : Ext w W) => spec_l03All x hmx ws B capB b0 o0 W (hM.ext hE) (hS.ext hE) hm hok
  have hdr := fun (W : World) (hE : Ext w W) => spec_l03Dropped (wallM x ws) ms C capC W (hC.ext hE) (by omega)
  rw [hml] at hdr
  have hdl := droppedL_len (wallM x ws) ms lot.length
  have htl := trueL_len lot ws lot.length
  generalize droppedL (wallM x ws) ms lot.length = L at hres hdr hdl
  generalize trueL lot ws lot.length = O at hres htr htl
  generalize wallM x ws = h at hal hdr
  have htk := fun k (h : k < L.length) => filter_take (fun v => !O.contains v) L k h
  have hfl := fun k => filter_len (fun v => !O.contains v) L k
  have hall : (L.take L.length).filter (fun v => !O.contains v) = falseL x lot ws := by rw [List.take_length, hres]
  generalize falseL x lot ws = r at hall ⊢
  clear hres
  go_enter Tryd.func68, Tryd.ntmps68
  go_wp2_with fail
  refine Calls.mono (htr _ (Ext.refl _)) ?_
  rintro e w1 ⟨v1, rfl, hO1, hb1⟩
  obtain ⟨A1, cap1, rfl, hle1, hR1⟩ := hO1.slice
  clear hO1
  go_wp2_with fail
  refine Calls.mono (hal _ hb1) ?_
  rintro e w2 ⟨rfl, hb2⟩
  have hw2 := hb1.trans hb2
  have hR1 := hR1.ext hb2
  go_wp2_with fail
  refine Calls.mono (hdr _ hw2) ?_
  rintro e w3 ⟨v3, rfl, hO3, hb3⟩
  obtain ⟨A3, cap3, rfl, hle3, hR3⟩ := hO3.slice
  have hw3 := hw2.trans hb3
  have hR1 := hR1.ext hb3
  clear hO3 hb1 hb2 hb3 hw2 htr hal hdr
  go_wp2
  go_loopg [11, 12] L.length (fun g v i wr => ∃ k : Nat, g = L.length - k ∧ k ≤ L.length ∧ i = .int .i64 k ∧ Ext w3 wr ∧ Ow encI64 2 wr w3.heap.size v ((L.take k).filter (fun v => !O.contains v)))
  case atStart => exact ⟨0, by omega, by omega, rfl, (Ext.refl _).alloc _, by rw [List.take_zero]; exact Ow.made0 rfl (Nat.le_refl _)⟩
  case round =>
    obtain ⟨k, hg, hk, rfl, hw, hO⟩ := hrel
    by_cases hkl : k < L.length
    · obtain ⟨b, off, hA, hlt, _⟩ := hR3 k hkl
      subst hA
      have m0 := (hR3.ext hw).i64 k hkl
      have m1 := World.block_lt_of_cell? _ _ m0
      dsimp only at m1
      have hsu := htk k hkl
      have hl := hfl k
      have hcall := fun (W : World) (hE : Ext wr W) => spec_l00Has O A1 _ cap1 rfl L[k] W ((hR1.ext hw).ext hE) (by omega)
      generalize hys : (L.take k).filter (fun v => !O.contains v) = ys at hO hsu hl
      clear hys
      cases hq : O.contains L[k] with
      | true =>
        rw [hq] at hcall
        rw [hq] at hsu
        have hsu := hd hsu
        clear hq
        go_wp2_with fail
        refine Calls.mono (hcall _ (Ext.refl _)) ?_
        rintro e w5 ⟨rfl, hb5⟩
        go_wp2
        go_roundg (L.length - (k + 1))
        case rel => exact ⟨k + 1, rfl, hkl, by simp, hw.trans hb5, by rw [hsu.out]; exact hO.ext hb5⟩
        case measure => omega
      | false =>
        rw [hq] at hcall
        rw [hq] at hsu
        have hsu := hd hsu
        clear hq
        go_wp2_with fail
        refine Calls.mono (hcall _ (Ext.refl _)) ?_
        rintro e w5 ⟨rfl, hb5⟩
        have hO5 := hO.ext hb5
        have hw5 := hw.trans hb5
        have m0 := hb5.cell m0
        have m1 := World.block_lt_of_cell? _ _ m0
        dsimp only at m1
        clear hO hb5
        go_wp2_with (at_builtin; refine wpList_push2 (w0 := w3) (base := w3.heap.size) (xs := ys) encI64 (by rfl) _ _ 41 (.int .i64 0) 8 (by rfl) Tryd.underlying41 info_i64 (by rfl) (L[k]) (by rfl) (by rfl) (by simp) (hO5) ((hw5 : Ext w3 _).size) (Nat.le_refl _) (hw5) (by omega) (by omega) ?_)
        intro v6 w6 hO6 hb6 hg6 _
        go_wp2
        go_roundg (L.length - (k + 1))
        case rel => exact ⟨k + 1, rfl, hkl, by simp, hb6, by rw [hsu.out]; exact hO6⟩
        case measure => omega
    · obtain rfl : k = L.length := by omega
      rw [hall] at hO
      go_wp2
      go_ret
      exact ⟨_, rfl, hO.lower hw3.size, hw3.trans hw⟩
set_option maxHeartbeats 2000000 in
theorem spec_FalseOf (x : Mx) (hxi : MxIn x) (lot : List (List ByteArray)) (A : Option Addr) (cap : Nat) (ws : List ByteArray) (B : Option Addr) (capB : Nat) (w : World) (hR : RdL w A lot) (hn : lot.length ≤ 1048576) (hll : ∀ l ∈ lot, l.length ≤ 1048576) (hokL : ∀ l ∈ lot, ∀ x ∈ l, StrIn x) (hS : Rd encStr w B ws) (hm : ws.length ≤ 1048576) (hok : ∀ x ∈ ws, StrIn x) :
    Calls Tryd.prog 34 #[.agg #[.int .i16 x.st, .int .i16 x.sz, .int .i16 x.per], .slice A lot.length cap, .slice B ws.length capB] w fun e w' => ∃ v, e = .returned (.tuple #[v, .int .i64 (falseF x lot ws).2]) ∧ Ow encI64 2 w' w.heap.size v (falseF x lot ws).1 ∧ Ext w w' := by
  have hM0 : ∀ W, BoxAt W w.heap.size #[.int .i16 x.st, .int .i16 x.sz, .int .i16 x.per] 30 → MixAt W w.heap.size 0 x := fun W h => ⟨h.cell 0, h.cell 1, h.cell 2⟩
  have h1 := fun (W : World) (hE : Ext w W) => spec_MixLot x hxi lot A cap W (hR.ext hE) hn hll hokL
  have h2 := fun (W : World) (hE : Ext w W) => spec_l03Words ws B capB 12 W (hS.ext hE) hm hok
  have k1 := false_bad (x := x) (lot := lot) (ws := ws)
  have k2 := false_far (x := x) (lot := lot) (ws := ws)
  have k3 := false_ok (x := x) (lot := lot) (ws := ws)
  have hX0 : BoxAt (w.alloc (.cells #[.int .i16 x.st, .int .i16 x.sz, .int .i16 x.per] 30)) w.heap.size #[.int .i16 x.st, .int .i16 x.sz, .int .i16 x.per] 30 := BoxAt.new' rfl
  have hE0 : Ext w (w.alloc (.cells #[.int .i16 x.st, .int .i16 x.sz, .int .i16 x.per] 30)) := (Ext.refl _).alloc _
  cases hq : mixB x with
  | false =>
    have hv := hd (k1 hq)
    rw [mixLot_bad hq] at h1
    dsimp only at h1
    clear k1 k2 k3 h2
    go_enter Tryd.func34, Tryd.ntmps34
    go_wp2_with fail
    refine Calls.mono (h1 _ hE0) ?_
    rintro e w1 ⟨v1, rfl, hO1, hb1⟩
    have hw1 := hE0.trans hb1
    go_wp2
    refine bodyPost_ret (v := .tuple #[.slice (some ⟨w1.heap.size, 0, none⟩) 0 0, .int .i64 1]) (by simp [results, Tryd.results34, go_sem]) rfl ⟨_, by rw [hv.out], by rw [hv.out]; exact Ow.made0 rfl hw1.size, hw1.alloc _⟩
  | true =>
    cases hl : lotB lot with
    | false =>
      have hv := hd (k2 hq (by rw [hl]; rfl))
      rw [mixLot_far hq hl] at h1
      dsimp only at h1
      clear k1 k2 k3 h2
      go_enter Tryd.func34, Tryd.ntmps34
      go_wp2_with fail
      refine Calls.mono (h1 _ hE0) ?_
      rintro e w1 ⟨v1, rfl, hO1, hb1⟩
      have hw1 := hE0.trans hb1
      go_wp2
      refine bodyPost_ret (v := .tuple #[.slice (some ⟨w1.heap.size, 0, none⟩) 0 0, .int .i64 2]) (by simp [results, Tryd.results34, go_sem]) rfl ⟨_, by rw [hv.out], by rw [hv.out]; exact Ow.made0 rfl hw1.size, hw1.alloc _⟩
    | true =>
      rw [mixLot_ok hq hl] at h1
      dsimp only at h1
      cases hw : wordsB ws 12 with
      | false =>
        have hv := hd (k2 hq (by rw [hl, hw]; rfl))
        rw [wordsF_bad hw] at h2
        clear k1 k2 k3
        go_enter Tryd.func34, Tryd.ntmps34
        go_wp2_with fail
        refine Calls.mono (h1 _ hE0) ?_
        rintro e w1 ⟨v1, rfl, hO1, hb1⟩
        have hw1 := hE0.trans hb1
        go_wp2_with fail
        refine Calls.mono (h2 _ hw1) ?_
        rintro e w2 ⟨rfl, hb2⟩
        have hw2 := hw1.trans hb2
        go_wp2
        refine bodyPost_ret (v := .tuple #[.slice (some ⟨w2.heap.size, 0, none⟩) 0 0, .int .i64 2]) (by simp [results, Tryd.results34, go_sem]) rfl ⟨_, by rw [hv.out], by rw [hv.out]; exact Ow.made0 rfl hw2.size, hw2.alloc _⟩
      | true =>
        have hv := hd (k3 hq (by rw [hl, hw]; rfl))
        rw [wordsF_ok hw] at h2
        clear k1 k2 k3
        have h3 := fun (C : Option Addr) (capC : Nat) (W : World) (h : MixAt W w.heap.size 0 x) (hE : Ext w W) (hC : Rd encMask W C (masksL x lot)) => spec_l03False x hq lot A cap _ rfl C (masksL x lot).length capC (masksL_len x lot) ws B _ capB rfl w.heap.size 0 W h (hR.ext hE) hn hll hC (hS.ext hE) hm hok
        generalize falseL x lot ws = r at h3 hv
        go_enter Tryd.func34, Tryd.ntmps34
        go_wp2_with fail
        refine Calls.mono (h1 _ hE0) ?_
        rintro e w1 ⟨v1, rfl, hO1, hb1⟩
        obtain ⟨C, capC, rfl, hleC, hRC⟩ := hO1.slice
        have hw1 := hE0.trans hb1
        have hX := hX0.ext hb1
        go_wp2_with fail
        refine Calls.mono (h2 _ hw1) ?_
        rintro e w2 ⟨rfl, hb2⟩
        have hw2 := hw1.trans hb2
        have hX := hX.ext hb2
        have hRC := hRC.ext hb2
        go_wp2_with fail
        refine Calls.mono (h3 C capC _ (hM0 _ hX) hw2 hRC) ?_
        rintro e w3 ⟨v3, rfl, hO3, hb3⟩
        go_wp2
        refine bodyPost_ret (v := .tuple #[v3, .int .i64 0]) (by simp [results, Tryd.results34, go_sem]) rfl ⟨_, by rw [hv.out], by rw [hv.out]; exact hO3.lower hw2.size, hw2.trans hb3⟩
set_option maxHeartbeats 2000000 in
theorem impl_falseOf (x : Mx) (hmx : mixB x = true) (lot : List (List ByteArray)) (A : Option Addr) (cap : Nat) (ws : List ByteArray) (B : Option Addr) (capB : Nat) (w : World) (hR : RdL w A lot) (hn : lot.length ≤ 1048576) (hll : ∀ l ∈ lot, l.length ≤ 1048576) (hokL : ∀ l ∈ lot, ∀ x ∈ l, StrIn x) (hS : Rd encStr w B ws) (hm : ws.length ≤ 1048576) (hok : ∀ x ∈ ws, StrIn x) :
    Calls Tryd.prog 70 #[.agg #[.int .i16 x.st, .int .i16 x.sz, .int .i16 x.per], .slice A lot.length cap, .slice B ws.length capB] w fun e w' => ∃ v, e = .returned v ∧ Ow encI64 2 w' w.heap.size v (falseL x lot ws) ∧ Ext w w' := by
  have hal := fun (W : World) (hE : Ext w W) => impl_holesOf x hmx ws B capB W (hS.ext hE) hm hok
  have hho := fun k (h : k < lot.length) (B1 : Option Addr) (c : Nat) (W : World) (hB : Rd encStr W B1 lot[k]) => impl_holesOf x hmx lot[k] B1 c W hB (hll _ (List.getElem_mem h)) (hokL _ (List.getElem_mem h))
  have hhit0 := fun k (h : k < lot.length) => falseTo_hit (x := x) (ws := ws) h
  have hmissA := fun k (h : k < lot.length) => falseTo_miss1 (x := x) (ws := ws) h
  have hmissB := fun k (h : k < lot.length) => falseTo_miss2 (x := x) (ws := ws) h
  have hz := falseTo_zero x lot ws
  have hall := falseTo_all x lot ws
  have hlen := falseTo_len x lot ws
  generalize falseL x lot ws = r at hall ⊢
  generalize wallM x ws = hh at hal hhit0 hmissA
  obtain ⟨st, sz, per⟩ := x
  dsimp only at hal hho
  have hE0 : Ext w ((w.alloc (.cells #[.int .i16 st, .int .i16 sz, .int .i16 per] 30)).alloc (.cells #[] 2)) := ((Ext.refl _).alloc _).alloc _
  have hx := @ExtOf.cell
  go_enter Tryd.func70, Tryd.ntmps70
  go_wp2_with fail
  refine Calls.mono (hal _ hE0) ?_
  rintro e w1 ⟨rfl, hb1⟩
  have hX : BoxAt w1 w.heap.size #[.int .i16 st, .int .i16 sz, .int .i16 per] 30 := ((BoxAt.new' rfl).alloc _).ext hb1
  have hO : Ow encI64 2 w1 (w.heap.size + 1) (.slice (some ⟨w.heap.size + 1, 0, none⟩) 0 0) [] := (Ow.made0 (by simp) (by simp)).ext hb1
  have hw1 := hE0.trans hb1
  have lX1 := hX.lt
  clear hb1 hal hE0
  go_wp2
  go_loopg [7, 17] lot.length (fun g v i wr => ∃ k : Nat, g = lot.length - k ∧ k ≤ lot.length ∧ i = .int .i64 k ∧ Ext w wr ∧ BoxAt wr w.heap.size #[.int .i16 st, .int .i16 sz, .int .i16 per] 30 ∧ BoxAt wr w1.heap.size #[.int .u64 (lo hh), .int .u64 (hi hh)] 53 ∧ Ow encI64 2 wr (w.heap.size + 1) v (falseTo ⟨st, sz, per⟩ lot ws k) ∧ v.ownBlock ≠ some w1.heap.size)
  case atStart => exact ⟨0, by omega, by omega, rfl, hw1.alloc _, hX.alloc _, BoxAt.new' rfl, by rw [hz]; exact hO.ext ((Ext.refl _).alloc _), fun e => by have := (hO.lt _ e).2; omega⟩
  case round =>
    obtain ⟨k, hg, hk, rfl, hw, hX, hB, hO, hne⟩ := hrel
    by_cases hkl : k < lot.length
    · obtain ⟨b, off, rfl, hlt1⟩ := hR.block k hkl
      obtain ⟨B1, c1, m0, hB1⟩ := (hR.ext hw).at k hkl
      have l1 := World.block_lt_of_cell? _ _ m0
      dsimp only at l1
      have x0 : wr.cell? ⟨w.heap.size, 0, none⟩ = some (.int .i16 st) := hX.cell 0
      have x1 : wr.cell? ⟨w.heap.size, 1, none⟩ = some (.int .i16 sz) := hX.cell 1
      have x2 : wr.cell? ⟨w.heap.size, 2, none⟩ = some (.int .i16 per) := hX.cell 2
      have y0 : wr.cell? ⟨w1.heap.size, 0, none⟩ = some (.int .u64 (lo hh)) := hB.cell 0
      have y1 : wr.cell? ⟨w1.heap.size, 1, none⟩ = some (.int .u64 (hi hh)) := hB.cell 1
      have lX := hX.lt
      have lB := hB.lt
      have hl := hlen k
      have hcall := fun (W : World) (hE : Ext wr W) => hho k hkl B1 c1 W (hB1.ext hE)
      have hha := fun (W : World) (hE : Ext wr W) => impl_hasAll lot[k] B1 c1 ws B capB W (hB1.ext hE) (hll _ (List.getElem_mem hkl)) ((hS.ext hw).ext hE) hm
      have hit := fun a b => hd (hhit0 k hkl a b)
      have missA := fun a => hd (hmissA k hkl a)
      have missB := fun a => hd (hmissB k hkl a)
      generalize wallM ⟨st, sz, per⟩ lot[k] = q at hcall hit missA
      have hwi := fun W => impl_IsWithin hh q W
      cases hq : mwin hh q with
      | true =>
        rw [hq] at hwi
        cases hq2 : hasAllB lot[k] ws with
        | true =>
          rw [hq2] at hha
          have hv := missB hq2
          clear hit missA missB hq hq2
          go_wp2
          refine wp_region_ext (by kernel_rfl) (by kernel_rfl) ?_
          repeat (first | go_big_quiet_step ((first | (go_at_call 47; with_reducible exact Calls.ext_all (fun W hE => hcall W hE)) | (go_at_call 56; with_reducible exact Calls.ext_all (fun W _ => hwi W)) | (go_at_call 95; with_reducible exact Calls.ext_all (fun W hE => hha W hE)))) | quiet_step ((first | (go_at_call 47; with_reducible exact Calls.ext_all (fun W hE => hcall W hE)) | (go_at_call 56; with_reducible exact Calls.ext_all (fun W _ => hwi W)) | (go_at_call 95; with_reducible exact Calls.ext_all (fun W hE => hha W hE)))))
          refine wpQuiet_nil ?_
          intro w5 hq5
          have hb5 := ext_of_class hq5
          clear hq5
          obtain ⟨hc5, hf5, hz5⟩ := bcell3 hb5
          try simp at hz5
          go_wp2
          go_roundg (lot.length - (k + 1))
          case rel => exact ⟨k + 1, rfl, hkl, by simp, hw.trans hb5, hX.ext hb5, hB.ext hb5, by rw [hv.out]; exact hO.ext hb5, hne⟩
          case measure => omega
        | false =>
          rw [hq2] at hha
          have hv := hit hq hq2
          clear hit missA missB hq hq2
          go_wp2
          refine wp_region_ext (by kernel_rfl) (by kernel_rfl) ?_
          repeat (first | go_big_quiet_step ((first | (go_at_call 47; with_reducible exact Calls.ext_all (fun W hE => hcall W hE)) | (go_at_call 56; with_reducible exact Calls.ext_all (fun W _ => hwi W)) | (go_at_call 95; with_reducible exact Calls.ext_all (fun W hE => hha W hE)))) | quiet_step ((first | (go_at_call 47; with_reducible exact Calls.ext_all (fun W hE => hcall W hE)) | (go_at_call 56; with_reducible exact Calls.ext_all (fun W _ => hwi W)) | (go_at_call 95; with_reducible exact Calls.ext_all (fun W hE => hha W hE)))))
          refine wpQuiet_nil ?_
          intro w5 hq5
          have hb5 := ext_of_class hq5
          clear hq5
          obtain ⟨hc5, hf5, hz5⟩ := bcell3 hb5
          try simp at hz5
          have hX5 := hX.ext hb5
          have hB5 := hB.ext hb5
          have hO5 := hO.ext hb5
          have hw5 := hw.trans hb5
          clear hc5 hf5 hz5 hb5 x0 x1 x2 y0 y1 lX lB l1 m0 hO
          have lX := hX5.lt
          have lB := hB5.lt
          go_wp2_with (at_builtin; refine wpList_push2 (w0 := w) (base := w.heap.size + 1) (xs := falseTo ⟨st, sz, per⟩ lot ws k) encI64 (by rfl) _ _ 41 (.int .i64 0) 8 (by rfl) Tryd.underlying41 info_i64 (by rfl) ((k : Int)) (by rfl) (by rfl) (by simp) (hO5) (by have := (hw5 : Ext w _).size; simp at this ⊢; omega) (by omega) (hw5) (by omega) (by omega) ?_)
          intro v6 w6 hO6 hb6 hg6 ho6
          have n1 : ¬ some w.heap.size = u7.ownBlock := fun e => by have := (hO5.lt _ e.symm).1; omega
          have hne6 : v6.ownBlock ≠ some w1.heap.size := fun e => by
            rcases ho6 with h1 | ⟨bb, h1, h2⟩
            · exact hne (h1.symm.trans e)
            · rw [h1] at e
              have := Option.some.inj e
              omega
          go_wp2
          go_roundg (lot.length - (k + 1))
          case rel => exact ⟨k + 1, rfl, hkl, by simp, hb6, (hg6.block _ hX5.lt n1).trans hX5, (hg6.block _ hB5.lt (fun e => hne e.symm)).trans hB5, by rw [hv.out]; exact hO6, hne6⟩
          case measure => omega
      | false =>
        rw [hq] at hwi
        have hv := missA hq
        clear hit missA missB hq
        go_wp2
        refine wp_region_ext (by kernel_rfl) (by kernel_rfl) ?_
        repeat (first | go_big_quiet_step ((first | (go_at_call 47; with_reducible exact Calls.ext_all (fun W hE => hcall W hE)) | (go_at_call 56; with_reducible exact Calls.ext_all (fun W _ => hwi W)))) | quiet_step ((first | (go_at_call 47; with_reducible exact Calls.ext_all (fun W hE => hcall W hE)) | (go_at_call 56; with_reducible exact Calls.ext_all (fun W _ => hwi W)))))
        refine wpQuiet_nil ?_
        intro w5 hq5
        have hb5 := ext_of_class hq5
        clear hq5
        obtain ⟨hc5, hf5, hz5⟩ := bcell3 hb5
        try simp at hz5
        go_wp2
        go_roundg (lot.length - (k + 1))
        case rel => exact ⟨k + 1, rfl, hkl, by simp, hw.trans hb5, hX.ext hb5, hB.ext hb5, by rw [hv.out]; exact hO.ext hb5, hne⟩
        case measure => omega
    · obtain rfl : k = lot.length := by omega
      rw [hall] at hO
      go_wp2
      go_ret
      exact ⟨_, rfl, hO.lower (by omega), hw⟩
set_option maxHeartbeats 1000000 in
theorem impl_FalseOf (x : Mx) (hxi : MxIn x) (lot : List (List ByteArray)) (A : Option Addr) (cap : Nat) (ws : List ByteArray) (B : Option Addr) (capB : Nat) (w : World) (hR : RdL w A lot) (hn : lot.length ≤ 1048576) (hll : ∀ l ∈ lot, l.length ≤ 1048576) (hokL : ∀ l ∈ lot, ∀ x ∈ l, StrIn x) (hS : Rd encStr w B ws) (hm : ws.length ≤ 1048576) (hok : ∀ x ∈ ws, StrIn x) :
    Calls Tryd.prog 35 #[.agg #[.int .i16 x.st, .int .i16 x.sz, .int .i16 x.per], .slice A lot.length cap, .slice B ws.length capB] w fun e w' => ∃ v, e = .returned (.tuple #[v, .int .i64 (falseF x lot ws).2]) ∧ Ow encI64 2 w' w.heap.size v (falseF x lot ws).1 ∧ Ext w w' := by
  have h1 := fun (W : World) => impl_isMix x hxi W
  have h2 := fun (W : World) (hE : Ext w W) => impl_isLot lot A cap W (hR.ext hE) hn hll hokL
  have h3 := fun (W : World) (hE : Ext w W) => impl_areWords ws B capB 12 W (hS.ext hE) hm hok
  have h4 := fun (hq : mixB x = true) (W : World) (hE : Ext w W) => impl_falseOf x hq lot A cap ws B capB W (hR.ext hE) hn hll hokL (hS.ext hE) hm hok
  have k1 := false_bad (x := x) (lot := lot) (ws := ws)
  have k2 := false_far (x := x) (lot := lot) (ws := ws)
  have k3 := false_ok (x := x) (lot := lot) (ws := ws)
  generalize falseL x lot ws = r at k3 h4
  obtain ⟨st, sz, per⟩ := x
  dsimp only at h1 h4
  generalize mixB ⟨st, sz, per⟩ = p at h1 h4 k1 k2 k3
  generalize lotB lot = q at h2 k2 k3
  generalize wordsB ws 12 = q2 at h3 k2 k3
  have hE0 : Ext w (w.alloc (.cells #[.int .i16 st, .int .i16 sz, .int .i16 per] 30)) := (Ext.refl _).alloc _
  have hX0 : BoxAt (w.alloc (.cells #[.int .i16 st, .int .i16 sz, .int .i16 per] 30)) w.heap.size #[.int .i16 st, .int .i16 sz, .int .i16 per] 30 := BoxAt.new' rfl
  cases p with
  | false =>
    have hv := hd (k1 rfl)
    clear k1 k2 k3 h4
    go_enter Tryd.func35, Tryd.ntmps35
    go_wp2_with fail
    refine Calls.mono (h1 _) ?_
    rintro e w1 ⟨rfl, hb1⟩
    have hw1 := hE0.trans hb1
    go_wp2
    refine bodyPost_ret (v := .tuple #[.slice none 0 0, .int .i64 1]) (by simp [results, Tryd.results35, go_sem]) rfl ⟨_, by rw [hv.out], by rw [hv.out]; exact Ow.nil _ _ _ _, hw1⟩
  | true =>
    replace h4 := h4 rfl
    cases q2 with
    | false =>
      have hv := hd (k2 rfl (by cases q <;> rfl))
      clear k1 k2 k3 h4
      go_enter Tryd.func35, Tryd.ntmps35
      go_wp2_with fail
      refine Calls.mono (h1 _) ?_
      rintro e w1 ⟨rfl, hb1⟩
      have hw1 := hE0.trans hb1
      go_wp2_with fail
      refine Calls.mono (h3 _ hw1) ?_
      rintro e w2 ⟨rfl, hb2⟩
      go_wp2
      refine bodyPost_ret (v := .tuple #[.slice none 0 0, .int .i64 2]) (by simp [results, Tryd.results35, go_sem]) rfl ⟨_, by rw [hv.out], by rw [hv.out]; exact Ow.nil _ _ _ _, hw1.trans hb2⟩
    | true =>
      cases q with
      | false =>
        have hv := hd (k2 rfl rfl)
        clear k1 k2 k3 h4
        go_enter Tryd.func35, Tryd.ntmps35
        go_wp2_with fail
        refine Calls.mono (h1 _) ?_
        rintro e w1 ⟨rfl, hb1⟩
        have hw1 := hE0.trans hb1
        go_wp2_with fail
        refine Calls.mono (h3 _ hw1) ?_
        rintro e w2 ⟨rfl, hb2⟩
        have hw2 := hw1.trans hb2
        go_wp2_with fail
        refine Calls.mono (h2 _ hw2) ?_
        rintro e w3 ⟨rfl, hb3⟩
        go_wp2
        refine bodyPost_ret (v := .tuple #[.slice none 0 0, .int .i64 2]) (by simp [results, Tryd.results35, go_sem]) rfl ⟨_, by rw [hv.out], by rw [hv.out]; exact Ow.nil _ _ _ _, hw2.trans hb3⟩
      | true =>
        have hv := hd (k3 rfl rfl)
        clear k1 k2 k3
        go_enter Tryd.func35, Tryd.ntmps35
        go_wp2_with fail
        refine Calls.mono (h1 _) ?_
        rintro e w1 ⟨rfl, hb1⟩
        have hw1 := hE0.trans hb1
        have hX := hX0.ext hb1
        go_wp2_with fail
        refine Calls.mono (h3 _ hw1) ?_
        rintro e w2 ⟨rfl, hb2⟩
        have hw2 := hw1.trans hb2
        have hX := hX.ext hb2
        go_wp2_with fail
        refine Calls.mono (h2 _ hw2) ?_
        rintro e w3 ⟨rfl, hb3⟩
        have hw3 := hw2.trans hb3
        have hX := hX.ext hb3
        have x0 : w3.cell? ⟨w.heap.size, 0, none⟩ = some (.int .i16 st) := hX.cell 0
        have x1 : w3.cell? ⟨w.heap.size, 1, none⟩ = some (.int .i16 sz) := hX.cell 1
        have x2 : w3.cell? ⟨w.heap.size, 2, none⟩ = some (.int .i16 per) := hX.cell 2
        have lX := hX.lt
        go_wp2_with fail
        refine Calls.mono (h4 _ hw3) ?_
        rintro e w4 ⟨v4, rfl, hO4, hb4⟩
        go_wp2
        refine bodyPost_ret (v := .tuple #[v4, .int .i64 0]) (by simp [results, Tryd.results35, go_sem]) rfl ⟨_, by rw [hv.out], by rw [hv.out]; exact hO4.lower hw3.size, hw3.trans hb4⟩
end Go.Proofs.YtbmompanhigmnaaDoor
set_option linter.unusedVariables false
set_option linter.unusedSimpArgs false
set_option maxRecDepth 100000
namespace Go.Proofs.YtbmompanhigmnaaDoor
open Go.RowKit
theorem firsts_step {α : Type} [DecidableEq α] (xs : List α) (x : α) : firsts (xs ++ [x]) = if x ∈ firsts xs then firsts xs else firsts xs ++ [x] := by
  have e : firsts (xs ++ [x]) = if (firsts xs).contains x = true then firsts xs else firsts xs ++ [x] := by
    unfold firsts
    rw [List.foldl_append]
    rfl
  rw [e]
  by_cases h : x ∈ firsts xs
  · rw [if_pos h, if_pos (List.contains_iff_mem.2 h)]
  · rw [if_neg h, if_neg (fun e => h (List.contains_iff_mem.1 e))]
theorem firsts_snoc (xs : List ByteArray) (x : ByteArray) : firsts (xs ++ [x]) = if x ∈ firsts xs then firsts xs else firsts xs ++ [x] := by rw [firsts_step]; by_cases h : x ∈ firsts xs <;> simp [h]
theorem firsts_have {xs : List ByteArray} {x : ByteArray} (h : (firsts xs).contains x = true) : firsts (xs ++ [x]) = firsts xs := by rw [firsts_snoc, if_pos (List.contains_iff_mem.1 h)]
theorem firsts_new {xs : List ByteArray} {x : ByteArray} (h : (firsts xs).contains x = false) : firsts (xs ++ [x]) = firsts xs ++ [x] := by
  rw [firsts_snoc, if_neg (fun e => by rw [List.contains_iff_mem.2 e] at h; cases h)]
theorem firsts_fold_len {α : Type} [DecidableEq α] (xs : List α) : ∀ acc : List α, (xs.foldl (fun acc x => if acc.contains x then acc else acc ++ [x]) acc).length ≤ acc.length + xs.length := by
  induction xs with
  | nil => intro acc; simp
  | cons x xs ih =>
    intro acc
    rw [List.foldl_cons]
    refine Nat.le_trans (ih _) ?_
    rw [List.length_cons]
    split
    · omega
    · rw [List.length_append, List.length_singleton]; omega
theorem firsts_len (xs : List ByteArray) : (firsts xs).length ≤ xs.length := by
  have := firsts_fold_len xs []
  simpa [firsts] using this
theorem flat_len (lot : List (List ByteArray)) : lot.flatten.length = tot lot := by unfold tot; rw [List.length_flatten]
theorem flat_take (lot : List (List ByteArray)) (k : Nat) (h : k < lot.length) : (lot.take (k + 1)).flatten = (lot.take k).flatten ++ lot[k] := by
  rw [List.take_succ_eq_append_getElem h, List.flatten_append]; simp
theorem tot_le (lot : List (List ByteArray)) (j : Nat) : tot (lot.take j) ≤ tot lot := by
  have h1 : tot lot = tot (lot.take j) + tot (lot.drop j) := by
    unfold tot
    rw [← List.sum_append, ← List.map_append, List.take_append_drop]
  omega
theorem tot_lot {lot : List (List ByteArray)} (h : lotB lot = true) : tot lot ≤ 720 := by
  obtain ⟨h1, h2⟩ := lot_all h
  have : ∀ l : List (List ByteArray), (∀ x ∈ l, x.length ≤ 12) → tot l ≤ 12 * l.length := by
    intro l
    unfold tot
    induction l with
    | nil => intro _; simp
    | cons x xs ih =>
      intro hx
      rw [List.map_cons, List.sum_cons, List.length_cons]
      have a := hx x (List.mem_cons_self ..)
      have b := ih (fun y hy => hx y (List.mem_cons_of_mem _ hy))
      omega
  have := this lot (fun x hx => (h2 x hx).1)
  omega
theorem Rd.one {w : World} {b off : Nat} {ws : List ByteArray} (h : Rd encStr w (some ⟨b, off, none⟩) ws) (k : Nat) (hk : k < ws.length) : Rd encStr w (some ⟨b, off + k, none⟩) [ws[k]] := by
  intro j hj
  obtain rfl : j = 0 := by simpa using hj
  obtain ⟨b', o', e1, hlt, hc⟩ := h k hk
  simp only [Option.some.injEq, Addr.mk.injEq, and_true] at e1
  obtain ⟨rfl, rfl⟩ := e1
  refine ⟨b, off + k, rfl, hlt, fun i u hu => ?_⟩
  have := hc i u hu
  rw [show k * encStr.sz = k from Nat.mul_one k] at this
  rw [show (0 : Nat) * encStr.sz = 0 from Nat.zero_mul _, Nat.add_zero]
  exact this
/-- The false drops of one word. -/
noncomputable def oneN (x : Mx) (lot : List (List ByteArray)) (s : ByteArray) : Nat := (falseL x lot [s]).length
theorem oneN_le (x : Mx) (lot : List (List ByteArray)) (s : ByteArray) : oneN x lot s ≤ lot.length := by
  unfold oneN; rw [← falseTo_all]; exact falseTo_len _ _ _ _
noncomputable def sumTo (x : Mx) (lot : List (List ByteArray)) (ws : List ByteArray) (k : Nat) : Nat := ((ws.take k).map (oneN x lot)).sum
theorem sumTo_zero (x : Mx) (lot : List (List ByteArray)) (ws : List ByteArray) : sumTo x lot ws 0 = 0 := rfl
theorem sumTo_succ (x : Mx) (lot : List (List ByteArray)) (ws : List ByteArray) (k : Nat) (h : k < ws.length) : sumTo x lot ws (k + 1) = sumTo x lot ws k + oneN x lot ws[k] := by
  unfold sumTo; rw [List.take_succ_eq_append_getElem h, List.map_append, List.sum_append]; simp
theorem sumTo_le (x : Mx) (lot : List (List ByteArray)) (ws : List ByteArray) (h60 : lot.length ≤ 60) : ∀ k, k ≤ ws.length → sumTo x lot ws k ≤ 60 * k
  | 0, _ => Nat.le_refl _
  | k + 1, h => by
    have h1 := sumTo_le x lot ws h60 k (by omega)
    have h2 := oneN_le x lot ws[k]
    rw [sumTo_succ x lot ws k (by omega)]
    omega
theorem sumTo_all (x : Mx) (lot : List (List ByteArray)) : sumTo x lot (firsts lot.flatten) (firsts lot.flatten).length = sumF x lot := by
  unfold sumTo sumF; rw [List.take_length]; rfl
theorem sumF_le {x : Mx} {lot : List (List ByteArray)} (h : lotB lot = true) : sumF x lot ≤ 43200 := by
  have h1 := sumTo_le x lot (firsts lot.flatten) (lot_all h).1 _ (Nat.le_refl _)
  rw [sumTo_all] at h1
  have h2 := firsts_len lot.flatten
  rw [flat_len] at h2
  have h3 := tot_lot h
  omega
attribute [irreducible] sumTo oneN
noncomputable def countF (x : Mx) (lot : List (List ByteArray)) : Int × Int := if mixB x = true then (if lotB lot = true then ((sumF x lot : Int), 0) else (0, 2)) else (0, 1)
theorem count_bad {x : Mx} {lot : List (List ByteArray)} (h : mixB x = false) : countF x lot = (0, 1) := by unfold countF; rw [h]; rfl
theorem count_far {x : Mx} {lot : List (List ByteArray)} (h : mixB x = true) (h2 : lotB lot = false) : countF x lot = (0, 2) := by unfold countF; rw [h, h2]; rfl
theorem count_ok {x : Mx} {lot : List (List ByteArray)} (h : mixB x = true) (h2 : lotB lot = true) : countF x lot = ((sumF x lot : Int), 0) := by unfold countF; rw [h, h2]; rfl
set_option maxHeartbeats 2000000 in
theorem spec_l03Different (lot : List (List ByteArray)) (A : Option Addr) (cap : Nat) (w : World) (hR : RdL w A lot) (hn : lot.length ≤ 1048576) (hll : ∀ l ∈ lot, l.length ≤ 1048576) (ht : tot lot ≤ 1048576) :
    Calls Tryd.prog 96 #[.slice A lot.length cap] w fun e w' => ∃ v, e = .returned v ∧ Ow encStr 9 w' w.heap.size v (firsts lot.flatten) ∧ Ext w w' := by
  have hfl := fun k (h : k < lot.length) => flat_take lot k h
  have hfll := fun k => flat_len (lot.take k)
  have htl := tot_le lot
  have hts := fun k (h : k < lot.length) => tot_take lot k h
  have hall : (lot.take lot.length).flatten = lot.flatten := by rw [List.take_length]
  go_enter Tryd.func96, Tryd.ntmps96
  go_wp2
  go_loopg [3, 4] lot.length (fun g v i wr => ∃ k : Nat, g = lot.length - k ∧ k ≤ lot.length ∧ i = .int .i64 k ∧ Ext w wr ∧ Ow encStr 9 wr w.heap.size v (firsts (lot.take k).flatten))
  case atStart => exact ⟨0, by omega, by omega, rfl, (Ext.refl _).alloc _, by rw [List.take_zero]; exact Ow.made0 rfl (Nat.le_refl _)⟩
  case round =>
    obtain ⟨k, hg, hk, rfl, hw, hO⟩ := hrel
    by_cases hkl : k < lot.length
    · obtain ⟨b, off, rfl, hlt1⟩ := hR.block k hkl
      have hllk := hll _ (List.getElem_mem hkl)
      have hsu := hd (hfl k hkl)
      have hP1 := hfll k
      have hP2 := htl (k + 1)
      have hP3 := hts k hkl
      generalize (lot.take k).flatten = P at hO hsu hP1
      obtain ⟨wo, hwo⟩ : ∃ x, x = wr := ⟨_, rfl⟩
      subst hwo
      go_wp2
      go_loopg [3, 5] lot[k].length (fun g v i wr2 => ∃ j : Nat, g = lot[k].length - j ∧ j ≤ lot[k].length ∧ i = .int .i64 j ∧ Ext w wr2 ∧ Ow encStr 9 wr2 w.heap.size v (firsts (P ++ lot[k].take j)))
      case atStart => exact ⟨0, by omega, by omega, rfl, hw, by rw [List.take_zero, List.append_nil]; exact hO⟩
      case round =>
        obtain ⟨j, hg2, hj, rfl, hE, hO2⟩ := hrel
        obtain ⟨B1, c1, m0, hB1⟩ := (hR.ext hE).at k hkl
        have l1 := World.block_lt_of_cell? _ _ m0
        dsimp only at l1
        by_cases hjl : j < lot[k].length
        · obtain ⟨bB, oB, hB, hltB, _⟩ := hB1 j hjl
          subst hB
          obtain ⟨n0, n1⟩ := hB1.strs j hjl
          have hnx : P ++ lot[k].take (j + 1) = (P ++ lot[k].take j) ++ [lot[k][j]] := by rw [List.take_succ_eq_append_getElem hjl, List.append_assoc]
          have hQl : (P ++ lot[k].take j).length ≤ 1048576 := by rw [List.length_append, List.length_take]; omega
          generalize P ++ lot[k].take j = Q at hO2 hnx hQl
          have hfQ := firsts_len Q
          obtain ⟨A2, c2, rfl, hle2, hR2⟩ := hO2.slice
          have hcall := fun (W : World) (hE : Ext wr W) => spec_l03Has (firsts Q) A2 _ c2 rfl lot[k][j] W (hR2.ext hE) (by omega)
          cases hq : (firsts Q).contains lot[k][j] with
          | true =>
            rw [hq] at hcall
            have hv := hd (show firsts (P ++ lot[k].take (j + 1)) = firsts Q by rw [hnx, firsts_have hq])
            clear hq hnx
            go_wp2_with fail
            refine Calls.mono (hcall _ (Ext.refl _)) ?_
            rintro e w5 ⟨rfl, hb5⟩
            go_wp2
            go_roundg (lot[k].length - (j + 1))
            case rel => exact ⟨j + 1, rfl, hjl, by simp, hE.trans hb5, by rw [hv.out]; exact hO2.ext hb5⟩
            case measure => omega
          | false =>
            rw [hq] at hcall
            have hv := hd (show firsts (P ++ lot[k].take (j + 1)) = firsts Q ++ [lot[k][j]] by rw [hnx, firsts_new hq])
            clear hq hnx
            go_wp2_with fail
            refine Calls.mono (hcall _ (Ext.refl _)) ?_
            rintro e w5 ⟨rfl, hb5⟩
            have hO5 := hO2.ext hb5
            have hE5 := hE.trans hb5
            have m0 := hb5.cell m0
            have l1 := World.block_lt_of_cell? _ _ m0
            have n0 := hb5.cell n0
            have n1 := World.block_lt_of_cell? _ _ n0
            dsimp only at l1 n1
            clear hO2 hb5
            go_wp2_with (at_builtin; refine wpList_push2 (w0 := w) (base := w.heap.size) (xs := firsts Q) encStr (by rfl) _ _ 38 (.string ⟨#[]⟩) 16 (by rfl) Tryd.underlying38 info_str (by rfl) (lot[k][j]) (by rfl) (by rfl) (by simp) (hO5) ((hE5 : Ext w _).size) (Nat.le_refl _) (hE5) (by omega) (by omega) ?_)
            intro v6 w6 hO6 hb6 hg6 ho6
            go_wp2
            go_roundg (lot[k].length - (j + 1))
            case rel => exact ⟨j + 1, rfl, hjl, by simp, hb6, by rw [hv.out]; exact hO6⟩
            case measure => omega
        · obtain rfl : j = lot[k].length := by omega
          rw [List.take_length] at hO2
          go_wp2
          go_roundg (lot.length - (k + 1))
          case rel => exact ⟨k + 1, rfl, hkl, by simp, hE, by rw [hsu.out]; exact hO2⟩
          case measure => omega
    · obtain rfl : k = lot.length := by omega
      rw [hall] at hO
      go_wp2
      go_ret
      exact ⟨_, rfl, hO, hw⟩
set_option maxHeartbeats 2000000 in
theorem spec_l03Sum (x : Mx) (hmx : mixB x = true) (lot : List (List ByteArray)) (hlb : lotB lot = true) (A : Option Addr) (cap : Nat) (b0 o0 : Nat) (w : World) (hM : MixAt w b0 o0 x) (hR : RdL w A lot) (hok : ∀ l ∈ lot, ∀ x ∈ l, StrIn x) :
    Calls Tryd.prog 74 #[.pointer (some ⟨b0, o0, none⟩), .slice A lot.length cap] w fun e w' => e = .returned (.int .i64 (sumF x lot)) ∧ Ext w w' := by
  obtain ⟨h60, hwd⟩ := lot_all hlb
  have hn : lot.length ≤ 1048576 := by omega
  have hll : ∀ l ∈ lot, l.length ≤ 1048576 := fun l hl => by have := (hwd l hl).1; omega
  have ht := tot_lot hlb
  have hms := fun (W : World) (hE : Ext w W) => spec_l03Masks x hmx lot A cap b0 o0 W (hM.ext hE) (hR.ext hE) hn hll hok
  have hdi := fun (W : World) (hE : Ext w W) => spec_l03Different lot A cap W (hR.ext hE) hn hll (by omega)
  have hsz : ∀ s ∈ firsts lot.flatten, StrIn s := fun s hs => by
    rw [firsts_mem] at hs
    obtain ⟨l, h1, h2⟩ := List.mem_flatten.1 hs
    exact hok l h1 s h2
  have hfl : (firsts lot.flatten).length ≤ 720 := by have := firsts_len lot.flatten; rw [flat_len] at this; omega
  have hall := sumTo_all x lot
  generalize firsts lot.flatten = fs at hdi hsz hfl hall
  have hz := sumTo_zero x lot fs
  have hsu0 := fun k (h : k < fs.length) => sumTo_succ x lot fs k h
  have hle := sumTo_le x lot fs h60
  have h1e := fun s => oneN_le x lot s
  have hml := masksL_len x lot
  have hfa := fun k (h : k < fs.length) (C : Option Addr) (capC : Nat) (B : Option Addr) (capB : Nat) (W : World) (hE : Ext w W) (hC : Rd encMask W C (masksL x lot)) (hB : Rd encStr W B [fs[k]]) => spec_l03False x hmx lot A cap _ rfl C (masksL x lot).length capC hml [fs[k]] B 1 capB rfl b0 o0 W (hM.ext hE) (hR.ext hE) hn hll hC hB (by simp) (fun y hy => by rw [List.mem_singleton] at hy; rw [hy]; exact hsz _ (List.getElem_mem h))
  have hone : ∀ s, (falseL x lot [s]).length = oneN x lot s := fun s => by unfold oneN; rfl
  generalize masksL x lot = ms at hms hfa hml
  generalize sumF x lot = r at hall ⊢
  go_enter Tryd.func74, Tryd.ntmps74
  go_wp2_with fail
  refine Calls.mono (hms _ (Ext.refl _)) ?_
  rintro e w1 ⟨v1, rfl, hO1, hb1⟩
  obtain ⟨C, capC, rfl, hleC, hRC⟩ := hO1.slice
  clear hO1
  go_wp2_with fail
  refine Calls.mono (hdi _ hb1) ?_
  rintro e w2 ⟨v2, rfl, hO2, hb2⟩
  obtain ⟨B, capB, rfl, hleB, hRB⟩ := hO2.slice
  clear hO2
  have hRC := hRC.ext hb2
  have hw2 := hb1.trans hb2
  clear hb1 hb2 hms hdi
  go_wp2
  go_loopg [7, 8] fs.length (fun g s i wr => ∃ k : Nat, ∃ n : Nat, g = fs.length - k ∧ k ≤ fs.length ∧ i = .int .i64 k ∧ s = .int .i64 n ∧ Hd (sumTo x lot fs k = n) ∧ Ext w2 wr)
  case atStart => exact ⟨0, 0, by omega, by omega, rfl, rfl, hd hz, Ext.refl _⟩
  case round =>
    obtain ⟨k, n, hg, hk, rfl, rfl, hN, hw⟩ := hrel
    by_cases hkl : k < fs.length
    · obtain ⟨b, off, hA, hlt, _⟩ := hRB k hkl
      subst hA
      have hsu := hsu0 k hkl
      have hn1 := hle k hk
      have hn2 := h1e fs[k]
      rw [hN.out] at hsu hn1
      have hcap : ¬ (capB - k = 0) := by omega
      have hcap2 : k + 1 ≤ capB := by omega
      have ho := hone fs[k]
      have hcall := hfa k hkl C capC (some ⟨b, off + k, none⟩) (capB - k) wr (hw2.trans hw) (hRC.ext hw) ((hRB.ext hw).one k hkl)
      rw [hml] at hcall
      generalize falseL x lot [fs[k]] = L at hcall ho
      rw [← ho] at hsu hn2
      have hsu := hd hsu
      clear ho
      go_wp2_with fail
      refine Calls.mono hcall ?_
      rintro e w5 ⟨v5, rfl, hO5, hb5⟩
      obtain ⟨A5, c5, rfl, _, _⟩ := hO5.slice
      go_wp2
      go_roundg (fs.length - (k + 1))
      case rel => exact ⟨k + 1, n + L.length, rfl, hkl, by simp, by simp, hd (by rw [hsu.out]), hw.trans hb5⟩
      case measure => omega
    · obtain rfl : k = fs.length := by omega
      have hN2 := hN.out.symm.trans hall
      subst hN2
      go_wp2
      go_ret
      exact ⟨rfl, hw2.trans hw⟩
set_option maxHeartbeats 1000000 in
theorem spec_CountFalse (x : Mx) (hxi : MxIn x) (lot : List (List ByteArray)) (A : Option Addr) (cap : Nat) (w : World) (hR : RdL w A lot) (hn : lot.length ≤ 1048576) (hll : ∀ l ∈ lot, l.length ≤ 1048576) (hok : ∀ l ∈ lot, ∀ x ∈ l, StrIn x) :
    Calls Tryd.prog 38 #[.agg #[.int .i16 x.st, .int .i16 x.sz, .int .i16 x.per], .slice A lot.length cap] w fun e w' => e = .returned (.tuple #[.int .i64 (countF x lot).1, .int .i64 (countF x lot).2]) ∧ Ext w w' := by
  have hM0 : ∀ W, BoxAt W w.heap.size #[.int .i16 x.st, .int .i16 x.sz, .int .i16 x.per] 30 → MixAt W w.heap.size 0 x := fun W h => ⟨h.cell 0, h.cell 1, h.cell 2⟩
  have h1 := fun (W : World) (h : MixAt W w.heap.size 0 x) => spec_l03Ok x hxi w.heap.size 0 W h
  have h2 := fun (W : World) (hE : Ext w W) => spec_l03Lot lot A cap W (hR.ext hE) hn hll hok
  have h3 := fun (hq : mixB x = true) (hl : lotB lot = true) (W : World) (h : MixAt W w.heap.size 0 x) (hE : Ext w W) => spec_l03Sum x hq lot hl A cap w.heap.size 0 W h (hR.ext hE) hok
  have k1 := count_bad (x := x) (lot := lot)
  have k2 := count_far (x := x) (lot := lot)
  have k3 := count_ok (x := x) (lot := lot)
  have hX0 : BoxAt (w.alloc (.cells #[.int .i16 x.st, .int .i16 x.sz, .int .i16 x.per] 30)) w.heap.size #[.int .i16 x.st, .int .i16 x.sz, .int .i16 x.per] 30 := BoxAt.new' rfl
  have hE0 : Ext w (w.alloc (.cells #[.int .i16 x.st, .int .i16 x.sz, .int .i16 x.per] 30)) := (Ext.refl _).alloc _
  cases hq : mixB x with
  | false =>
    have hv := hd (k1 hq)
    rw [hq] at h1
    clear k1 k2 k3 h3
    go_enter Tryd.func38, Tryd.ntmps38
    go_wp2_with fail
    refine Calls.mono (h1 _ (hM0 _ hX0)) ?_
    rintro e w1 ⟨rfl, hb1⟩
    go_wp2
    refine bodyPost_ret (v := .tuple #[.int .i64 0, .int .i64 1]) (by simp [results, Tryd.results38, go_sem]) rfl ⟨by rw [hv.out], hE0.trans hb1⟩
  | true =>
    rw [hq] at h1
    replace h3 := h3 hq
    cases hl : lotB lot with
    | false =>
      have hv := hd (k2 hq hl)
      rw [lotF_no hl] at h2
      clear k1 k2 k3 h3
      go_enter Tryd.func38, Tryd.ntmps38
      go_wp2_with fail
      refine Calls.mono (h1 _ (hM0 _ hX0)) ?_
      rintro e w1 ⟨rfl, hb1⟩
      have hw1 := hE0.trans hb1
      go_wp2_with fail
      refine Calls.mono (h2 _ hw1) ?_
      rintro e w2 ⟨rfl, hb2⟩
      go_wp2
      refine bodyPost_ret (v := .tuple #[.int .i64 0, .int .i64 2]) (by simp [results, Tryd.results38, go_sem]) rfl ⟨by rw [hv.out], hw1.trans hb2⟩
    | true =>
      have hv := hd (k3 hq hl)
      replace h3 := h3 hl
      rw [lotF_ok hl] at h2
      clear k1 k2 k3
      generalize sumF x lot = n at h3 hv
      go_enter Tryd.func38, Tryd.ntmps38
      go_wp2_with fail
      refine Calls.mono (h1 _ (hM0 _ hX0)) ?_
      rintro e w1 ⟨rfl, hb1⟩
      have hX := hX0.ext hb1
      have hw1 := hE0.trans hb1
      go_wp2_with fail
      refine Calls.mono (h2 _ hw1) ?_
      rintro e w2 ⟨rfl, hb2⟩
      have hw2 := hw1.trans hb2
      have hX := hX.ext hb2
      go_wp2_with fail
      refine Calls.mono (h3 _ (hM0 _ hX) hw2) ?_
      rintro e w3 ⟨rfl, hb3⟩
      go_wp2
      refine bodyPost_ret (v := .tuple #[.int .i64 n, .int .i64 0]) (by simp [results, Tryd.results38, go_sem]) rfl ⟨by rw [hv.out], hw2.trans hb3⟩
end Go.Proofs.YtbmompanhigmnaaDoor
set_option linter.unusedVariables false
set_option linter.unusedSimpArgs false
set_option maxRecDepth 100000
namespace Go.Proofs.YtbmompanhigmnaaDoor
open Go.RowKit
section
variable {α : Type} {e : Enc α} {w0 : World} {xs : List α} {T : TypeId} {base : Nat} {v : Value}
theorem wpList_addAll2 {P : Program} {ops : Array Oper} {rest : List Oper} {o : Oper} {a : Act} {Q : Exit → Act → World → Prop} (e : Enc α) {W : World} (hgd : o.guard = none) (s y : Operand) (t : TypeId) (z : Value) (bytes : Nat)
    (ho : o.op = .call { callee := .builtin .append, args := #[s, y], argTypes := #[t, t] })
    (ht : P.underlying t = some (.slice T)) (hinfo : (P.info? T).map (fun i => (i.zero, i.size, i.bytes)) = some (some z, e.sz, bytes)) (hz : z.cells.size = e.sz)
    (ys : List α) (B : Addr) (c : Nat) (hs : a.eval s = v) (hy : a.eval y = .slice (some B) ys.length c) (HR : Rd e W (some B) ys) (HO : Ow e T W base v xs) (hbase : base ≤ W.heap.size) (hw0 : w0.heap.size ≤ base) (HE : Ext w0 W)
    (hl : (xs.length + ys.length) * bytes ≤ 140737488355328) (hl2 : xs.length + ys.length ≤ 9223372036854775807)
    (h : ∀ v1 w1, Ow e T w1 base v1 (xs ++ ys) → Ext w0 w1 → W.grownBy w1 v.ownBlock → (v1.ownBlock = v.ownBlock ∨ ∃ b, v1.ownBlock = some b ∧ W.heap.size ≤ b) → wpList P ops Q rest (a.put o.dst v1) w1) :
    wpList P ops Q (o :: rest) a W := by
  obtain ⟨i, hi, hz0, hz1, hz2⟩ := info_parts hinfo
  refine wpList_append_own_at W hgd s y t ho base T i z e.sz bytes ht hi hz0 hz1 hz2 hz e.pos v xs.length (e.all xs) hs HO B ys.length c (e.all ys) hy (by rw [e.all_length]) HR.news (e.all_one ys) (by unfold maxLen; omega) hl hbase ?_
  intro v1 w1 hown hg _ hat
  refine h v1 w1 (by rw [Ow, List.length_append, e.all_append]; exact hown) ?_ hg (hat.imp id (fun e => ⟨_, e, Nat.le_refl _⟩))
  exact HE.trans' hg (fun k hk => by have := (HO.lt k hk).1; omega)
end
theorem run_append_none {P : Program} (W : World) (t ty e : TypeId) (i : TypeInfo) (ht : P.underlying t = some (.slice e)) (hi : P.info? e = some i) (A : Option Addr) (n cap c : Nat) (hle : n ≤ cap) :
    (Builtin.append_ #[t, t] ty #[.slice A n cap, .slice none 0 c]).run P W = .ok (.slice A n cap) W := by
  cases A with
  | none => simp [Builtin.append_, run_underlying ht, sizeOf, typeInfo, hi, Builtin.lenOf, Builtin.firstCells, hle]
  | some a => simp [Builtin.append_, run_underlying ht, sizeOf, typeInfo, hi, Builtin.lenOf, Builtin.firstCells, hle, storeCells]
theorem wpList_addNone {P : Program} {ops : Array Oper} {rest : List Oper} {o : Oper} {a : Act} {Q : Exit → Act → World → Prop} {W : World} (hgd : o.guard = none) (s y : Operand) (t e : TypeId) (z : Value) (sz bytes : Nat)
    (ho : o.op = .call { callee := .builtin .append, args := #[s, y], argTypes := #[t, t] })
    (ht : P.underlying t = some (.slice e)) (hinfo : (P.info? e).map (fun i => (i.zero, i.size, i.bytes)) = some (some z, sz, bytes)) (A : Option Addr) (n cap c : Nat) (hle : n ≤ cap) (hs : a.eval s = .slice A n cap) (hy : a.eval y = .slice none 0 c)
    (h : wpList P ops Q rest (a.put o.dst (.slice A n cap)) W) : wpList P ops Q (o :: rest) a W := by
  obtain ⟨i, hi, hz0, hz1, hz2⟩ := info_parts hinfo
  refine wpList_plain hgd fun K hK => ?_
  have hr := run_append_none (P := P) W t o.type e i ht hi A n cap c hle
  unfold Oper.wp execOp
  simp only [ho, resolve, invoke, builtin, Sem.run_bind, Sem.run_pure, Result.andThen_ok, List.map_toArray, List.map_cons, List.map_nil, hs, hy, hr]
  exact hK _ _ h
theorem masksL_at (x : Mx) (lot : List (List ByteArray)) (j : Nat) (h : j < lot.length) (h2 : j < (masksL x lot).length) : (masksL x lot)[j] = wallM x lot[j] := List.getElem_map _
theorem all_str (xs : List ByteArray) : encStr.all xs = xs.map Value.string := by
  unfold Enc.all
  induction xs with
  | nil => rfl
  | cons x xs ih => rw [List.flatMap_cons, ih]; rfl
def toB (l : List UInt8) : ByteArray := ⟨l.toArray⟩
theorem toB_txt (s : ByteArray) : toB (txtL s) = s := by cases s; rfl
theorem map_toB (ls : List (List UInt8)) : (ls.map toB).map Value.string = ls.map Go.Proofs.encStr := by rw [List.map_map]; rfl
def sortL (ws : List ByteArray) : List (List UInt8) := (ws.map txtL).mergeSort fun x y => decide (x ≤ y)
theorem sortL_len (ws : List ByteArray) : (sortL ws).length = ws.length := by unfold sortL; rw [List.length_mergeSort, List.length_map]
theorem ext_grow (w : World) (os : Array Obj) : Ext w (Go.Sort.grow w os) := ⟨rfl, rfl, rfl, by simp [Go.Sort.grow], fun k hk => by simp [Go.Sort.grow, Array.getElem?_append_left hk]⟩
theorem grown_putRow {α : Type} [Inhabited α] (enc : α → Value) (w : World) (q g : Nat) (d : Array α) : w.grownBy (Go.Sort.putRow enc (Go.Sort.ahead w q) g 0 d) (some g) :=
  ⟨rfl, rfl, rfl, by simp [Go.Sort.putRow, Go.Sort.mapBlock, Go.Sort.ahead], fun k hk hne => by
    have : g ≠ k := fun e => hne (by rw [e])
    simp [Go.Sort.putRow, Go.Sort.mapBlock, Go.Sort.ahead, Array.getElem?_modify, this]⟩
theorem sum_sorted (x : Mx) (lot : List (List ByteArray)) : sumTo x lot ((Lib.compact (sortL lot.flatten)).map toB) ((Lib.compact (sortL lot.flatten)).map toB).length = sumF x lot := by
  have h := sumF_sorted lot.flatten (fun l => oneN x lot (toB l))
  unfold sumTo
  rw [List.take_length, List.map_map]
  rw [show (oneN x lot ∘ toB) = fun l => oneN x lot (toB l) from rfl]
  unfold sortL
  rw [h, ← sumTo_all]
  unfold sumTo
  rw [List.take_length]
  simp only [toB_txt]
theorem mem_sorted (ws : List ByteArray) : ∀ s ∈ (Lib.compact (sortL ws)).map toB, s ∈ ws := by
  intro s hs
  obtain ⟨l, h1, rfl⟩ := List.mem_map.1 hs
  have h2 := ((sorted_compact (ws.map txtL)).2 l).1 h1
  obtain ⟨t, h3, rfl⟩ := List.mem_map.1 h2
  rw [toB_txt]; exact h3
theorem sorted_len (ws : List ByteArray) : ((Lib.compact (sortL ws)).map toB).length ≤ ws.length := by
  rw [List.length_map]
  have := Go.Lib.compact_length_le (sortL ws)
  rw [sortL_len] at this
  exact this
set_option maxHeartbeats 400000 in
theorem slices_Sort_own (ws : List ByteArray) (hn : ws.length ≤ 1048576) (v : Value) (base : Nat) (w : World) (hO : Ow encStr 9 w base v ws) :
    Calls Tryd.prog 97 #[v] w fun e w' => e = .returned (.tuple #[]) ∧ Ow encStr 9 w' base v ((sortL ws).map toB) ∧ w.grownBy w' v.ownBlock := by
  by_cases he : ws = []
  · subst he
    obtain ⟨A, cap, rfl, _, _⟩ := hO.slice
    refine (Tryd.slices_Sort_string_none A cap w).mono ?_
    rintro e w' ⟨rfl, rfl⟩
    exact ⟨rfl, by simpa [sortL] using hO, grownBy_refl _ _⟩
  · have hv : v ≠ .slice none 0 0 := fun h => by
      subst h
      rcases hO.shape with ⟨_, h⟩ | ⟨g, cap, h, _⟩
      · exact he h
      · cases h
    have hO2 : w.ownsRow base 9 1 v ws.length ((ws.map txtL).map Go.Proofs.encStr) := by
      rw [show ws.map txtL = ws.map (·.data.toList) from rfl, Go.Lib.map_encStr, ← all_str]; exact hO
    obtain ⟨g, cap, rfl, hbg, hgl, hle, hm, _, hH⟩ := Go.Lib.holds_of_ownsRow hO2 hv
    have hS := Tryd.slices_Sort_string g 0 cap (ws.map txtL) w hH hgl (by rw [List.length_map]; omega)
    rw [List.length_map] at hS
    refine hS.mono ?_
    rintro e w' ⟨rfl, q, os, rfl⟩
    have hrow := Go.Lib.ownsRow_putRow (q := q) (k := ws.length) (ys := sortL ws) hO2 (sortL_len ws) (Nat.le_refl _)
    rw [List.take_of_length_le (by rw [sortL_len]; exact Nat.le_refl _)] at hrow
    have hOw : Ow encStr 9 (Go.Sort.putRow Go.Proofs.encStr (Go.Sort.ahead w q) g 0 (sortL ws).toArray) base (.slice (some ⟨g, 0, none⟩) ws.length cap) ((sortL ws).map toB) := by
      unfold Ow
      rw [all_str, map_toB, List.length_map, sortL_len]
      exact hrow
    exact ⟨rfl, hOw.ext (ext_grow _ _), grownBy_ext (grown_putRow _ w q g _) (ext_grow _ _)⟩
set_option maxHeartbeats 400000 in
theorem slices_Compact_own (zs : List (List UInt8)) (hn : zs.length ≤ 1048576) (v : Value) (base : Nat) (w : World) (hO : Ow encStr 9 w base v (zs.map toB)) :
    Calls Tryd.prog 98 #[v] w fun e w' => ∃ A cap, e = .returned (.slice A ((Lib.compact zs).map toB).length cap) ∧ Rd encStr w' A ((Lib.compact zs).map toB) ∧ w.grownBy w' v.ownBlock := by
  by_cases he : zs = []
  · subst he
    obtain ⟨A, cap, rfl, _, _⟩ := hO.slice
    refine (Tryd.slices_Compact_string_empty A cap w).mono ?_
    rintro e w' ⟨rfl, rfl⟩
    exact ⟨A, cap, rfl, Rd.nil _ _ _, grownBy_refl _ _⟩
  · have hv : v ≠ .slice none 0 0 := fun h => by
      subst h
      rcases hO.shape with ⟨_, h⟩ | ⟨g, cap, h, _⟩
      · exact he (by simpa using h)
      · cases h
    have hl : (zs.map toB).length = zs.length := List.length_map ..
    have hO2 : w.ownsRow base 9 1 v zs.length (zs.map Go.Proofs.encStr) := by
      rw [← map_toB, ← all_str, ← hl]; exact hO
    obtain ⟨g, cap, rfl, hbg, hgl, hle, hm, _, hH⟩ := Go.Lib.holds_of_ownsRow hO2 hv
    have hS := Tryd.slices_Compact_string g 0 cap zs w hH (by omega) hle
    refine hS.mono ?_
    rintro e w' ⟨rfl, q, rfl⟩
    have hcl := Go.Lib.compact_length_le zs
    have hrow := Go.Lib.ownsRow_putRow (q := q) (k := (Lib.compact zs).length) (ys := Lib.compact zs ++ List.replicate (zs.length - (Lib.compact zs).length) []) hO2 (by rw [List.length_append, List.length_replicate]; omega) hcl
    rw [List.take_left' rfl] at hrow
    have hOw : Ow encStr 9 (Go.Sort.putRow Go.Proofs.encStr (Go.Sort.ahead w q) g 0 (Lib.compact zs ++ List.replicate (zs.length - (Lib.compact zs).length) []).toArray) base (.slice (some ⟨g, 0, none⟩) (Lib.compact zs).length cap) ((Lib.compact zs).map toB) := by
      unfold Ow
      rw [all_str, map_toB, List.length_map]
      exact hrow
    exact ⟨some ⟨g, 0, none⟩, cap, by rw [List.length_map], hOw.rdA, grown_putRow _ w q g _⟩
set_option maxHeartbeats 4000000 in
theorem impl_countFalse (x : Mx) (hmx : mixB x = true) (lot : List (List ByteArray)) (hlb : lotB lot = true) (A : Option Addr) (cap : Nat) (w : World) (hR : RdL w A lot) (hok : ∀ l ∈ lot, ∀ x ∈ l, StrIn x) :
    Calls Tryd.prog 75 #[.agg #[.int .i16 x.st, .int .i16 x.sz, .int .i16 x.per], .slice A lot.length cap] w fun e w' => e = .returned (.int .i64 (sumF x lot)) ∧ Ext w w' := by
  obtain ⟨h60, hwd⟩ := lot_all hlb
  have hn : lot.length ≤ 1048576 := by omega
  have hll : ∀ l ∈ lot, l.length ≤ 1048576 := fun l hl => by have := (hwd l hl).1; omega
  have ht := tot_lot hlb
  have hho := fun k (h : k < lot.length) (B1 : Option Addr) (c : Nat) (W : World) (hB : Rd encStr W B1 lot[k]) => impl_holesOf x hmx lot[k] B1 c W hB (hll _ (List.getElem_mem h)) (hok _ (List.getElem_mem h))
  have htk := fun k (h : k < lot.length) => masksL_take x lot k h
  have hz1 : masksL x (lot.take 0) = [] := by rw [List.take_zero]; rfl
  have hz2 : (lot.take 0).flatten = [] := by rw [List.take_zero]; rfl
  have hall1 : masksL x (lot.take lot.length) = masksL x lot := by rw [List.take_length]
  have hall2 : (lot.take lot.length).flatten = lot.flatten := by rw [List.take_length]
  have hlt := fun k => (by have := masksL_len x (lot.take k); rw [List.length_take] at this; omega : (masksL x (lot.take k)).length ≤ k)
  have hfl := fun k (h : k < lot.length) => flat_take lot k h
  have hfll := fun k => flat_len (lot.take k)
  have htl := tot_le lot
  have hts := fun k (h : k < lot.length) => tot_take lot k h
  have hsum := sum_sorted x lot
  have hbl := sorted_len lot.flatten
  have hfln := flat_len lot
  have hbm := mem_sorted lot.flatten
  have hml := masksL_len x lot
  have hmk : ∀ j (h : j < lot.length) (h2 : j < (masksL x lot).length), (masksL x lot)[j] = wallM x lot[j] := masksL_at x lot
  have hwo := fun s (h : StrIn s) (W : World) => impl_wordHoles x hmx s h W
  have hok2 : ∀ s ∈ (Lib.compact (sortL lot.flatten)).map toB, StrIn s := fun s hs => by
    obtain ⟨l, h1, h2⟩ := List.mem_flatten.1 (hbm s hs)
    exact hok l h1 s h2
  have hsl := sortL_len lot.flatten
  have hct := fun (v : Value) (base : Nat) (W : World) (hO : Ow encStr 9 W base v lot.flatten) => slices_Sort_own lot.flatten (by omega) v base W hO
  have hcc := fun (v : Value) (base : Nat) (W : World) (hO : Ow encStr 9 W base v ((sortL lot.flatten).map toB)) => slices_Compact_own (sortL lot.flatten) (by omega) v base W hO
  generalize hbs : (Lib.compact (sortL lot.flatten)).map toB = bs at hsum hbl hok2 hcc
  clear hbs hbm
  generalize sortL lot.flatten = ss at hct hcc hsl
  have hs0 := sumTo_zero x lot bs
  have hss := fun k (h : k < bs.length) => sumTo_succ x lot bs k h
  have hsle := sumTo_le x lot bs h60
  generalize sumF x lot = r at hsum ⊢
  have hone : ∀ s, (falseTo x lot [s] lot.length).length = oneN x lot s := fun s => by unfold oneN; rw [falseTo_all]
  have hfz := fun s => falseTo_zero x lot [s]
  have hfh := fun s k (h : k < lot.length) => falseTo_hit (x := x) (ws := [s]) h
  have hfA := fun s k (h : k < lot.length) => falseTo_miss1 (x := x) (ws := [s]) h
  have hfB := fun s k (h : k < lot.length) => falseTo_miss2 (x := x) (ws := [s]) h
  have hflen := fun s => falseTo_len x lot [s]
  simp only [wallM_one, hasAll_one] at hfh hfA hfB
  obtain ⟨st, sz, per⟩ := x
  dsimp only at hho hwo
  have hx := @ExtOf.cell
  go_enter Tryd.func75, Tryd.ntmps75
  go_wp2
  go_loopg [5, 6, 19] lot.length (fun g v u i wr => ∃ k : Nat, g = lot.length - k ∧ k ≤ lot.length ∧ i = .int .i64 k ∧ Ext w wr ∧ BoxAt wr w.heap.size #[.int .i16 st, .int .i16 sz, .int .i16 per] 30 ∧ Ow encMask 53 wr (w.heap.size + 1) v (masksL ⟨st, sz, per⟩ (lot.take k)) ∧ Ow encStr 9 wr (w.heap.size + 1) u (lot.take k).flatten ∧ (∀ b, v.ownBlock = some b → u.ownBlock ≠ some b))
  case atStart =>
    refine ⟨0, by omega, by omega, rfl, by ((repeat (first | with_reducible exact Ext.refl _ | with_reducible exact hw | with_reducible exact hb9 | with_reducible exact hb8 | with_reducible exact hb7 | with_reducible exact hb6 | with_reducible exact hb5 | with_reducible exact hb4 | with_reducible exact hb3 | with_reducible exact hb2 | with_reducible exact hb1 | with_reducible refine Ext.alloc ?_ _ | with_reducible refine Ext.drew ?_ | ((with_reducible refine Ext.set ?_ ?_ _); focus (dsimp only; omega)) | with_reducible refine Ext.trans ?_ hb9 | with_reducible refine Ext.trans ?_ hb8 | with_reducible refine Ext.trans ?_ hb7 | with_reducible refine Ext.trans ?_ hb6 | with_reducible refine Ext.trans ?_ hb5 | with_reducible refine Ext.trans ?_ hb4 | with_reducible refine Ext.trans ?_ hb3 | with_reducible refine Ext.trans ?_ hb2 | with_reducible refine Ext.trans ?_ hb1 | with_reducible refine Ext.trans ?_ hw))), ((BoxAt.new' rfl).alloc _).alloc _, by rw [hz1]; exact (Ow.made0 (by simp) (by simp)).ext ((Ext.refl _).alloc _), by rw [hz2]; exact Ow.made0 (by simp) (by simp), fun b hb e => ?_⟩
    have e1 : w.heap.size + 1 = b := by simpa [Value.ownBlock] using hb
    have e2 : w.heap.size + 1 + 1 = b := by simpa [Value.ownBlock] using e
    omega
  case round =>
    obtain ⟨k, hg, hk, rfl, hw, hX, hO, hU, hne⟩ := hrel
    by_cases hkl : k < lot.length
    · obtain ⟨b, off, rfl, hlt1⟩ := hR.block k hkl
      obtain ⟨B1, c1, m0w, hB1w⟩ := hR.at k hkl
      have m0 := hw.cell m0w
      have hB1 := hB1w.ext hw
      have l1 := World.block_lt_of_cell? _ _ m0
      dsimp only at l1
      have hrd := hd m0w
      clear m0w
      have x0 : wr.cell? ⟨w.heap.size, 0, none⟩ = some (.int .i16 st) := hX.cell 0
      have x1 : wr.cell? ⟨w.heap.size, 1, none⟩ = some (.int .i16 sz) := hX.cell 1
      have x2 : wr.cell? ⟨w.heap.size, 2, none⟩ = some (.int .i16 per) := hX.cell 2
      have lX := hX.lt
      have hl := hlt k
      have hsu := hd (htk k hkl)
      have hsf := hd (hfl k hkl)
      have hP1 : (lot.take k).flatten.length ≤ tot (lot.take k) := Nat.le_of_eq (hfll k)
      have hP2 := htl (k + 1)
      have hP3 := hts k hkl
      have hcall := hho k hkl B1 c1 wr hB1
      generalize wallM ⟨st, sz, per⟩ lot[k] = q at hcall hsu
      generalize masksL ⟨st, sz, per⟩ (lot.take k) = ys at hO hl hsu
      generalize (lot.take k).flatten = P at hU hsf hP1
      go_wp2_with fail
      refine Calls.mono hcall ?_
      rintro e w2 ⟨rfl, hb2⟩
      have hO2 := hO.ext hb2
      have hU2 := hU.ext hb2
      have hX2 := hX.ext hb2
      have hw2 := hw.trans hb2
      clear hO hU hcall x0 x1 x2 lX hb2 m0 l1 hB1
      have lX := hX2.lt
      have hUlt := hU2.lt
      go_wp2_with (at_builtin; refine wpList_push2 (w0 := w) (base := w.heap.size + 1) (xs := ys) encMask (by rfl) _ _ 27 (.agg #[.int .u64 0, .int .u64 0]) 16 (by rfl) Tryd.underlying27 info_Mask (by rfl) (q) (by rfl) (by rfl) (by simp) (hO2) (by have := (hw2 : Ext w _).size; simp at this ⊢; omega) (by omega) (hw2) (by omega) (by omega) ?_)
      intro v3 w3 hO3 hb3 hg3 ho3
      have hU3 : Ow encStr 9 w3 (w.heap.size + 1) u6 P := hU2.grown hg3 (by
        cases hv : u6.ownBlock with
        | none => exact .inl rfl
        | some b => exact .inr fun e => hne b e.symm hv)
      have hne3 : ∀ b, v3.ownBlock = some b → u6.ownBlock ≠ some b := fun b hb e => by
        rcases ho3 with h1 | ⟨bb, h1, h2⟩
        · exact hne b (h1.symm.trans hb) e
        · rw [h1] at hb
          have := (hUlt _ e).2
          have := Option.some.inj hb
          omega
      have hX3 : BoxAt w3 w.heap.size #[.int .i16 st, .int .i16 sz, .int .i16 per] 30 := (hg3.block _ hX2.lt (fun e => by have := (hO2.lt _ e.symm).1; omega)).trans hX2
      have hB3 : Rd encStr w3 B1 lot[k] := hB1w.ext hb3
      have hO3' := hO3.lt
      clear hU2 hO2 hg3 hUlt ho3 lX hX2
      cases B1 with
      | none =>
        have hl0 : lot[k] = [] := by
          cases hl0 : lot[k] with
          | nil => rfl
          | cons a r =>
            rw [hl0] at hB3
            obtain ⟨_, _, h, _⟩ := hB3 0 (by simp)
            cases h
        have hz0 : ((lot[k].length : Nat) : Int) = 0 := by rw [hl0]; rfl
        have hz1' : lot[k].length = 0 := by rw [hl0]; rfl
        obtain ⟨A6, c6, rfl, hle6, _⟩ := hU3.slice
        rw [hz1']
        go_wp2_with (at_builtin; refine wpList_addNone (by rfl) _ _ 38 9 (.string ⟨#[]⟩) 1 16 (by rfl) Tryd.underlying38 info_str A6 _ c6 c1 hle6 (by rfl) (by rfl) ?_)
        go_wp2
        go_roundg (lot.length - (k + 1))
        case rel => exact ⟨k + 1, rfl, hkl, by simp, hb3, hX3, by rw [hsu.out]; exact hO3, by rw [hsf.out, hl0, List.append_nil]; exact hU3, hne3⟩
        case measure => omega
      | some BA =>
        go_wp2_with (at_builtin; refine wpList_addAll2 (w0 := w) (base := w.heap.size + 1) (xs := P) encStr (by rfl) _ _ 38 (.string ⟨#[]⟩) 16 (by rfl) Tryd.underlying38 info_str (by rfl) lot[k] BA c1 (by rfl) (by rfl) hB3 hU3 (by have := hX3.lt; omega) (by omega) hb3 (by omega) (by omega) ?_)
        intro v4 w4 hU4 hb4 hg4 ho4
        have hO4 : Ow encMask 53 w4 (w.heap.size + 1) v3 (ys ++ [q]) := hO3.grown hg4 (by
          cases hv : v3.ownBlock with
          | none => exact .inl rfl
          | some b => exact .inr fun e => hne3 b hv e.symm)
        have hX4 : BoxAt w4 w.heap.size #[.int .i16 st, .int .i16 sz, .int .i16 per] 30 := (hg4.block _ hX3.lt (fun e => by have := (hU3.lt _ e.symm).1; omega)).trans hX3
        have hne4 : ∀ b, v3.ownBlock = some b → v4.ownBlock ≠ some b := fun b hb e => by
          rcases ho4 with h1 | ⟨bb, h1, h2⟩
          · exact hne3 b hb (h1.symm.trans e)
          · rw [h1] at e
            have := (hO3' _ hb).2
            have := Option.some.inj e
            omega
        go_wp2
        go_roundg (lot.length - (k + 1))
        case rel => exact ⟨k + 1, rfl, hkl, by simp, hb4, hX4, by rw [hsu.out]; exact hO4, by rw [hsf.out]; exact hU4, hne4⟩
        case measure => omega
    · obtain rfl : k = lot.length := by omega
      rw [hall1] at hO
      rw [hall2] at hU
      go_wp2_with fail
      refine Calls.mono (hct _ _ _ hU) ?_
      rintro e w2 ⟨rfl, hU2, hg2⟩
      have hO2 := hO.grown hg2 (by
        cases hv : u5.ownBlock with
        | none => exact .inl rfl
        | some b => exact .inr fun e => hne b hv e.symm)
      have hX2 : BoxAt w2 w.heap.size #[.int .i16 st, .int .i16 sz, .int .i16 per] 30 := (hg2.block _ hX.lt (fun e => by have := (hU.lt _ e.symm).1; omega)).trans hX
      have hw2 : Ext w w2 := hw.trans' hg2 (fun b hb => by have := (hU.lt b hb).1; omega)
      clear hO hX hg2
      go_wp2_with fail
      refine Calls.mono (hcc _ _ _ hU2) ?_
      rintro e w3 ⟨B3, cap3, rfl, hB3, hg3⟩
      have hO3 := hO2.grown hg3 (by
        cases hv : u5.ownBlock with
        | none => exact .inl rfl
        | some b => exact .inr fun e => hne b hv e.symm)
      have hX3 : BoxAt w3 w.heap.size #[.int .i16 st, .int .i16 sz, .int .i16 per] 30 := (hg3.block _ hX2.lt (fun e => by have := (hU2.lt _ e.symm).1; omega)).trans hX2
      have hw3 : Ext w w3 := hw2.trans' hg3 (fun b hb => by have := (hU2.lt b hb).1; omega)
      obtain ⟨C, capC, rfl, hleC, hRC⟩ := hO3.slice
      clear hO2 hX2 hg3 hU2 hU hne hw2 hw hO3 hct hcc
      rw [hml]
      generalize masksL ⟨st, sz, per⟩ lot = ms at hRC hml hmk
      have hRlot := hR.ext hw3
      go_wp2
      go_loopg [9, 38] bs.length (fun g s i wr => ∃ k n : Nat, g = bs.length - k ∧ k ≤ bs.length ∧ i = .int .i64 k ∧ s = .int .i64 n ∧ Hd (sumTo ⟨st, sz, per⟩ lot bs k = n) ∧ Ext w3 wr)
      case atStart => exact ⟨0, 0, by omega, by omega, rfl, rfl, hd hs0, Ext.refl _⟩
      case round =>
        obtain ⟨k, n, hg, hk, rfl, rfl, hN, hw⟩ := hrel
        by_cases hkl : k < bs.length
        · obtain ⟨b, off, hA, hlt1, _⟩ := hB3 k hkl
          subst hA
          obtain ⟨m0, m1⟩ := (hB3.ext hw).strs k hkl
          have hsu := hss k hkl
          have hn1 := hsle k hk
          rw [hN.out] at hsu hn1
          have hst := hok2 _ (List.getElem_mem hkl)
          have h1s := hone bs[k]
          have hfz := hfz bs[k]
          have hfh := hfh bs[k]
          have hfA := hfA bs[k]
          have hfB := hfB bs[k]
          have hflen := hflen bs[k]
          have hcall := hwo bs[k] hst
          generalize hsk : bs[k] = s0 at m0 hsu hcall h1s hfz hfh hfA hfB hflen
          clear hsk hst
          rw [← h1s] at hsu
          have hsu := hd hsu
          clear h1s
          generalize wholes ⟨st, sz, per⟩ s0 = q at hcall hfh hfA
          have hX := hX3.ext hw
          have x0 : wr.cell? ⟨w.heap.size, 0, none⟩ = some (.int .i16 st) := hX.cell 0
          have x1 : wr.cell? ⟨w.heap.size, 1, none⟩ = some (.int .i16 sz) := hX.cell 1
          have x2 : wr.cell? ⟨w.heap.size, 2, none⟩ = some (.int .i16 per) := hX.cell 2
          have lX := hX.lt
          go_wp2_with fail
          refine Calls.mono (hcall _) ?_
          rintro e w8 ⟨rfl, hb8⟩
          have hw8 := hw.trans hb8
          clear x0 x1 x2 lX hX hb8 m0 m1
          go_wp2
          go_loopg [9, 47] lot.length (fun g s i wr2 => ∃ j c : Nat, g = lot.length - j ∧ j ≤ lot.length ∧ i = .int .i64 j ∧ s = .int .i64 ((n + c : Nat) : Int) ∧ Hd ((falseTo ⟨st, sz, per⟩ lot [s0] j).length = c) ∧ Ext w8 wr2 ∧ BoxAt wr2 w8.heap.size #[.int .u64 (lo q), .int .u64 (hi q)] 53)
          case atStart => exact ⟨0, 0, by omega, by omega, rfl, by simp, hd (by rw [hfz]; rfl), (Ext.refl _).alloc _, BoxAt.new' rfl⟩
          case round =>
            obtain ⟨j, c, hg2, hj, rfl, rfl, hC, hE, hB⟩ := hrel
            by_cases hjl : j < lot.length
            · have hWE := hw8.trans hE
              obtain ⟨b1, off1, rfl, hlt2⟩ := hRlot.block j hjl
              obtain ⟨B1, c1, m0, hB1⟩ := (hRlot.ext hWE).at j hjl
              have l1 := World.block_lt_of_cell? _ _ m0
              dsimp only at l1
              obtain ⟨bC, oC, hCe, hltC, _⟩ := hRC j (by omega)
              subst hCe
              obtain ⟨n0, n1, n2⟩ := (hRC.ext hWE).mask j (by omega)
              rw [hmk j hjl (by omega)] at n0 n1
              have y0 : wr.cell? ⟨w8.heap.size, 0, none⟩ = some (.int .u64 (lo q)) := hB.cell 0
              have y1 : wr.cell? ⟨w8.heap.size, 1, none⟩ = some (.int .u64 (hi q)) := hB.cell 1
              have lB := hB.lt
              have hcl := hflen j
              rw [hC.out] at hcl
              have hwi := fun W => impl_IsWithin q (wallM ⟨st, sz, per⟩ lot[j]) W
              have hco := fun (W : World) (hE : Ext wr W) => slices_Contains_str lot[j] B1 _ c1 rfl s0 W (hB1.ext hE) (hll _ (List.getElem_mem hjl))
              have hit := fun a b => hd (hfh j hjl a b)
              have missA := fun a => hd (hfA j hjl a)
              have missB := fun a => hd (hfB j hjl a)
              generalize wallM ⟨st, sz, per⟩ lot[j] = p at n0 n1 hwi hit missA
              cases hq : mwin q p with
              | true =>
                rw [hq] at hwi
                cases hq2 : lot[j].contains s0 with
                | true =>
                  rw [hq2] at hco
                  have hv := missB hq2
                  clear hit missA missB hq hq2
                  go_wp2
                  refine wp_region_ext (by kernel_rfl) (by kernel_rfl) ?_
                  repeat (first | go_big_quiet_step ((first | (go_at_call 56; with_reducible exact Calls.ext_all (fun W _ => hwi W)) | (go_at_call 99; with_reducible exact Calls.ext_all (fun W hE => hco W hE)))) | quiet_step ((first | (go_at_call 56; with_reducible exact Calls.ext_all (fun W _ => hwi W)) | (go_at_call 99; with_reducible exact Calls.ext_all (fun W hE => hco W hE)))))
                  refine wpQuiet_nil ?_
                  intro w12 hq12
                  have hb12 := ext_of_class hq12
                  clear hq12
                  obtain ⟨hc12, hf12, hz12⟩ := bcell3 hb12
                  try simp at hz12
                  go_wp2
                  go_roundg (lot.length - (j + 1))
                  case rel => exact ⟨j + 1, c, rfl, hjl, by simp, rfl, hd (by rw [hv.out, hC.out]), hE.trans hb12, hB.ext hb12⟩
                  case measure => omega
                | false =>
                  rw [hq2] at hco
                  have hv := hit hq hq2
                  clear hit missA missB hq hq2
                  go_wp2
                  refine wp_region_ext (by kernel_rfl) (by kernel_rfl) ?_
                  repeat (first | go_big_quiet_step ((first | (go_at_call 56; with_reducible exact Calls.ext_all (fun W _ => hwi W)) | (go_at_call 99; with_reducible exact Calls.ext_all (fun W hE => hco W hE)))) | quiet_step ((first | (go_at_call 56; with_reducible exact Calls.ext_all (fun W _ => hwi W)) | (go_at_call 99; with_reducible exact Calls.ext_all (fun W hE => hco W hE)))))
                  refine wpQuiet_nil ?_
                  intro w12 hq12
                  have hb12 := ext_of_class hq12
                  clear hq12
                  obtain ⟨hc12, hf12, hz12⟩ := bcell3 hb12
                  try simp at hz12
                  go_wp2
                  go_roundg (lot.length - (j + 1))
                  case rel => exact ⟨j + 1, c + 1, rfl, hjl, by simp, by rw [show ((n + (c + 1) : Nat) : Int) = ((n + c : Nat) : Int) + 1 by omega]; simp, hd (by rw [hv.out, List.length_append, hC.out]; rfl), hE.trans hb12, hB.ext hb12⟩
                  case measure => omega
              | false =>
                rw [hq] at hwi
                have hv := missA hq
                clear hit missA missB hq
                go_wp2
                refine wp_region_ext (by kernel_rfl) (by kernel_rfl) ?_
                repeat (first | go_big_quiet_step (((go_at_call 56; with_reducible exact Calls.ext_all (fun W _ => hwi W)))) | quiet_step (((go_at_call 56; with_reducible exact Calls.ext_all (fun W _ => hwi W)))))
                refine wpQuiet_nil ?_
                intro w12 hq12
                have hb12 := ext_of_class hq12
                clear hq12
                obtain ⟨hc12, hf12, hz12⟩ := bcell3 hb12
                try simp at hz12
                go_wp2
                go_roundg (lot.length - (j + 1))
                case rel => exact ⟨j + 1, c, rfl, hjl, by simp, rfl, hd (by rw [hv.out, hC.out]), hE.trans hb12, hB.ext hb12⟩
                case measure => omega
            · obtain rfl : j = lot.length := by omega
              go_wp2
              go_roundg (bs.length - (k + 1))
              case rel => exact ⟨k + 1, n + c, rfl, hkl, by simp, rfl, hd (by rw [hsu.out, hC.out]), hw8.trans hE⟩
              case measure => omega
        · obtain rfl : k = bs.length := by omega
          have hN2 := hN.out.symm.trans hsum
          subst hN2
          go_wp2
          go_ret
          exact ⟨rfl, hw3.trans hw⟩
end Go.Proofs.YtbmompanhigmnaaDoor
set_option linter.unusedVariables false
set_option linter.unusedSimpArgs false
set_option maxRecDepth 100000
namespace Go.Proofs.YtbmompanhigmnaaDoor
open Go.RowKit
set_option maxHeartbeats 1000000 in
theorem impl_CountFalse (x : Mx) (hxi : MxIn x) (lot : List (List ByteArray)) (A : Option Addr) (cap : Nat) (w : World) (hR : RdL w A lot) (hn : lot.length ≤ 1048576) (hll : ∀ l ∈ lot, l.length ≤ 1048576) (hok : ∀ l ∈ lot, ∀ x ∈ l, StrIn x) :
    Calls Tryd.prog 39 #[.agg #[.int .i16 x.st, .int .i16 x.sz, .int .i16 x.per], .slice A lot.length cap] w fun e w' => e = .returned (.tuple #[.int .i64 (countF x lot).1, .int .i64 (countF x lot).2]) ∧ Ext w w' := by
  have h1 := fun (W : World) => impl_isMix x hxi W
  have h2 := fun (W : World) (hE : Ext w W) => impl_isLot lot A cap W (hR.ext hE) hn hll hok
  have h3 := fun (hq : mixB x = true) (hl : lotB lot = true) (W : World) (hE : Ext w W) => impl_countFalse x hq lot hl A cap W (hR.ext hE) hok
  have k1 := count_bad (x := x) (lot := lot)
  have k2 := count_far (x := x) (lot := lot)
  have k3 := count_ok (x := x) (lot := lot)
  generalize sumF x lot = n at h3 k3
  obtain ⟨st, sz, per⟩ := x
  dsimp only at h1 h3
  generalize mixB ⟨st, sz, per⟩ = p at h1 h3 k1 k2 k3
  generalize lotB lot = q at h2 h3 k2 k3
  have hX0 : BoxAt (w.alloc (.cells #[.int .i16 st, .int .i16 sz, .int .i16 per] 30)) w.heap.size #[.int .i16 st, .int .i16 sz, .int .i16 per] 30 := BoxAt.new' rfl
  have hE0 : Ext w (w.alloc (.cells #[.int .i16 st, .int .i16 sz, .int .i16 per] 30)) := (Ext.refl _).alloc _
  cases p with
  | false =>
    have hv := hd (k1 rfl)
    clear k1 k2 k3 h3
    go_enter Tryd.func39, Tryd.ntmps39
    go_wp2_with fail
    refine Calls.mono (h1 _) ?_
    rintro e w1 ⟨rfl, hb1⟩
    go_wp2
    refine bodyPost_ret (v := .tuple #[.int .i64 0, .int .i64 1]) (by simp [results, Tryd.results39, go_sem]) rfl ⟨by rw [hv.out], hE0.trans hb1⟩
  | true =>
    replace h3 := h3 rfl
    cases q with
    | false =>
      have hv := hd (k2 rfl rfl)
      clear k1 k2 k3 h3
      go_enter Tryd.func39, Tryd.ntmps39
      go_wp2_with fail
      refine Calls.mono (h1 _) ?_
      rintro e w1 ⟨rfl, hb1⟩
      have hw1 := hE0.trans hb1
      go_wp2_with fail
      refine Calls.mono (h2 _ hw1) ?_
      rintro e w2 ⟨rfl, hb2⟩
      go_wp2
      refine bodyPost_ret (v := .tuple #[.int .i64 0, .int .i64 2]) (by simp [results, Tryd.results39, go_sem]) rfl ⟨by rw [hv.out], hw1.trans hb2⟩
    | true =>
      have hv := hd (k3 rfl rfl)
      replace h3 := h3 rfl
      clear k1 k2 k3
      go_enter Tryd.func39, Tryd.ntmps39
      go_wp2_with fail
      refine Calls.mono (h1 _) ?_
      rintro e w1 ⟨rfl, hb1⟩
      have hw1 := hE0.trans hb1
      have hX := hX0.ext hb1
      go_wp2_with fail
      refine Calls.mono (h2 _ hw1) ?_
      rintro e w2 ⟨rfl, hb2⟩
      have hw2 := hw1.trans hb2
      have hX := hX.ext hb2
      have x0 : w2.cell? ⟨w.heap.size, 0, none⟩ = some (.int .i16 st) := hX.cell 0
      have x1 : w2.cell? ⟨w.heap.size, 1, none⟩ = some (.int .i16 sz) := hX.cell 1
      have x2 : w2.cell? ⟨w.heap.size, 2, none⟩ = some (.int .i16 per) := hX.cell 2
      have lX := hX.lt
      go_wp2_with fail
      refine Calls.mono (h3 _ hw2) ?_
      rintro e w3 ⟨rfl, hb3⟩
      go_wp2
      refine bodyPost_ret (v := .tuple #[.int .i64 n, .int .i64 0]) (by simp [results, Tryd.results39, go_sem]) rfl ⟨by rw [hv.out], hw2.trans hb3⟩
/-- The best number of holes among the first k, and its false drops. -/
noncomputable def bestTo (st sz : Int) (lot : List (List ByteArray)) : Nat → Int × Int
  | 0 => (0, 0)
  | k + 1 => if (bestTo st sz lot k).1 = 0 ∨ (sumF ⟨st, sz, (k : Int) + 1⟩ lot : Int) < (bestTo st sz lot k).2 then ((k : Int) + 1, (sumF ⟨st, sz, (k : Int) + 1⟩ lot : Int)) else bestTo st sz lot k
theorem bestTo_zero (st sz : Int) (lot : List (List ByteArray)) : bestTo st sz lot 0 = (0, 0) := rfl
theorem bestTo_hit {st sz : Int} {lot : List (List ByteArray)} {k : Nat} {a b : Int} (h : bestTo st sz lot k = (a, b)) (h2 : a = 0 ∨ (sumF ⟨st, sz, (k : Int) + 1⟩ lot : Int) < b) : bestTo st sz lot (k + 1) = ((k : Int) + 1, (sumF ⟨st, sz, (k : Int) + 1⟩ lot : Int)) := by
  rw [bestTo, h]; exact if_pos h2
theorem bestTo_miss {st sz : Int} {lot : List (List ByteArray)} {k : Nat} {a b : Int} (h : bestTo st sz lot k = (a, b)) (h2 : ¬ (a = 0 ∨ (sumF ⟨st, sz, (k : Int) + 1⟩ lot : Int) < b)) : bestTo st sz lot (k + 1) = (a, b) := by
  rw [bestTo, h]; exact if_neg h2
attribute [irreducible] bestTo
def bestN (sz : Int) : Nat := min 8 (sz / 2).toNat
noncomputable def bestF (x : Mx) (lot : List (List ByteArray)) : Int × Int × Int := if mixB x = true then (if lotB lot = true then ((bestTo x.st x.sz lot (bestN x.sz)).1, (bestTo x.st x.sz lot (bestN x.sz)).2, 0) else (0, 0, 2)) else (0, 0, 1)
theorem best_bad {x : Mx} {lot : List (List ByteArray)} (h : mixB x = false) : bestF x lot = (0, 0, 1) := by unfold bestF; rw [h]; rfl
theorem best_far {x : Mx} {lot : List (List ByteArray)} (h : mixB x = true) (h2 : lotB lot = false) : bestF x lot = (0, 0, 2) := by unfold bestF; rw [h, h2]; rfl
theorem best_ok {x : Mx} {lot : List (List ByteArray)} (h : mixB x = true) (h2 : lotB lot = true) : bestF x lot = ((bestTo x.st x.sz lot (bestN x.sz)).1, (bestTo x.st x.sz lot (bestN x.sz)).2, 0) := by unfold bestF; rw [h, h2]; rfl
set_option maxHeartbeats 2000000 in
theorem impl_BestPer (x : Mx) (hxi : MxIn x) (lot : List (List ByteArray)) (A : Option Addr) (cap : Nat) (w : World) (hR : RdL w A lot) (hn : lot.length ≤ 1048576) (hll : ∀ l ∈ lot, l.length ≤ 1048576) (hok : ∀ l ∈ lot, ∀ x ∈ l, StrIn x) :
    Calls Tryd.prog 41 #[.agg #[.int .i16 x.st, .int .i16 x.sz, .int .i16 x.per], .slice A lot.length cap] w fun e w' => e = .returned (.tuple #[.int .i64 (bestF x lot).1, .int .i64 (bestF x lot).2.1, .int .i64 (bestF x lot).2.2]) ∧ Ext w w' := by
  have h1 := fun (W : World) => impl_isMix x hxi W
  have h2 := fun (W : World) (hE : Ext w W) => impl_isLot lot A cap W (hR.ext hE) hn hll hok
  have k1 := best_bad (x := x) (lot := lot)
  have k2 := best_far (x := x) (lot := lot)
  have k3 := best_ok (x := x) (lot := lot)
  obtain ⟨st, sz, per⟩ := x
  dsimp only at h1 k3
  have hX0 : BoxAt (w.alloc (.cells #[.int .i16 st, .int .i16 sz, .int .i16 per] 30)) w.heap.size #[.int .i16 st, .int .i16 sz, .int .i16 per] 30 := BoxAt.new' rfl
  have hE0 : Ext w (w.alloc (.cells #[.int .i16 st, .int .i16 sz, .int .i16 per] 30)) := (Ext.refl _).alloc _
  cases hp : mixB ⟨st, sz, per⟩ with
  | false =>
    have hv := hd (k1 hp)
    rw [hp] at h1
    clear k1 k2 k3
    go_enter Tryd.func41, Tryd.ntmps41
    go_wp2_with fail
    refine Calls.mono (h1 _) ?_
    rintro e w1 ⟨rfl, hb1⟩
    go_wp2
    refine bodyPost_ret (v := .tuple #[.int .i64 0, .int .i64 0, .int .i64 1]) (by simp [results, Tryd.results41, go_sem]) rfl ⟨by rw [hv.out], hE0.trans hb1⟩
  | true =>
    rw [hp] at h1
    cases hl : lotB lot with
    | false =>
      have hv := hd (k2 hp hl)
      rw [hl] at h2
      clear k1 k2 k3
      go_enter Tryd.func41, Tryd.ntmps41
      go_wp2_with fail
      refine Calls.mono (h1 _) ?_
      rintro e w1 ⟨rfl, hb1⟩
      have hw1 := hE0.trans hb1
      go_wp2_with fail
      refine Calls.mono (h2 _ hw1) ?_
      rintro e w2 ⟨rfl, hb2⟩
      go_wp2
      refine bodyPost_ret (v := .tuple #[.int .i64 0, .int .i64 0, .int .i64 2]) (by simp [results, Tryd.results41, go_sem]) rfl ⟨by rw [hv.out], hw1.trans hb2⟩
    | true =>
      have hv := hd (k3 hp hl)
      rw [hl] at h2
      clear k1 k2 k3
      obtain ⟨b1, b2, b3, b4, b5, b6, b7⟩ := (mixB_iff _).1 hp
      dsimp only at b1 b2 b3 b4 b5 b6 b7
      have hcn := fun (p : Int) (h0 : 1 ≤ p) (h8 : p ≤ 8) (h9 : 2 * p ≤ sz) (W : World) (hE : Ext w W) => impl_countFalse ⟨st, sz, p⟩ ((mixB_iff _).2 (by dsimp only; omega)) lot hl A cap W (hR.ext hE) hok
      dsimp only at hcn
      have hz := bestTo_zero st sz lot
      have hhit := fun k a b => bestTo_hit (st := st) (sz := sz) (lot := lot) (k := k) (a := a) (b := b)
      have hmiss := fun k a b => bestTo_miss (st := st) (sz := sz) (lot := lot) (k := k) (a := a) (b := b)
      have hsl := fun p => sumF_le (x := ⟨st, sz, p⟩) hl
      have tq : sz.tdiv 2 = sz / 2 := Int.tdiv_eq_ediv_of_nonneg (by omega)
      have wq : IntKind.i16.wrap (sz / 2) = sz / 2 := IntWalk.i16_in _ (by omega)
      have hN : (bestN sz : Int) ≤ 8 ∧ (bestN sz : Int) ≤ sz / 2 ∧ ((bestN sz : Int) = 8 ∨ (bestN sz : Int) = sz / 2) := by unfold bestN; omega
      generalize bestN sz = N at hN hv
      go_enter Tryd.func41, Tryd.ntmps41
      go_wp2_with fail
      refine Calls.mono (h1 _) ?_
      rintro e w1 ⟨rfl, hb1⟩
      have hw1 := hE0.trans hb1
      have hX := hX0.ext hb1
      go_wp2_with fail
      refine Calls.mono (h2 _ hw1) ?_
      rintro e w2 ⟨rfl, hb2⟩
      have hw2 := hw1.trans hb2
      have hX := hX.ext hb2
      clear hb1 hb2 hw1 hX0 hE0 h1 h2
      go_wp2
      go_loopg [7, 8, 9] N (fun g bst lst i wr => ∃ k : Nat, ∃ a b pv : Int, g = N - k ∧ k ≤ N ∧ i = .int .i16 ((k : Int) + 1) ∧ bst = .int .i64 a ∧ lst = .int .i64 b ∧ Hd (bestTo st sz lot k = (a, b)) ∧ 0 ≤ a ∧ a ≤ 8 ∧ 0 ≤ b ∧ b ≤ 43200 ∧ Ext w wr ∧ BoxAt wr w.heap.size #[.int .i16 st, .int .i16 sz, .int .i16 pv] 30)
      case atStart => exact ⟨0, 0, 0, per, by omega, by omega, rfl, rfl, rfl, hd hz, by omega, by omega, by omega, by omega, hw2, hX⟩
      case round =>
        obtain ⟨k, a, b, pv, hg, hk, rfl, rfl, rfl, hB, a0, a8, b0, b9, hw, hX⟩ := hrel
        have x0 : wr.cell? ⟨w.heap.size, 0, none⟩ = some (.int .i16 st) := hX.cell 0
        have x1 : wr.cell? ⟨w.heap.size, 1, none⟩ = some (.int .i16 sz) := hX.cell 1
        have x2 : wr.cell? ⟨w.heap.size, 2, none⟩ = some (.int .i16 pv) := hX.cell 2
        have f2 := hX.frozen 2
        have lX := hX.lt
        by_cases hkl : k < N
        · have hc : ((k : Int) + 1 ≤ min 8 (sz / 2)) = True := eq_true (by omega)
          have hs1 := hsl ((k : Int) + 1)
          have hcn := hcn ((k : Int) + 1) (by omega) (by omega) (by omega)
          have hh := hhit k a b hB.out
          have hm := hmiss k a b hB.out
          generalize sumF ⟨st, sz, (k : Int) + 1⟩ lot = n at hs1 hcn hh hm
          have hE6 := Ext.set (p := ⟨w.heap.size, 2, none⟩) (Nat.le_refl _) hw (.int .i16 ((k : Int) + 1))
          have hX6 := hX.set 2 (.int .i16 ((k : Int) + 1))
          go_wp2_with fail
          refine Calls.mono (hcn _ hE6) ?_
          rintro e w7 ⟨rfl, hb7⟩
          have hw7 := hE6.trans hb7
          have hX7 := hX6.ext hb7
          have hX7 : BoxAt w7 w.heap.size #[.int .i16 st, .int .i16 sz, .int .i16 ((k : Int) + 1)] 30 := hX7
          clear hcn hE6 hX6 hb7 x0 x1 x2 f2 lX hX hw
          by_cases h8 : a = 0
          · have hB2 := hd (hh (.inl h8))
            have e8 : (a == 0) = true := beq_iff_eq.2 h8
            clear hh hm
            go_wp2
            go_roundg (N - (k + 1))
            case rel => exact ⟨k + 1, (k : Int) + 1, n, (k : Int) + 1, rfl, hkl, by simp, rfl, rfl, hB2, by omega, by omega, by omega, by omega, hw7, hX7⟩
            case measure => omega
          · have e8 : (a == 0) = false := beq_eq_false_iff_ne.2 h8
            by_cases h9 : (n : Int) < b
            · have hB2 := hd (hh (.inr h9))
              clear hh hm
              go_wp2
              go_roundg (N - (k + 1))
              case rel => exact ⟨k + 1, (k : Int) + 1, n, (k : Int) + 1, rfl, hkl, by simp, rfl, rfl, hB2, by omega, by omega, by omega, by omega, hw7, hX7⟩
              case measure => omega
            · have hB2 := hd (hm (fun h => h.elim h8 h9))
              clear hh hm
              go_wp2
              go_roundg (N - (k + 1))
              case rel => exact ⟨k + 1, a, b, (k : Int) + 1, rfl, hkl, by simp, rfl, rfl, hB2, by omega, by omega, by omega, by omega, hw7, hX7⟩
              case measure => omega
        · obtain rfl : k = N := by omega
          have hc : ((k : Int) + 1 ≤ min 8 (sz / 2)) = False := eq_false (by omega)
          have hv2 := hd (hv.out.trans (by rw [hB.out]))
          clear hcn hhit hmiss hsl
          go_wp2
          refine bodyPost_ret (v := .tuple #[.int .i64 a, .int .i64 b, .int .i64 0]) (by simp [results, Tryd.results41, go_sem]) rfl ⟨by rw [hv2.out], hw⟩
set_option maxHeartbeats 2000000 in
theorem spec_BestPer (x : Mx) (hxi : MxIn x) (lot : List (List ByteArray)) (A : Option Addr) (cap : Nat) (w : World) (hR : RdL w A lot) (hn : lot.length ≤ 1048576) (hll : ∀ l ∈ lot, l.length ≤ 1048576) (hok : ∀ l ∈ lot, ∀ x ∈ l, StrIn x) :
    Calls Tryd.prog 40 #[.agg #[.int .i16 x.st, .int .i16 x.sz, .int .i16 x.per], .slice A lot.length cap] w fun e w' => e = .returned (.tuple #[.int .i64 (bestF x lot).1, .int .i64 (bestF x lot).2.1, .int .i64 (bestF x lot).2.2]) ∧ Ext w w' := by
  have hM0 : ∀ W, BoxAt W w.heap.size #[.int .i16 x.st, .int .i16 x.sz, .int .i16 x.per] 30 → MixAt W w.heap.size 0 x := fun W h => ⟨h.cell 0, h.cell 1, h.cell 2⟩
  have h1 := fun (W : World) (h : MixAt W w.heap.size 0 x) => spec_l03Ok x hxi w.heap.size 0 W h
  have h2 := fun (W : World) (hE : Ext w W) => spec_l03Lot lot A cap W (hR.ext hE) hn hll hok
  have k1 := best_bad (x := x) (lot := lot)
  have k2 := best_far (x := x) (lot := lot)
  have k3 := best_ok (x := x) (lot := lot)
  have hX0 : BoxAt (w.alloc (.cells #[.int .i16 x.st, .int .i16 x.sz, .int .i16 x.per] 30)) w.heap.size #[.int .i16 x.st, .int .i16 x.sz, .int .i16 x.per] 30 := BoxAt.new' rfl
  have hE0 : Ext w (w.alloc (.cells #[.int .i16 x.st, .int .i16 x.sz, .int .i16 x.per] 30)) := (Ext.refl _).alloc _
  cases hq : mixB x with
  | false =>
    have hv := hd (k1 hq)
    rw [hq] at h1
    clear k1 k2 k3
    go_enter Tryd.func40, Tryd.ntmps40
    go_wp2_with fail
    refine Calls.mono (h1 _ (hM0 _ hX0)) ?_
    rintro e w1 ⟨rfl, hb1⟩
    go_wp2
    refine bodyPost_ret (v := .tuple #[.int .i64 0, .int .i64 0, .int .i64 1]) (by simp [results, Tryd.results40, go_sem]) rfl ⟨by rw [hv.out], hE0.trans hb1⟩
  | true =>
    rw [hq] at h1
    cases hl : lotB lot with
    | false =>
      have hv := hd (k2 hq hl)
      rw [lotF_no hl] at h2
      clear k1 k2 k3
      go_enter Tryd.func40, Tryd.ntmps40
      go_wp2_with fail
      refine Calls.mono (h1 _ (hM0 _ hX0)) ?_
      rintro e w1 ⟨rfl, hb1⟩
      have hw1 := hE0.trans hb1
      go_wp2_with fail
      refine Calls.mono (h2 _ hw1) ?_
      rintro e w2 ⟨rfl, hb2⟩
      go_wp2
      refine bodyPost_ret (v := .tuple #[.int .i64 0, .int .i64 0, .int .i64 2]) (by simp [results, Tryd.results40, go_sem]) rfl ⟨by rw [hv.out], hw1.trans hb2⟩
    | true =>
      have hv := hd (k3 hq hl)
      rw [lotF_ok hl] at h2
      clear k1 k2 k3
      obtain ⟨b1, b2, b3, b4, b5, b6, b7⟩ := (mixB_iff _).1 hq
      obtain ⟨st, sz, per⟩ := x
      dsimp only at b1 b2 b3 b4 b5 b6 b7 hv
      have hcn := fun (p : Int) (h0 : 1 ≤ p) (h8 : p ≤ 8) (h9 : 2 * p ≤ sz) (b : Nat) (W : World) (h : MixAt W b 0 ⟨st, sz, p⟩) (hE : Ext w W) => spec_l03Sum ⟨st, sz, p⟩ ((mixB_iff _).2 (by dsimp only; omega)) lot hl A cap b 0 W h (hR.ext hE) hok
      have hz := bestTo_zero st sz lot
      have hhit := fun k a b => bestTo_hit (st := st) (sz := sz) (lot := lot) (k := k) (a := a) (b := b)
      have hmiss := fun k a b => bestTo_miss (st := st) (sz := sz) (lot := lot) (k := k) (a := a) (b := b)
      have hsl := fun p => sumF_le (x := ⟨st, sz, p⟩) hl
      have hN : (bestN sz : Int) ≤ 8 ∧ (bestN sz : Int) ≤ sz / 2 ∧ ((bestN sz : Int) = 8 ∨ (bestN sz : Int) = sz / 2) := by unfold bestN; omega
      generalize bestN sz = N at hN hv
      go_enter Tryd.func40, Tryd.ntmps40
      go_wp2_with fail
      refine Calls.mono (h1 _ (hM0 _ hX0)) ?_
      rintro e w1 ⟨rfl, hb1⟩
      have hw1 := hE0.trans hb1
      have hX := hX0.ext hb1
      go_wp2_with fail
      refine Calls.mono (h2 _ hw1) ?_
      rintro e w2 ⟨rfl, hb2⟩
      have hw2 := hw1.trans hb2
      have hX := hX.ext hb2
      clear hb1 hb2 hw1 hX0 hE0 h1 h2 hM0

      go_wp2
      go_loopg [8, 9, 10] N (fun g bst lst i wr => ∃ k : Nat, ∃ a b : Int, g = N - k ∧ k ≤ N ∧ i = .int .i64 ((k : Int) + 1) ∧ bst = .int .i64 a ∧ lst = .int .i64 b ∧ Hd (bestTo st sz lot k = (a, b)) ∧ 0 ≤ a ∧ a ≤ 8 ∧ 0 ≤ b ∧ b ≤ 43200 ∧ Ext w2 wr)
      case atStart => exact ⟨0, 0, 0, by omega, by omega, rfl, rfl, rfl, hd hz, by omega, by omega, by omega, by omega, Ext.refl _⟩
      case round =>
        obtain ⟨k, a, b, hg, hk, rfl, rfl, rfl, hB, a0, a8, b0, b9, hw⟩ := hrel
        have hX2 := hX.ext hw
        have x0 : wr.cell? ⟨w.heap.size, 0, none⟩ = some (.int .i16 st) := hX2.cell 0
        have x1 : wr.cell? ⟨w.heap.size, 1, none⟩ = some (.int .i16 sz) := hX2.cell 1
        have lX := hX2.lt
        have hW := hw2.trans hw
        by_cases hkl : k < N
        · have hc : ((k : Int) + 1 ≤ 8) = True := eq_true (by omega)
          have hc2 : (2 * ((k : Int) + 1) ≤ sz) = True := eq_true (by omega)
          have hs1 := hsl ((k : Int) + 1)
          have hcn := hcn ((k : Int) + 1) (by omega) (by omega) (by omega)
          have hh := hhit k a b hB.out
          have hm := hmiss k a b hB.out
          generalize sumF ⟨st, sz, (k : Int) + 1⟩ lot = n at hs1 hcn hh hm
          have hY : BoxAt (wr.alloc (.cells #[.int .i16 st, .int .i16 sz, .int .i16 ((k : Int) + 1)] 30)) wr.heap.size #[.int .i16 st, .int .i16 sz, .int .i16 ((k : Int) + 1)] 30 := BoxAt.new' rfl
          have hE6 := hW.alloc (.cells #[.int .i16 st, .int .i16 sz, .int .i16 ((k : Int) + 1)] 30)
          have hE7 := hw.alloc (.cells #[.int .i16 st, .int .i16 sz, .int .i16 ((k : Int) + 1)] 30)
          go_wp2_with fail
          refine Calls.mono (hcn _ _ ⟨hY.cell 0, hY.cell 1, hY.cell 2⟩ hE6) ?_
          rintro e w7 ⟨rfl, hb7⟩
          have hw7 := hE7.trans hb7
          clear hcn hE6 hE7 hb7 x0 x1 lX hX2 hw hY
          by_cases h8 : a = 0
          · have hB2 := hd (hh (.inl h8))
            have e8 : (a == 0) = true := beq_iff_eq.2 h8
            clear hh hm
            go_wp2
            go_roundg (N - (k + 1))
            case rel => exact ⟨k + 1, (k : Int) + 1, n, rfl, hkl, by simp, rfl, rfl, hB2, by omega, by omega, by omega, by omega, hw7⟩
            case measure => omega
          · have e8 : (a == 0) = false := beq_eq_false_iff_ne.2 h8
            by_cases h9 : (n : Int) < b
            · have hB2 := hd (hh (.inr h9))
              clear hh hm
              go_wp2
              go_roundg (N - (k + 1))
              case rel => exact ⟨k + 1, (k : Int) + 1, n, rfl, hkl, by simp, rfl, rfl, hB2, by omega, by omega, by omega, by omega, hw7⟩
              case measure => omega
            · have hB2 := hd (hm (fun h => h.elim h8 h9))
              clear hh hm
              go_wp2
              go_roundg (N - (k + 1))
              case rel => exact ⟨k + 1, a, b, rfl, hkl, by simp, rfl, rfl, hB2, by omega, by omega, by omega, by omega, hw7⟩
              case measure => omega
        · obtain rfl : k = N := by omega
          have hv2 := hd (hv.out.trans (by rw [hB.out]))
          clear hcn hhit hmiss hsl
          by_cases h8 : ((k : Int) + 1 ≤ 8)
          · have hc2 : (2 * ((k : Int) + 1) ≤ sz) = False := eq_false (by omega)
            go_wp2
            refine bodyPost_ret (v := .tuple #[.int .i64 a, .int .i64 b, .int .i64 0]) (by simp [results, Tryd.results40, go_sem]) rfl ⟨by rw [hv2.out], hW⟩
          · have hc : ((k : Int) + 1 ≤ 8) = False := eq_false h8
            go_wp2
            refine bodyPost_ret (v := .tuple #[.int .i64 a, .int .i64 b, .int .i64 0]) (by simp [results, Tryd.results40, go_sem]) rfl ⟨by rw [hv2.out], hW⟩
end Go.Proofs.YtbmompanhigmnaaDoor
