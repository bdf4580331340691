/-
  SZX: the texts EX0 Y1 Y2 VM G8 G10 EX1 WG EX2 SZ1 Y3 Y4 Y5 Y6 SZ0 SZ2 in one (written by merge.py).
-/
import Derived.Test.YtegopgpnjgikeaaGreatDoorG7
import Derived.Test.YtegopgpnjgikeaaGreatDoorX6
import Derived.Test.YtegopgpnjgikeaaGreatDoorNS
import Derived.Test.YtegopgpnjgikeaaGreatDoorShelf
import Derived.Test.YtegopgpnjgikeaaGreatDoorC2
import Derived.Test.YtegopgpnjgikeaaGreatDoorK0
import Derived.Test.YtegopgpnjgikeaaGreatDoorF5
import Derived.Test.YtegopgpnjgikeaaGreatDoorC8
import Derived.Test.YtegopgpnjgikeaaGreatDoorG1
import Derived.Test.YtegopgpnjgikeaaGreatDoorZA
import Derived.Test.YtegopgpnjgikeaaGreatDoorWN
import Derived.Test.YtegopgpnjgikeaaGreatDoorL5
import Derived.Test.YtegopgpnjgikeaaGreatDoorS0
import Derived.Test.YtegopgpnjgikeaaGreatDoorL9
import Derived.Lib.OwnBridge
import Derived.Lib.RowBridge
set_option linter.unusedVariables false
namespace Go.Proofs.YtegopgpnjgikeaaGreatDoor
open Go.RowKit
/-- Places in order, from i on, below N. -/
def incF (N : Nat) : Nat → List Int → Prop
  | _, [] => True
  | i, k :: S => ∃ j : Nat, k = (j : Int) ∧ i ≤ j ∧ j < N ∧ incF N (j + 1) S
theorem incF_len {N : Nat} : ∀ {S : List Int} {i : Nat}, incF N i S → i ≤ N → i + S.length ≤ N
  | [], _, _, h => h
  | k :: S, i, ⟨j, _, h1, h2, h3⟩, _ => by
    have := incF_len h3 (by omega)
    rw [List.length_cons]
    omega
theorem incF_lo {N : Nat} : ∀ {S : List Int} {i i' : Nat}, incF N i S → i' ≤ i → incF N i' S
  | [], _, _, _, _ => trivial
  | k :: S, i, i', ⟨j, h0, h1, h2, h3⟩, h => ⟨j, h0, by omega, h2, h3⟩
theorem incF_mem {N : Nat} : ∀ {S : List Int} {i : Nat}, incF N i S → ∀ k ∈ S, ∃ j : Nat, k = (j : Int) ∧ i ≤ j ∧ j < N
  | [], _, _, k, h => by cases h
  | k' :: S, i, ⟨j, h0, h1, h2, h3⟩, k, h => by
    rcases List.mem_cons.1 h with rfl | h
    · exact ⟨j, h0, h1, h2⟩
    · obtain ⟨j', e1, e2, e3⟩ := incF_mem h3 k h
      exact ⟨j', e1, by omega, e3⟩
theorem incF_up {N : Nat} : ∀ {S : List Int} {i : Nat}, incF N i S → S.Pairwise (· < ·)
  | [], _, _ => List.Pairwise.nil
  | k :: S, i, ⟨j, h0, h1, h2, h3⟩ => List.Pairwise.cons (fun a ha => by obtain ⟨j', e1, e2, _⟩ := incF_mem h3 a ha; omega) (incF_up h3)
theorem covL_some (f : Nat → List Int → Nat → Cov × Nat) (l : List Int) (j : Nat) (hj : ∀ b, (f (j + 1) (l ++ [(j : Int)]) b).1 ≠ .no) : ∀ (c i b : Nat), i ≤ j → j < i + c → (covL f l c i b).1 ≠ .no
  | 0, i, b, h1, h2 => by omega
  | c + 1, i, b, h1, h2 => by
    rw [covL]
    by_cases e : i = j
    · subst e
      have := hj b
      generalize f (i + 1) (l ++ [(i : Int)]) b = r at this
      obtain ⟨r, b'⟩ := r
      cases r with
      | hit l' => intro hh; cases hh
      | no => exact absurd rfl this
      | over => intro hh; cases hh
    · have ih := fun b' => covL_some f l j hj c (i + 1) b' (by omega) (by omega)
      generalize f (i + 1) (l ++ [(i : Int)]) b = r
      obtain ⟨r, b'⟩ := r
      cases r with
      | hit l' => intro hh; cases hh
      | no => exact ih b'
      | over => intro hh; cases hh
theorem covN_some (ok : List Int → Bool) (N : Nat) : ∀ (n i : Nat) (l S : List Int) (b : Nat), i ≤ N → incF N i S → S.length = n → ok (l ++ S) = true → (covN ok N n i l b).1 ≠ .no
  | 0, i, l, S, b, _, _, hn, h => by
    rw [List.eq_nil_of_length_eq_zero hn, List.append_nil] at h
    rw [covN]
    by_cases e : b = 0
    · rw [if_pos e]; intro hh; cases hh
    · rw [if_neg e, if_pos h]; intro hh; cases hh
  | n + 1, i, l, [], b, _, _, hn, h => by cases hn
  | n + 1, i, l, k :: S, b, hi, hS, hn, h => by
    have hl := incF_len hS hi
    obtain ⟨j, rfl, h1, h2, h3⟩ := hS
    have hl2 := incF_len h3 (by omega)
    rw [List.length_cons] at hn hl
    rw [covN]
    refine covL_some _ l j (fun b' => covN_some ok N n (j + 1) (l ++ [(j : Int)]) S b' (by omega) h3 (by omega) (by rw [List.append_assoc]; exact h)) _ i b h1 (by omega)
theorem covL_shape (f : Nat → List Int → Nat → Cov × Nat) (ok : List Int → Bool) (N n : Nat) (l l' : List Int) (hf : ∀ j b l' b', f (j + 1) (l ++ [(j : Int)]) b = (.hit l', b') → ∃ S, l' = l ++ (j : Int) :: S ∧ S.length = n ∧ incF N (j + 1) S ∧ ok l' = true) :
    ∀ (c i b b' : Nat), i + c ≤ N → covL f l c i b = (.hit l', b') → ∃ S, l' = l ++ S ∧ S.length = n + 1 ∧ incF N i S ∧ ok l' = true
  | 0, i, b, b', _, h => by rw [covL] at h; cases h
  | c + 1, i, b, b', hc, h => by
    rw [covL] at h
    have h1 := hf i b
    have ih := fun b1 => covL_shape f ok N n l l' hf c (i + 1) b1 b' (by omega)
    generalize f (i + 1) (l ++ [(i : Int)]) b = r at h h1
    obtain ⟨r, b1⟩ := r
    cases r with
    | hit l1 =>
      cases h
      obtain ⟨S, e1, e2, e3, e4⟩ := h1 _ _ rfl
      exact ⟨(i : Int) :: S, e1, by rw [List.length_cons, e2], ⟨i, rfl, Nat.le_refl _, by omega, e3⟩, e4⟩
    | no =>
      obtain ⟨S, e1, e2, e3, e4⟩ := ih b1 h
      exact ⟨S, e1, e2, incF_lo e3 (by omega), e4⟩
    | over => cases h
theorem covN_shape (ok : List Int → Bool) (N : Nat) : ∀ (n i : Nat) (l l' : List Int) (b b' : Nat), covN ok N n i l b = (.hit l', b') → ∃ S, l' = l ++ S ∧ S.length = n ∧ incF N i S ∧ ok l' = true
  | 0, i, l, l', b, b', h => by
    rw [covN] at h
    by_cases e : b = 0
    · rw [if_pos e] at h; cases h
    · rw [if_neg e] at h
      by_cases hk : ok l = true
      · rw [if_pos hk] at h
        cases h
        exact ⟨[], (List.append_nil _).symm, rfl, trivial, hk⟩
      · rw [if_neg hk] at h; cases h
  | n + 1, i, l, l', b, b', h => by
    rw [covN] at h
    by_cases hi : i + (N - n - i) ≤ N
    · exact covL_shape _ ok N n l l' (fun j b l' b' h => by
        obtain ⟨S, e1, e2, e3, e4⟩ := covN_shape ok N n (j + 1) (l ++ [(j : Int)]) l' b b' h
        exact ⟨S, by rw [e1, List.append_assoc]; rfl, e2, e3, e4⟩) _ i b b' hi h
    · rw [show N - n - i = 0 by omega, covL] at h; cases h
/-- What the search finds: as few places as any list of places that will do. -/
theorem covAll_min (ok : List Int → Bool) (N : Nat) (S : List Int) (hS : incF N 0 S) (hk : ok S = true) : ∀ (c m b : Nat), m ≤ S.length → S.length < m + c →
    (covAll ok N c m b).1 ≠ .no ∧ ∀ l', (covAll ok N c m b).1 = .hit l' → l'.length ≤ S.length ∧ incF N 0 l' ∧ ok l' = true
  | 0, m, b, h1, h2 => by omega
  | c + 1, m, b, h1, h2 => by
    rw [covAll]
    have hc := covN_some ok N m 0 [] S b (Nat.zero_le _) hS
    have hs := fun l' b' => covN_shape ok N m 0 [] l' b b'
    have ih := fun b1 => covAll_min ok N S hS hk c (m + 1) b1
    generalize covN ok N m 0 [] b = r at hc hs
    obtain ⟨r, b1⟩ := r
    cases r with
    | hit l1 =>
      refine ⟨(fun hh => by cases hh), fun l' h => ?_⟩
      cases h
      obtain ⟨T, e1, e2, e3, e4⟩ := hs _ _ rfl
      rw [List.nil_append] at e1
      subst e1
      exact ⟨by omega, e3, e4⟩
    | no =>
      have hne : S.length ≠ m := fun e => hc e hk rfl
      exact ih b1 (by omega) (by omega)
    | over => exact ⟨(fun hh => by cases hh), fun l' h => by cases h⟩
end Go.Proofs.YtegopgpnjgikeaaGreatDoor
set_option linter.unusedVariables false
set_option linter.unusedSimpArgs false
set_option maxRecDepth 100000
namespace Go.Proofs.YtegopgpnjgikeaaGreatDoor
open Go.RowKit
/-- Are there a few lists of a few words? -/
def lotB (lot : List (List ByteArray)) : Bool := decide (lot.length ≤ 60) && lot.all fun ws => wordsB ws 12
def lotF (lot : List (List ByteArray)) : Int := if lotB lot = true then 0 else 2
theorem lotF_ok {lot : List (List ByteArray)} (h : lotB lot = true) : lotF lot = 0 := by unfold lotF; rw [if_pos h]
theorem lotF_no {lot : List (List ByteArray)} (h : lotB lot = false) : lotF lot = 2 := by unfold lotF; rw [h]; rfl
theorem lot_all {lot : List (List ByteArray)} (h : lotB lot = true) : lot.length ≤ 60 ∧ ∀ l ∈ lot, l.length ≤ 12 ∧ l.all isNameB = true := by
  simp only [lotB, Bool.and_eq_true, decide_eq_true_eq, List.all_eq_true] at h
  refine ⟨h.1, fun l hl => ?_⟩
  have := h.2 l hl
  simp only [wordsB, Bool.and_eq_true, decide_eq_true_eq] at this
  exact ⟨by omega, this.2⟩
theorem len_tot {lot : List (List ByteArray)} {l : List ByteArray} (h : l ∈ lot) : l.length ≤ tot lot := by
  unfold tot
  induction lot with
  | nil => simp at h
  | cons x xs ih =>
    rw [List.map_cons, List.sum_cons]
    rcases List.mem_cons.1 h with rfl | h2
    · omega
    · have := ih h2; omega
noncomputable def masksL (x : Mx) (lot : List (List ByteArray)) : List Mask := lot.map (wallM x)
theorem masksL_len (x : Mx) (lot : List (List ByteArray)) : (masksL x lot).length = lot.length := by unfold masksL; rw [List.length_map]
theorem masksL_take (x : Mx) (lot : List (List ByteArray)) (k : Nat) (h : k < lot.length) : masksL x (lot.take (k + 1)) = masksL x (lot.take k) ++ [wallM x lot[k]] := by
  unfold masksL; rw [List.take_succ_eq_append_getElem h, List.map_append]; rfl
noncomputable def mixLotF (x : Mx) (lot : List (List ByteArray)) : List Mask × Int := if mixB x = true then (if lotB lot = true then (masksL x lot, 0) else ([], 2)) else ([], 1)
theorem mixLot_bad {x : Mx} {lot : List (List ByteArray)} (h : mixB x = false) : mixLotF x lot = ([], 1) := by unfold mixLotF; rw [h]; rfl
theorem mixLot_far {x : Mx} {lot : List (List ByteArray)} (h : mixB x = true) (h2 : lotB lot = false) : mixLotF x lot = ([], 2) := by unfold mixLotF; rw [h, h2]; rfl
theorem mixLot_ok {x : Mx} {lot : List (List ByteArray)} (h : mixB x = true) (h2 : lotB lot = true) : mixLotF x lot = (masksL x lot, 0) := by unfold mixLotF; rw [h, h2]; rfl
theorem mixLot_len (x : Mx) (lot : List (List ByteArray)) : (mixLotF x lot).1.length ≤ 1048576 := by
  unfold mixLotF
  split
  · split
    · rename_i h
      have := (lot_all h).1
      show (masksL x lot).length ≤ _
      rw [masksL_len]; omega
    · simp
  · simp
set_option maxHeartbeats 400000 in
theorem impl_isLot1 (ws : List ByteArray) (A : Option Addr) (n cap : Nat) (hnx : n = ws.length) (w : World) (hR : Rd encStr w A ws) (hn : ws.length ≤ 1048576) (hok : ∀ x ∈ ws, StrIn x) :
    Calls Tryz.prog 42 #[.slice A n cap] w fun e w' => e = .returned (.bool (!wordsB ws 12)) ∧ Ext w w' := by
  subst hnx
  have hcall := fun (W : World) (hE : Ext w W) => impl_areWords ws A cap 12 W (hR.ext hE) hn hok
  generalize wordsB ws 12 = q at hcall
  go_enter Tryz.func42, Tryz.ntmps42
  go_wp2_with fail
  refine Calls.mono (hcall _ (Ext.refl _)) ?_
  rintro e w1 ⟨rfl, hb1⟩
  go_wp2
  go_ret
  exact ⟨rfl, by ((repeat (first | with_reducible exact Ext.refl _ | with_reducible exact hw | with_reducible exact hb9 | with_reducible exact hb8 | with_reducible exact hb7 | with_reducible exact hb6 | with_reducible exact hb5 | with_reducible exact hb4 | with_reducible exact hb3 | with_reducible exact hb2 | with_reducible exact hb1 | with_reducible refine Ext.alloc ?_ _ | with_reducible refine Ext.drew ?_ | ((with_reducible refine Ext.set ?_ ?_ _); focus (dsimp only; omega)) | with_reducible refine Ext.trans ?_ hb9 | with_reducible refine Ext.trans ?_ hb8 | with_reducible refine Ext.trans ?_ hb7 | with_reducible refine Ext.trans ?_ hb6 | with_reducible refine Ext.trans ?_ hb5 | with_reducible refine Ext.trans ?_ hb4 | with_reducible refine Ext.trans ?_ hb3 | with_reducible refine Ext.trans ?_ hb2 | with_reducible refine Ext.trans ?_ hb1 | with_reducible refine Ext.trans ?_ hw)))⟩
set_option maxHeartbeats 400000 in
theorem slices_IndexFunc_isLot (lot : List (List ByteArray)) (A : Option Addr) (n cap : Nat) (w : World) (hnx : n = lot.length) (hR : RdL w A lot) (hn : n ≤ 1048576) (hll : ∀ l ∈ lot, l.length ≤ 1048576) (hok : ∀ l ∈ lot, ∀ x ∈ l, StrIn x) :
    Calls Tryz.prog 61 #[.slice A n cap, .func (.func 42) #[] #[]] w fun e w' => e = .returned (.int .i64 (fidx (fun ws => !wordsB ws 12) lot)) ∧ Ext w w' := by
  subst hnx
  go_enter Tryz.func61, Tryz.ntmps61
  go_wp2
  go_loopg [8] lot.length (fun g i wr => ∃ k : Nat, g = lot.length - k ∧ k ≤ lot.length ∧ i = .int .i64 k ∧ Ext w wr ∧ (lot.take k).any (fun ws => !wordsB ws 12) = false)
  case atStart => exact ⟨0, by omega, by omega, rfl, Ext.refl _, by rw [List.take_zero]; rfl⟩
  case round =>
    obtain ⟨k, hg, hk, rfl, hw, hQ⟩ := hrel
    by_cases hkl : k < lot.length
    · obtain ⟨b, off, rfl, hlt⟩ := hR.block k hkl
      obtain ⟨B, c, m0, hB⟩ := (hR.ext hw).at k hkl
      have l1 := World.block_lt_of_cell? _ _ m0
      dsimp only at l1
      have hcall := fun (W : World) (hE : Ext wr W) => impl_isLot1 lot[k] B _ c rfl W (hB.ext hE) (hll _ (List.getElem_mem hkl)) (hok _ (List.getElem_mem hkl))
      have hs := any_take (fun ws => !wordsB ws 12) lot k hkl
      rw [hQ, Bool.false_or] at hs
      have hit := fun h => hd (fidx_hit (fun ws => !wordsB ws 12) lot k hkl h hQ)
      cases hq : wordsB lot[k] 12 with
      | false =>
        have hM := hit (by rw [hq]; rfl)
        rw [hq] at hcall
        clear hs hQ hit hq
        go_wp2_with fail
        refine Calls.mono (hcall _ (Ext.refl _)) ?_
        rintro e w1 ⟨rfl, hb1⟩
        go_wp2
        go_ret
        exact ⟨by rw [hM.out]; rfl, by ((repeat (first | with_reducible exact Ext.refl _ | with_reducible exact hw | with_reducible exact hb9 | with_reducible exact hb8 | with_reducible exact hb7 | with_reducible exact hb6 | with_reducible exact hb5 | with_reducible exact hb4 | with_reducible exact hb3 | with_reducible exact hb2 | with_reducible exact hb1 | with_reducible refine Ext.alloc ?_ _ | with_reducible refine Ext.drew ?_ | ((with_reducible refine Ext.set ?_ ?_ _); focus (dsimp only; omega)) | with_reducible refine Ext.trans ?_ hb9 | with_reducible refine Ext.trans ?_ hb8 | with_reducible refine Ext.trans ?_ hb7 | with_reducible refine Ext.trans ?_ hb6 | with_reducible refine Ext.trans ?_ hb5 | with_reducible refine Ext.trans ?_ hb4 | with_reducible refine Ext.trans ?_ hb3 | with_reducible refine Ext.trans ?_ hb2 | with_reducible refine Ext.trans ?_ hb1 | with_reducible refine Ext.trans ?_ hw)))⟩
      | true =>
        rw [hq] at hcall hs
        have hs2 := hd hs
        clear hs hQ hit hq
        go_wp2_with fail
        refine Calls.mono (hcall _ (Ext.refl _)) ?_
        rintro e w1 ⟨rfl, hb1⟩
        go_wp2
        go_roundg (lot.length - (k + 1))
        case rel => exact ⟨k + 1, rfl, hkl, by simp, by ((repeat (first | with_reducible exact Ext.refl _ | with_reducible exact hw | with_reducible exact hb9 | with_reducible exact hb8 | with_reducible exact hb7 | with_reducible exact hb6 | with_reducible exact hb5 | with_reducible exact hb4 | with_reducible exact hb3 | with_reducible exact hb2 | with_reducible exact hb1 | with_reducible refine Ext.alloc ?_ _ | with_reducible refine Ext.drew ?_ | ((with_reducible refine Ext.set ?_ ?_ _); focus (dsimp only; omega)) | with_reducible refine Ext.trans ?_ hb9 | with_reducible refine Ext.trans ?_ hb8 | with_reducible refine Ext.trans ?_ hb7 | with_reducible refine Ext.trans ?_ hb6 | with_reducible refine Ext.trans ?_ hb5 | with_reducible refine Ext.trans ?_ hb4 | with_reducible refine Ext.trans ?_ hb3 | with_reducible refine Ext.trans ?_ hb2 | with_reducible refine Ext.trans ?_ hb1 | with_reducible refine Ext.trans ?_ hw))), hs2.out⟩
        case measure => omega
    · obtain rfl : k = lot.length := by omega
      rw [List.take_length] at hQ
      have hM := hd (fidx_none (fun ws => !wordsB ws 12) lot hQ)
      clear hQ
      go_wp2
      go_ret
      exact ⟨by rw [hM.out]; rfl, hw⟩
set_option maxHeartbeats 400000 in
theorem impl_isLot (lot : List (List ByteArray)) (A : Option Addr) (cap : Nat) (w : World) (hR : RdL w A lot) (hn : lot.length ≤ 1048576) (hll : ∀ l ∈ lot, l.length ≤ 1048576) (hok : ∀ l ∈ lot, ∀ x ∈ l, StrIn x) :
    Calls Tryz.prog 23 #[.slice A lot.length cap] w fun e w' => e = .returned (.bool (lotB lot)) ∧ Ext w w' := by
  have hI := fun (W : World) (h : RdL W A lot) => slices_IndexFunc_isLot lot A _ cap W rfl h hn hll hok
  have hv := fidx_ge (fun ws => !wordsB ws 12) lot
  have hm : (!lot.all fun ws => wordsB ws 12) = decide (fidx (fun ws => !wordsB ws 12) lot ≥ 0) := by
    rw [List.not_all_eq_any_not, Bool.eq_iff_iff, decide_eq_true_iff]
    exact hv.symm
  generalize fidx (fun ws => !wordsB ws 12) lot = q at hm hI
  have hC : ∀ W, RdL W A lot → Calls Tryz.prog 41 #[.slice A lot.length cap, .func (.func 42) #[] #[]] W fun e w' => e = .returned (.bool (!lot.all fun ws => wordsB ws 12)) ∧ Ext W w' := by
    intro W h
    rw [hm]
    clear hm hv
    go_enter Tryz.func41, Tryz.ntmps41
    go_wp2_with fail
    refine Calls.mono (hI _ h) ?_
    rintro e w1 ⟨rfl, hb1⟩
    go_wp2
    go_ret
    exact ⟨rfl, hb1⟩
  clear hI hm hv
  have hx : lotB lot = (decide (lot.length ≤ 60) && lot.all fun ws => wordsB ws 12) := rfl
  generalize (lot.all fun ws => wordsB ws 12) = b at hC hx
  by_cases hl : lot.length ≤ 60
  · have hx := hd (show lotB lot = b by rw [hx, decide_eq_true hl, Bool.true_and])
    generalize lotB lot = lb at hx ⊢
    go_enter Tryz.func23, Tryz.ntmps23
    go_wp2_with fail
    refine Calls.mono (hC _ hR) ?_
    rintro e w1 ⟨rfl, hb1⟩
    go_wp2
    go_ret
    exact ⟨by rw [hx.out]; first | rfl | rw [Bool.not_not], by ((repeat (first | with_reducible exact Ext.refl _ | with_reducible exact hw | with_reducible exact hb9 | with_reducible exact hb8 | with_reducible exact hb7 | with_reducible exact hb6 | with_reducible exact hb5 | with_reducible exact hb4 | with_reducible exact hb3 | with_reducible exact hb2 | with_reducible exact hb1 | with_reducible refine Ext.alloc ?_ _ | with_reducible refine Ext.drew ?_ | ((with_reducible refine Ext.set ?_ ?_ _); focus (dsimp only; omega)) | with_reducible refine Ext.trans ?_ hb9 | with_reducible refine Ext.trans ?_ hb8 | with_reducible refine Ext.trans ?_ hb7 | with_reducible refine Ext.trans ?_ hb6 | with_reducible refine Ext.trans ?_ hb5 | with_reducible refine Ext.trans ?_ hb4 | with_reducible refine Ext.trans ?_ hb3 | with_reducible refine Ext.trans ?_ hb2 | with_reducible refine Ext.trans ?_ hb1 | with_reducible refine Ext.trans ?_ hw)))⟩
  · have hx := hd (show lotB lot = false by rw [hx, decide_eq_false hl, Bool.false_and])
    generalize lotB lot = lb at hx ⊢
    go_enter Tryz.func23, Tryz.ntmps23
    go_wp2
    go_ret
    exact ⟨by rw [hx.out]; rfl, by ((repeat (first | with_reducible exact Ext.refl _ | with_reducible exact hw | with_reducible exact hb9 | with_reducible exact hb8 | with_reducible exact hb7 | with_reducible exact hb6 | with_reducible exact hb5 | with_reducible exact hb4 | with_reducible exact hb3 | with_reducible exact hb2 | with_reducible exact hb1 | with_reducible refine Ext.alloc ?_ _ | with_reducible refine Ext.drew ?_ | ((with_reducible refine Ext.set ?_ ?_ _); focus (dsimp only; omega)) | with_reducible refine Ext.trans ?_ hb9 | with_reducible refine Ext.trans ?_ hb8 | with_reducible refine Ext.trans ?_ hb7 | with_reducible refine Ext.trans ?_ hb6 | with_reducible refine Ext.trans ?_ hb5 | with_reducible refine Ext.trans ?_ hb4 | with_reducible refine Ext.trans ?_ hb3 | with_reducible refine Ext.trans ?_ hb2 | with_reducible refine Ext.trans ?_ hb1 | with_reducible refine Ext.trans ?_ hw)))⟩
set_option maxHeartbeats 400000 in
theorem spec_l03Lot (lot : List (List ByteArray)) (A : Option Addr) (cap : Nat) (w : World) (hR : RdL w A lot) (hn : lot.length ≤ 1048576) (hll : ∀ l ∈ lot, l.length ≤ 1048576) (hok : ∀ l ∈ lot, ∀ x ∈ l, StrIn x) :
    Calls Tryz.prog 26 #[.slice A lot.length cap] w fun e w' => e = .returned (.int .i64 (lotF lot)) ∧ Ext w w' := by
  have hx : lotB lot = (decide (lot.length ≤ 60) && lot.all fun ws => wordsB ws 12) := rfl
  have hok1 := lotF_ok (lot := lot)
  have hno := lotF_no (lot := lot)
  generalize lotB lot = lb at hx hok1 hno
  by_cases hl : lot.length ≤ 60
  · rw [decide_eq_true hl, Bool.true_and] at hx
    have hx := hd hx
    go_enter Tryz.func26, Tryz.ntmps26
    go_wp2
    go_loopg [3] lot.length (fun g i wr => ∃ k : Nat, g = lot.length - k ∧ k ≤ lot.length ∧ i = .int .i64 k ∧ Hd ((lot.take k).all (fun ws => wordsB ws 12) = true) ∧ Ext w wr)
    case atStart => exact ⟨0, by omega, by omega, rfl, hd (by rw [List.take_zero]; rfl), Ext.refl _⟩
    case round =>
      obtain ⟨k, hg, hk, rfl, hC, hw⟩ := hrel
      by_cases hkl : k < lot.length
      · obtain ⟨b, off, rfl, hlt⟩ := hR.block k hkl
        obtain ⟨B, c, m0, hB⟩ := (hR.ext hw).at k hkl
        have l1 := World.block_lt_of_cell? _ _ m0
        dsimp only at l1
        have hs := all_take (fun ws => wordsB ws 12) lot k hkl
        rw [hC.out, Bool.true_and] at hs
        have hs := hd hs
        have hmiss := fun h => hd (all_miss (fun ws => wordsB ws 12) lot k hkl h)
        have hcall := fun (W : World) (hE : Ext wr W) => spec_l03Words lot[k] B c 12 W (hB.ext hE) (hll _ (List.getElem_mem hkl)) (hok _ (List.getElem_mem hkl))
        cases hq : wordsB lot[k] 12 with
        | true =>
          rw [wordsF_ok hq] at hcall
          have hs2 := hd (hs.out.trans hq)
          clear hs hmiss hq
          go_wp2_with fail
          refine Calls.mono (hcall _ (Ext.refl _)) ?_
          rintro e w1 ⟨rfl, hb1⟩
          go_wp2
          go_roundg (lot.length - (k + 1))
          case rel => exact ⟨k + 1, rfl, hkl, by simp, hs2, by ((repeat (first | with_reducible exact Ext.refl _ | with_reducible exact hw | with_reducible exact hb9 | with_reducible exact hb8 | with_reducible exact hb7 | with_reducible exact hb6 | with_reducible exact hb5 | with_reducible exact hb4 | with_reducible exact hb3 | with_reducible exact hb2 | with_reducible exact hb1 | with_reducible refine Ext.alloc ?_ _ | with_reducible refine Ext.drew ?_ | ((with_reducible refine Ext.set ?_ ?_ _); focus (dsimp only; omega)) | with_reducible refine Ext.trans ?_ hb9 | with_reducible refine Ext.trans ?_ hb8 | with_reducible refine Ext.trans ?_ hb7 | with_reducible refine Ext.trans ?_ hb6 | with_reducible refine Ext.trans ?_ hb5 | with_reducible refine Ext.trans ?_ hb4 | with_reducible refine Ext.trans ?_ hb3 | with_reducible refine Ext.trans ?_ hb2 | with_reducible refine Ext.trans ?_ hb1 | with_reducible refine Ext.trans ?_ hw)))⟩
          case measure => omega
        | false =>
          rw [wordsF_bad hq] at hcall
          have hv := hd (hno (by rw [hx.out, (hmiss hq).out]))
          clear hs hmiss hq hC hno hok1
          go_wp2_with fail
          refine Calls.mono (hcall _ (Ext.refl _)) ?_
          rintro e w1 ⟨rfl, hb1⟩
          go_wp2
          go_ret
          exact ⟨by rw [hv.out]; rfl, by ((repeat (first | with_reducible exact Ext.refl _ | with_reducible exact hw | with_reducible exact hb9 | with_reducible exact hb8 | with_reducible exact hb7 | with_reducible exact hb6 | with_reducible exact hb5 | with_reducible exact hb4 | with_reducible exact hb3 | with_reducible exact hb2 | with_reducible exact hb1 | with_reducible refine Ext.alloc ?_ _ | with_reducible refine Ext.drew ?_ | ((with_reducible refine Ext.set ?_ ?_ _); focus (dsimp only; omega)) | with_reducible refine Ext.trans ?_ hb9 | with_reducible refine Ext.trans ?_ hb8 | with_reducible refine Ext.trans ?_ hb7 | with_reducible refine Ext.trans ?_ hb6 | with_reducible refine Ext.trans ?_ hb5 | with_reducible refine Ext.trans ?_ hb4 | with_reducible refine Ext.trans ?_ hb3 | with_reducible refine Ext.trans ?_ hb2 | with_reducible refine Ext.trans ?_ hb1 | with_reducible refine Ext.trans ?_ hw)))⟩
      · obtain rfl : k = lot.length := by omega
        have hC2 := hC.out
        rw [List.take_length] at hC2
        have hv := hd (hok1 (by rw [hx.out, hC2]))
        clear hC hC2 hno hok1
        go_wp2
        go_ret
        exact ⟨by rw [hv.out]; rfl, hw⟩
  · rw [decide_eq_false hl, Bool.false_and] at hx
    have hv := hd (hno hx)
    clear hx hno hok1
    go_enter Tryz.func26, Tryz.ntmps26
    go_wp2
    go_ret
    exact ⟨by rw [hv.out]; rfl, Ext.refl _⟩
set_option maxHeartbeats 1000000 in
theorem spec_l03Masks (x : Mx) (hmx : mixB x = true) (lot : List (List ByteArray)) (A : Option Addr) (cap : Nat) (b0 o0 : Nat) (w : World) (hM : MixAt w b0 o0 x) (hR : RdL w A lot) (hn : lot.length ≤ 1048576) (hll : ∀ l ∈ lot, l.length ≤ 1048576) (hok : ∀ l ∈ lot, ∀ x ∈ l, StrIn x) :
    Calls Tryz.prog 31 #[.pointer (some ⟨b0, o0, none⟩), .slice A lot.length cap] w fun e w' => ∃ v, e = .returned v ∧ Ow encMask 47 w' w.heap.size v (masksL x lot) ∧ Ext w w' := by
  have htk := fun k (h : k < lot.length) => masksL_take x lot k h
  have hz : masksL x (lot.take 0) = [] := by rw [List.take_zero]; rfl
  have hall : masksL x (lot.take lot.length) = masksL x lot := by rw [List.take_length]
  have hlt := fun k => (by have := masksL_len x (lot.take k); rw [List.length_take] at this; omega : (masksL x (lot.take k)).length ≤ k)
  have hcall0 := fun k (h : k < lot.length) (B : Option Addr) (c : Nat) (W : World) (hE : Ext w W) (hB : Rd encStr W B lot[k]) => spec_l03All x hmx lot[k] B c b0 o0 W (hM.ext hE) hB (hll _ (List.getElem_mem h)) (hok _ (List.getElem_mem h))
  generalize masksL x lot = r at hall ⊢
  go_enter Tryz.func31, Tryz.ntmps31
  go_wp2
  go_loopg [5, 6] lot.length (fun g v i wr => ∃ k : Nat, g = lot.length - k ∧ k ≤ lot.length ∧ i = .int .i64 k ∧ Ext w wr ∧ Ow encMask 47 wr w.heap.size v (masksL x (lot.take k)))
  case atStart => exact ⟨0, by omega, by omega, rfl, (Ext.refl _).alloc _, by rw [hz]; exact Ow.made0 rfl (Nat.le_refl _)⟩
  case round =>
    obtain ⟨k, hg, hk, rfl, hw, hO⟩ := hrel
    by_cases hkl : k < lot.length
    · obtain ⟨b, off, rfl, hlt1⟩ := hR.block k hkl
      obtain ⟨B, c, m0, hB⟩ := (hR.ext hw).at k hkl
      have l1 := World.block_lt_of_cell? _ _ m0
      dsimp only at l1
      have hl := hlt k
      have hsu := hd (htk k hkl)
      have hcall := hcall0 k hkl B c wr hw hB
      generalize wallM x lot[k] = q at hcall hsu
      generalize masksL x (lot.take k) = ys at hO hl hsu
      go_wp2_with fail
      refine Calls.mono hcall ?_
      rintro e w2 ⟨rfl, hb2⟩
      have hO2 := hO.ext hb2
      have hw2 := hw.trans hb2
      clear hO hb2 hcall
      go_wp2_with (at_builtin; refine wpList_push2 (w0 := w) (base := w.heap.size) (xs := ys) encMask (by rfl) _ _ 40 (.agg #[.int .u64 0, .int .u64 0]) 16 (by rfl) Tryz.underlying40 info_Mask (by rfl) (q) (by rfl) (by rfl) (by simp) (hO2) ((hw2 : Ext w _).size) (Nat.le_refl _) (hw2) (by omega) (by omega) ?_)
      intro v3 w3 hO3 hb3 hg3 ho3
      go_wp2
      go_roundg (lot.length - (k + 1))
      case rel => exact ⟨k + 1, rfl, hkl, by simp, hb3, by rw [hsu.out]; exact hO3⟩
      case measure => omega
    · obtain rfl : k = lot.length := by omega
      rw [hall] at hO
      go_wp2
      go_ret
      exact ⟨_, rfl, hO, hw⟩
set_option maxHeartbeats 1000000 in
theorem spec_MixLot (x : Mx) (hxi : MxIn x) (lot : List (List ByteArray)) (A : Option Addr) (cap : Nat) (w : World) (hR : RdL w A lot) (hn : lot.length ≤ 1048576) (hll : ∀ l ∈ lot, l.length ≤ 1048576) (hok : ∀ l ∈ lot, ∀ x ∈ l, StrIn x) :
    Calls Tryz.prog 14 #[.agg #[.int .i16 x.st, .int .i16 x.sz, .int .i16 x.per], .slice A lot.length cap] w fun e w' => ∃ v, e = .returned (.tuple #[v, .int .i64 (mixLotF x lot).2]) ∧ Ow encMask 47 w' w.heap.size v (mixLotF x lot).1 ∧ Ext w w' := by
  have hM0 : ∀ W, BoxAt W w.heap.size #[.int .i16 x.st, .int .i16 x.sz, .int .i16 x.per] 26 → MixAt W w.heap.size 0 x := fun W h => ⟨h.cell 0, h.cell 1, h.cell 2⟩
  have h1 := fun (W : World) (h : MixAt W w.heap.size 0 x) => spec_l03Ok x hxi w.heap.size 0 W h
  have h2 := fun (W : World) (hE : Ext w W) => spec_l03Lot lot A cap W (hR.ext hE) hn hll hok
  have h3 := fun (hq : mixB x = true) (W : World) (h : MixAt W w.heap.size 0 x) (hE : Ext w W) => spec_l03Masks x hq lot A cap w.heap.size 0 W h (hR.ext hE) hn hll hok
  have k1 := mixLot_bad (x := x) (lot := lot)
  have k2 := mixLot_far (x := x) (lot := lot)
  have k3 := mixLot_ok (x := x) (lot := lot)
  have hX0 : BoxAt (w.alloc (.cells #[.int .i16 x.st, .int .i16 x.sz, .int .i16 x.per] 26)) w.heap.size #[.int .i16 x.st, .int .i16 x.sz, .int .i16 x.per] 26 := BoxAt.new' rfl
  cases hq : mixB x with
  | false =>
    have hv := hd (k1 hq)
    rw [hq] at h1
    clear k1 k2 k3 h3
    go_enter Tryz.func14, Tryz.ntmps14
    go_wp2_with fail
    refine Calls.mono (h1 _ (hM0 _ hX0)) ?_
    rintro e w1 ⟨rfl, hb1⟩
    have hw1 : Ext w w1 := ((Ext.refl _).alloc _).trans hb1
    go_wp2
    refine bodyPost_ret (v := .tuple #[.slice (some ⟨w1.heap.size, 0, none⟩) 0 0, .int .i64 1]) (by simp [results, Tryz.results14, go_sem]) rfl ⟨_, by rw [hv.out], by rw [hv.out]; exact Ow.made0 rfl hw1.size, hw1.alloc _⟩
  | true =>
    rw [hq] at h1
    have h3 := h3 hq
    cases hl : lotB lot with
    | false =>
      have hv := hd (k2 hq hl)
      rw [lotF_no hl] at h2
      clear k1 k2 k3 h3
      go_enter Tryz.func14, Tryz.ntmps14
      go_wp2_with fail
      refine Calls.mono (h1 _ (hM0 _ hX0)) ?_
      rintro e w1 ⟨rfl, hb1⟩
      have hw1 : Ext w w1 := ((Ext.refl _).alloc _).trans hb1
      go_wp2_with fail
      refine Calls.mono (h2 _ hw1) ?_
      rintro e w2 ⟨rfl, hb2⟩
      have hw2 := hw1.trans hb2
      go_wp2
      refine bodyPost_ret (v := .tuple #[.slice (some ⟨w2.heap.size, 0, none⟩) 0 0, .int .i64 2]) (by simp [results, Tryz.results14, go_sem]) rfl ⟨_, by rw [hv.out], by rw [hv.out]; exact Ow.made0 rfl hw2.size, hw2.alloc _⟩
    | true =>
      have hv := hd (k3 hq hl)
      rw [lotF_ok hl] at h2
      clear k1 k2 k3
      go_enter Tryz.func14, Tryz.ntmps14
      go_wp2_with fail
      refine Calls.mono (h1 _ (hM0 _ hX0)) ?_
      rintro e w1 ⟨rfl, hb1⟩
      have hX := hX0.ext hb1
      have hw1 : Ext w w1 := ((Ext.refl _).alloc _).trans hb1
      go_wp2_with fail
      refine Calls.mono (h2 _ hw1) ?_
      rintro e w2 ⟨rfl, hb2⟩
      have hw2 := hw1.trans hb2
      have hX := hX.ext hb2
      go_wp2_with fail
      refine Calls.mono (h3 _ (hM0 _ hX) hw2) ?_
      rintro e w3 ⟨v3, rfl, hO3, hb3⟩
      go_wp2
      refine bodyPost_ret (v := .tuple #[v3, .int .i64 0]) (by simp [results, Tryz.results14, go_sem]) rfl ⟨_, by rw [hv.out], by rw [hv.out]; exact hO3.lower hw2.size, hw2.trans hb3⟩
end Go.Proofs.YtegopgpnjgikeaaGreatDoor
set_option linter.unusedVariables false
set_option linter.unusedSimpArgs false
set_option maxRecDepth 100000
namespace Go.Proofs.YtegopgpnjgikeaaGreatDoor
open Go.RowKit
theorem getL (lot : List (List ByteArray)) (k : Nat) (hk : k < lot.length) : lot.getD k [] = lot[k] := by rw [List.getD, List.getElem?_eq_getElem hk]; rfl
theorem ba_beq (a b : ByteArray) : (a == b) = (a.data == b.data) := by cases a; cases b; rfl
instance : LawfulBEq ByteArray where
  eq_of_beq {a b} h := by
    rw [ba_beq] at h
    cases a; cases b
    simp at h
    rw [h]
  rfl {a} := by rw [ba_beq]; simp
theorem contains_any (ws : List ByteArray) (s : ByteArray) : ws.contains s = ws.any (fun t => strB t s) := by
  rw [Bool.eq_iff_iff, List.contains_iff_mem, List.any_eq_true]
  constructor
  · intro h; exact ⟨s, h, strB_refl s⟩
  · rintro ⟨t, h1, h2⟩; rw [← (strB_iff t s).1 h2]; exact h1
/-- The lists that have all words. -/
def trueL (lot : List (List ByteArray)) (ws : List ByteArray) (n : Nat) : List Int := idxTo (fun i => hasAllB (lot.getD i []) ws) n
theorem trueL_zero (lot : List (List ByteArray)) (ws : List ByteArray) : trueL lot ws 0 = [] := rfl
theorem trueL_hit {lot : List (List ByteArray)} {ws : List ByteArray} {k : Nat} (hk : k < lot.length) (hq : hasAllB lot[k] ws = true) : trueL lot ws (k + 1) = trueL lot ws k ++ [(k : Int)] := idxTo_hit _ k (by rw [getL lot k hk]; exact hq)
theorem trueL_miss {lot : List (List ByteArray)} {ws : List ByteArray} {k : Nat} (hk : k < lot.length) (hq : hasAllB lot[k] ws = false) : trueL lot ws (k + 1) = trueL lot ws k := idxTo_miss _ k (by rw [getL lot k hk]; exact hq)
theorem trueL_len (lot : List (List ByteArray)) (ws : List ByteArray) (n : Nat) : (trueL lot ws n).length ≤ n := idxTo_len _ n
theorem false_spec (x : Mx) (lot : List (List ByteArray)) (ws : List ByteArray) : (droppedL (wallM x ws) (masksL x lot) lot.length).filter (fun v => !(trueL lot ws lot.length).contains v) = falseL x lot ws := by
  rw [← falseL_spec]
  congr 1
  unfold droppedL
  refine idxTo_congr _ fun i hi => ?_
  rw [getM _ i (by rw [masksL_len]; exact hi), getL lot i hi]
  unfold masksL
  rw [List.getElem_map]
/-- The false drops among the first n lists. -/
noncomputable def falseTo (x : Mx) (lot : List (List ByteArray)) (ws : List ByteArray) (n : Nat) : List Int := idxTo (fun i => mwin (wallM x ws) (wallM x (lot.getD i [])) && !hasAllB (lot.getD i []) ws) n
theorem falseTo_all (x : Mx) (lot : List (List ByteArray)) (ws : List ByteArray) : falseTo x lot ws lot.length = falseL x lot ws := rfl
theorem falseTo_zero (x : Mx) (lot : List (List ByteArray)) (ws : List ByteArray) : falseTo x lot ws 0 = [] := rfl
theorem falseTo_hit {x : Mx} {lot : List (List ByteArray)} {ws : List ByteArray} {k : Nat} (hk : k < lot.length) (h1 : mwin (wallM x ws) (wallM x lot[k]) = true) (h2 : hasAllB lot[k] ws = false) : falseTo x lot ws (k + 1) = falseTo x lot ws k ++ [(k : Int)] :=
  idxTo_hit _ k (by rw [getL lot k hk, h1, h2]; rfl)
theorem falseTo_miss1 {x : Mx} {lot : List (List ByteArray)} {ws : List ByteArray} {k : Nat} (hk : k < lot.length) (h1 : mwin (wallM x ws) (wallM x lot[k]) = false) : falseTo x lot ws (k + 1) = falseTo x lot ws k :=
  idxTo_miss _ k (by rw [getL lot k hk, h1]; rfl)
theorem falseTo_miss2 {x : Mx} {lot : List (List ByteArray)} {ws : List ByteArray} {k : Nat} (hk : k < lot.length) (h2 : hasAllB lot[k] ws = true) : falseTo x lot ws (k + 1) = falseTo x lot ws k :=
  idxTo_miss _ k (by rw [getL lot k hk, h2]; cases mwin (wallM x ws) (wallM x lot[k]) <;> rfl)
theorem falseTo_len (x : Mx) (lot : List (List ByteArray)) (ws : List ByteArray) (n : Nat) : (falseTo x lot ws n).length ≤ n := idxTo_len _ n
attribute [irreducible] trueL falseTo
noncomputable def falseF (x : Mx) (lot : List (List ByteArray)) (ws : List ByteArray) : List Int × Int :=
  if mixB x = true then (if (lotB lot && wordsB ws 12) = true then (falseL x lot ws, 0) else ([], 2)) else ([], 1)
theorem false_bad {x : Mx} {lot : List (List ByteArray)} {ws : List ByteArray} (h : mixB x = false) : falseF x lot ws = ([], 1) := by unfold falseF; rw [h]; rfl
theorem false_far {x : Mx} {lot : List (List ByteArray)} {ws : List ByteArray} (h : mixB x = true) (h2 : (lotB lot && wordsB ws 12) = false) : falseF x lot ws = ([], 2) := by unfold falseF; rw [h, h2]; rfl
theorem false_ok {x : Mx} {lot : List (List ByteArray)} {ws : List ByteArray} (h : mixB x = true) (h2 : (lotB lot && wordsB ws 12) = true) : falseF x lot ws = (falseL x lot ws, 0) := by unfold falseF; rw [h, h2]; rfl
theorem false_len (x : Mx) (lot : List (List ByteArray)) (ws : List ByteArray) : (falseF x lot ws).1.length ≤ 1048576 := by
  unfold falseF
  split
  · split
    · rename_i h
      rw [Bool.and_eq_true] at h
      have h1 := (lot_all h.1).1
      have h2 := falseTo_len x lot ws lot.length
      rw [falseTo_all] at h2
      show (falseL x lot ws).length ≤ _
      omega
    · simp
  · simp
set_option maxHeartbeats 400000 in
theorem slices_Contains_str (ls : List ByteArray) (A : Option Addr) (n cap : Nat) (hnx : n = ls.length) (s : ByteArray) (w : World) (hR : Rd encStr w A ls) (hn : ls.length ≤ 1048576) :
    Calls Tryz.prog 48 #[.slice A n cap, .string s] w fun e w' => e = .returned (.bool (ls.contains s)) ∧ Ext w w' := by
  subst hnx
  cases ls with
  | nil =>
    refine (Tryz.slices_Contains_string_empty A cap s w).mono ?_
    rintro e w' ⟨rfl, rfl⟩
    exact ⟨rfl, Ext.refl _⟩
  | cons l0 ls =>
    obtain ⟨b, off, rfl, hlt, _⟩ := hR 0 (by simp)
    refine (Tryz.slices_Contains_string b off (l0 :: ls).length cap (l0 :: ls) s w (Nat.le_refl _) (by omega) (fun j hj => by rw [hR.str j hj, List.getD, List.getElem?_eq_getElem hj]; rfl)).mono ?_
    rintro e w' ⟨rfl, rfl⟩
    refine ⟨?_, Ext.refl _⟩
    rw [List.take_length]
    congr 2
    rw [Bool.eq_iff_iff, Lib.containsS_iff, List.contains_iff_mem]
set_option maxHeartbeats 400000 in
theorem impl_hasAll1 (ls : List ByteArray) (B : Option Addr) (cap b : Nat) (s : ByteArray) (w : World) (hc : w.cell? ⟨b, 0, none⟩ = some (.slice B ls.length cap)) (hR : Rd encStr w B ls) (hn : ls.length ≤ 1048576) :
    Calls Tryz.prog 56 #[.string s, .pointer (some ⟨b, 0, none⟩)] w fun e w' => e = .returned (.bool (!ls.contains s)) ∧ Ext w w' := by
  have hlt := World.block_lt_of_cell? _ _ hc
  dsimp only at hlt
  have hcall := fun (W : World) (hE : Ext w W) => slices_Contains_str ls B _ cap rfl s W (hR.ext hE) hn
  generalize ls.contains s = q at hcall
  go_enter Tryz.func56, Tryz.ntmps56
  go_wp2_with fail
  refine Calls.mono (hcall _ (Ext.refl _)) ?_
  rintro e w1 ⟨rfl, hb1⟩
  go_wp2
  go_ret
  exact ⟨rfl, by ((repeat (first | with_reducible exact Ext.refl _ | with_reducible exact hw | with_reducible exact hb9 | with_reducible exact hb8 | with_reducible exact hb7 | with_reducible exact hb6 | with_reducible exact hb5 | with_reducible exact hb4 | with_reducible exact hb3 | with_reducible exact hb2 | with_reducible exact hb1 | with_reducible refine Ext.alloc ?_ _ | with_reducible refine Ext.drew ?_ | ((with_reducible refine Ext.set ?_ ?_ _); focus (dsimp only; omega)) | with_reducible refine Ext.trans ?_ hb9 | with_reducible refine Ext.trans ?_ hb8 | with_reducible refine Ext.trans ?_ hb7 | with_reducible refine Ext.trans ?_ hb6 | with_reducible refine Ext.trans ?_ hb5 | with_reducible refine Ext.trans ?_ hb4 | with_reducible refine Ext.trans ?_ hb3 | with_reducible refine Ext.trans ?_ hb2 | with_reducible refine Ext.trans ?_ hb1 | with_reducible refine Ext.trans ?_ hw)))⟩
set_option maxHeartbeats 400000 in
theorem slices_IndexFunc_hasAll (xs : List ByteArray) (A : Option Addr) (n cap : Nat) (w : World) (hnx : n = xs.length) (hR : Rd encStr w A xs) (hn : n ≤ 1048576) (ls : List ByteArray) (B : Option Addr) (cl bx : Nat) (hc : w.cell? ⟨bx, 0, none⟩ = some (.slice B ls.length cl)) (hL : Rd encStr w B ls) (hnl : ls.length ≤ 1048576) :
    Calls Tryz.prog 75 #[.slice A n cap, .func (.func 56) #[] #[.pointer (some ⟨bx, 0, none⟩)]] w fun e w' => e = .returned (.int .i64 (fidx (fun s : ByteArray => !ls.contains s) xs)) ∧ Ext w w' := by
  subst hnx
  go_enter Tryz.func75, Tryz.ntmps75
  go_wp2
  go_loopg [8] xs.length (fun g i wr => ∃ k : Nat, g = xs.length - k ∧ k ≤ xs.length ∧ i = .int .i64 k ∧ Ext w wr ∧ (xs.take k).any (fun s : ByteArray => !ls.contains s) = false)
  case atStart => exact ⟨0, by omega, by omega, rfl, Ext.refl _, by rw [List.take_zero]; rfl⟩
  case round =>
    obtain ⟨k, hg, hk, rfl, hw, hQ⟩ := hrel
    by_cases hkl : k < xs.length
    · obtain ⟨b, off, hA, hlt, _⟩ := hR k hkl
      subst hA
      obtain ⟨m0, m1⟩ := (hR.ext hw).strs k hkl
      have hs := any_take (fun s : ByteArray => !ls.contains s) xs k hkl
      rw [hQ, Bool.false_or] at hs
      cases hq : (fun s : ByteArray => !ls.contains s) xs[k] with
      | true =>
        have hM := fidx_hit (fun s : ByteArray => !ls.contains s) xs k hkl hq hQ
        try dsimp only at hq
        clear hs hQ
        go_wp2_with fail
        refine Calls.mono (impl_hasAll1 ls B cl bx xs[k] _ (hw.cell hc) (hL.ext hw) hnl) ?_
        rintro e w1 ⟨rfl, hb1⟩
        simp only [hq]
        go_wp2
        go_ret
        exact ⟨by rw [hM]; rfl, by ((repeat (first | with_reducible exact Ext.refl _ | with_reducible exact hw | with_reducible exact hb9 | with_reducible exact hb8 | with_reducible exact hb7 | with_reducible exact hb6 | with_reducible exact hb5 | with_reducible exact hb4 | with_reducible exact hb3 | with_reducible exact hb2 | with_reducible exact hb1 | with_reducible refine Ext.alloc ?_ _ | with_reducible refine Ext.drew ?_ | ((with_reducible refine Ext.set ?_ ?_ _); focus (dsimp only; omega)) | with_reducible refine Ext.trans ?_ hb9 | with_reducible refine Ext.trans ?_ hb8 | with_reducible refine Ext.trans ?_ hb7 | with_reducible refine Ext.trans ?_ hb6 | with_reducible refine Ext.trans ?_ hb5 | with_reducible refine Ext.trans ?_ hb4 | with_reducible refine Ext.trans ?_ hb3 | with_reducible refine Ext.trans ?_ hb2 | with_reducible refine Ext.trans ?_ hb1 | with_reducible refine Ext.trans ?_ hw)))⟩
      | false =>
        have hs2 := hd (hs.trans hq)
        try dsimp only at hq
        clear hs hQ
        go_wp2_with fail
        refine Calls.mono (impl_hasAll1 ls B cl bx xs[k] _ (hw.cell hc) (hL.ext hw) hnl) ?_
        rintro e w1 ⟨rfl, hb1⟩
        simp only [hq]
        go_wp2
        go_roundg (xs.length - (k + 1))
        case rel => exact ⟨k + 1, rfl, hkl, rfl, by ((repeat (first | with_reducible exact Ext.refl _ | with_reducible exact hw | with_reducible exact hb9 | with_reducible exact hb8 | with_reducible exact hb7 | with_reducible exact hb6 | with_reducible exact hb5 | with_reducible exact hb4 | with_reducible exact hb3 | with_reducible exact hb2 | with_reducible exact hb1 | with_reducible refine Ext.alloc ?_ _ | with_reducible refine Ext.drew ?_ | ((with_reducible refine Ext.set ?_ ?_ _); focus (dsimp only; omega)) | with_reducible refine Ext.trans ?_ hb9 | with_reducible refine Ext.trans ?_ hb8 | with_reducible refine Ext.trans ?_ hb7 | with_reducible refine Ext.trans ?_ hb6 | with_reducible refine Ext.trans ?_ hb5 | with_reducible refine Ext.trans ?_ hb4 | with_reducible refine Ext.trans ?_ hb3 | with_reducible refine Ext.trans ?_ hb2 | with_reducible refine Ext.trans ?_ hb1 | with_reducible refine Ext.trans ?_ hw))), hs2.out⟩
        case measure => omega
    · obtain rfl : k = xs.length := by omega
      rw [List.take_length] at hQ
      have hM := fidx_none (fun s : ByteArray => !ls.contains s) xs hQ
      go_wp2
      go_ret
      exact ⟨by rw [hM]; rfl, hw⟩

set_option maxHeartbeats 400000 in
theorem slices_ContainsFunc_hasAll (ws : List ByteArray) (A : Option Addr) (cap : Nat) (w : World) (hR : Rd encStr w A ws) (hn : ws.length ≤ 1048576) (ls : List ByteArray) (B : Option Addr) (cl bx : Nat) (hc : w.cell? ⟨bx, 0, none⟩ = some (.slice B ls.length cl)) (hL : Rd encStr w B ls) (hnl : ls.length ≤ 1048576) :
    Calls Tryz.prog 53 #[.slice A ws.length cap, .func (.func 56) #[] #[.pointer (some ⟨bx, 0, none⟩)]] w fun e w' => e = .returned (.bool (!hasAllB ls ws)) ∧ Ext w w' := by
  have hI := slices_IndexFunc_hasAll ws A _ cap w rfl hR hn ls B cl bx hc hL hnl
  have hv := fidx_ge (fun s : ByteArray => !ls.contains s) ws
  have hm : (!hasAllB ls ws) = decide (fidx (fun s : ByteArray => !ls.contains s) ws ≥ 0) := by
    unfold hasAllB
    rw [List.not_all_eq_any_not, Bool.eq_iff_iff, decide_eq_true_iff]
    exact hv.symm
  generalize fidx (fun s : ByteArray => !ls.contains s) ws = q at hm hI
  rw [hm]
  clear hm hv
  go_enter Tryz.func53, Tryz.ntmps53
  go_wp2_with fail
  refine Calls.mono (hI) ?_
  rintro e w1 ⟨rfl, hb1⟩
  go_wp2
  go_ret
  exact ⟨rfl, hb1⟩
set_option maxHeartbeats 400000 in
theorem impl_hasAll (ls : List ByteArray) (B : Option Addr) (cl : Nat) (ws : List ByteArray) (A : Option Addr) (cap : Nat) (w : World) (hL : Rd encStr w B ls) (hnl : ls.length ≤ 1048576) (hR : Rd encStr w A ws) (hn : ws.length ≤ 1048576) :
    Calls Tryz.prog 29 #[.slice B ls.length cl, .slice A ws.length cap] w fun e w' => e = .returned (.bool (hasAllB ls ws)) ∧ Ext w w' := by
  have hE0 : Ext w (w.alloc (.cells #[.slice B ls.length cl] 34)) := (Ext.refl _).alloc _
  have hX : BoxAt (w.alloc (.cells #[.slice B ls.length cl] 34)) w.heap.size #[.slice B ls.length cl] 34 := BoxAt.new' rfl
  have hcall := slices_ContainsFunc_hasAll ws A cap _ (hR.ext hE0) hn ls B cl w.heap.size (hX.cell 0) (hL.ext hE0) hnl
  generalize hasAllB ls ws = q at hcall
  clear hX
  go_enter Tryz.func29, Tryz.ntmps29
  go_wp2_with fail
  refine Calls.mono (hcall) ?_
  rintro e w1 ⟨rfl, hb1⟩
  go_wp2
  go_ret
  exact ⟨by first | rfl | rw [Bool.not_not], hE0.trans hb1⟩
set_option maxHeartbeats 400000 in
theorem spec_l03Has (ls : List ByteArray) (A : Option Addr) (n cap : Nat) (hnx : n = ls.length) (s : ByteArray) (w : World) (hR : Rd encStr w A ls) (hn : ls.length ≤ 1048576) :
    Calls Tryz.prog 71 #[.slice A n cap, .string s] w fun e w' => e = .returned (.bool (ls.contains s)) ∧ Ext w w' := by
  subst hnx
  rw [contains_any]
  go_enter Tryz.func71, Tryz.ntmps71
  go_wp2
  go_loopg [5] ls.length (fun g i wr => ∃ k : Nat, g = ls.length - k ∧ k ≤ ls.length ∧ i = .int .i64 k ∧ Hd ((ls.take k).any (fun t => strB t s) = false) ∧ Ext w wr)
  case atStart => exact ⟨0, by omega, by omega, rfl, hd (by rw [List.take_zero]; rfl), Ext.refl _⟩
  case round =>
    obtain ⟨k, hg, hk, rfl, hC, hw⟩ := hrel
    by_cases hkl : k < ls.length
    · obtain ⟨b, off, hA, hlt, _⟩ := hR k hkl
      subst hA
      obtain ⟨m0, m1⟩ := (hR.ext hw).strs k hkl
      have hs := any_take (fun t => strB t s) ls k hkl
      rw [hC.out, Bool.false_or] at hs
      have hs := hd hs
      have hit := fun h => hd (any_hit (fun t => strB t s) ls k hkl h)
      cases hq : strB ls[k] s with
      | true =>
        have hv := hit hq
        have hq2 : (ls[k].toList == s.toList) = true := hq
        clear hs hit hq hC
        go_wp2
        go_ret
        exact ⟨by rw [hv.out]; rfl, hw⟩
      | false =>
        have hs2 := hd (hs.out.trans hq)
        have hq2 : (ls[k].toList == s.toList) = false := hq
        clear hs hit hq hC
        go_wp2
        go_roundg (ls.length - (k + 1))
        case rel => exact ⟨k + 1, rfl, hkl, by simp, hs2, hw⟩
        case measure => omega
    · obtain rfl : k = ls.length := by omega
      have hC2 := hC.out
      rw [List.take_length] at hC2
      have hv := hd hC2
      clear hC hC2
      go_wp2
      go_ret
      exact ⟨by rw [hv.out]; rfl, hw⟩
set_option maxHeartbeats 400000 in
theorem spec_l00Has (ls : List Int) (A : Option Addr) (n cap : Nat) (hnx : n = ls.length) (x : Int) (w : World) (hR : Rd encI64 w A ls) (hn : ls.length ≤ 1048576) :
    Calls Tryz.prog 74 #[.slice A n cap, .int .i64 x] w fun e w' => e = .returned (.bool (ls.contains x)) ∧ Ext w w' := by
  subst hnx
  rw [show ls.contains x = ls.any (fun t => t == x) by rw [Bool.eq_iff_iff, List.contains_iff_mem, List.any_eq_true]; exact ⟨fun h => ⟨x, h, by simp⟩, fun ⟨t, h1, h2⟩ => by rw [beq_iff_eq] at h2; rw [← h2]; exact h1⟩]
  go_enter Tryz.func74, Tryz.ntmps74
  go_wp2
  go_loopg [5] ls.length (fun g i wr => ∃ k : Nat, g = ls.length - k ∧ k ≤ ls.length ∧ i = .int .i64 k ∧ Hd ((ls.take k).any (fun t => t == x) = false) ∧ Ext w wr)
  case atStart => exact ⟨0, by omega, by omega, rfl, hd (by rw [List.take_zero]; rfl), Ext.refl _⟩
  case round =>
    obtain ⟨k, hg, hk, rfl, hC, hw⟩ := hrel
    by_cases hkl : k < ls.length
    · obtain ⟨b, off, hA, hlt, _⟩ := hR k hkl
      subst hA
      have m0 := (hR.ext hw).i64 k hkl
      have m1 := World.block_lt_of_cell? _ _ m0
      dsimp only at m1
      have hs := any_take (fun t => t == x) ls k hkl
      rw [hC.out, Bool.false_or] at hs
      have hs := hd hs
      have hit := fun h => hd (any_hit (fun t => t == x) ls k hkl h)
      cases hq : (ls[k] == x) with
      | true =>
        have hv := hit hq
        clear hs hit hC
        go_wp2
        go_ret
        exact ⟨by rw [hv.out]; rfl, hw⟩
      | false =>
        have hs2 := hd (hs.out.trans hq)
        clear hs hit hC
        go_wp2
        go_roundg (ls.length - (k + 1))
        case rel => exact ⟨k + 1, rfl, hkl, by simp, hs2, hw⟩
        case measure => omega
    · obtain rfl : k = ls.length := by omega
      have hC2 := hC.out
      rw [List.take_length] at hC2
      have hv := hd hC2
      clear hC hC2
      go_wp2
      go_ret
      exact ⟨by rw [hv.out]; rfl, hw⟩
set_option maxHeartbeats 2000000 in
theorem spec_l03True (lot : List (List ByteArray)) (A : Option Addr) (cap : Nat) (ws : List ByteArray) (B : Option Addr) (capB : Nat) (w : World) (hR : RdL w A lot) (hn : lot.length ≤ 1048576) (hll : ∀ l ∈ lot, l.length ≤ 1048576) (hS : Rd encStr w B ws) (hm : ws.length ≤ 1048576) :
    Calls Tryz.prog 72 #[.slice A lot.length cap, .slice B ws.length capB] w fun e w' => ∃ v, e = .returned v ∧ Ow encI64 2 w' w.heap.size v (trueL lot ws lot.length) ∧ Ext w w' := by
  have hlen := trueL_len lot ws
  have hz := trueL_zero lot ws
  have hhit0 := fun k (h : k < lot.length) => trueL_hit (ws := ws) h
  have hmiss0 := fun k (h : k < lot.length) => trueL_miss (ws := ws) h
  have hx := @ExtOf.cell
  go_enter Tryz.func72, Tryz.ntmps72
  go_wp2
  go_loopg [5, 6] lot.length (fun g v i wr => ∃ k : Nat, g = lot.length - k ∧ k ≤ lot.length ∧ i = .int .i64 k ∧ Ext w wr ∧ Ow encI64 2 wr w.heap.size v (trueL lot ws k))
  case atStart => exact ⟨0, by omega, by omega, rfl, (Ext.refl _).alloc _, by rw [hz]; exact Ow.made0 rfl (Nat.le_refl _)⟩
  case round =>
    obtain ⟨k, hg, hk, rfl, hw, hO⟩ := hrel
    obtain ⟨wo, hwo⟩ : ∃ x, x = wr := ⟨_, rfl⟩
    subst hwo
    by_cases hkl : k < lot.length
    · obtain ⟨b, off, rfl, hlt1⟩ := hR.block k hkl
      have hl := hlen k
      have hllk := hll _ (List.getElem_mem hkl)
      go_wp2
      go_loopg [7, 8] ws.length (fun g q i wr2 => ∃ j : Nat, ∃ p : Bool, g = ws.length - j ∧ j ≤ ws.length ∧ i = .int .i64 j ∧ q = .bool p ∧ Hd ((ws.take j).all (fun s => lot[k].contains s) = p) ∧ Ext wo wr2)
      case atStart => exact ⟨0, true, by omega, by omega, rfl, rfl, hd (by rw [List.take_zero]; rfl), Ext.refl _⟩
      case round =>
        obtain ⟨j, p, hg2, hj, rfl, rfl, hP, hE⟩ := hrel
        have hWE := hw.trans hE
        by_cases hjl : j < ws.length
        · obtain ⟨bB, oB, hB, hltB, _⟩ := hS j hjl
          subst hB
          obtain ⟨n0, n1⟩ := (hS.ext hWE).strs j hjl
          obtain ⟨B1, c1, m0, hB1⟩ := (hR.ext hWE).at k hkl
          have l1 := World.block_lt_of_cell? _ _ m0
          dsimp only at l1
          have hs := all_take (fun s => lot[k].contains s) ws j hjl
          rw [hP.out] at hs
          have hs := hd hs
          have hcall := fun (W : World) (hE : Ext wr W) => spec_l03Has lot[k] B1 _ c1 rfl ws[j] W (hB1.ext hE) hllk
          cases p with
          | true =>
            generalize lot[k].contains ws[j] = q at hcall hs
            go_wp2
            refine wp_region_ext (by kernel_rfl) (by kernel_rfl) ?_
            repeat (first | go_big_quiet_step (((go_at_call 71; with_reducible exact Calls.ext_all (fun W hE => hcall W hE)))) | quiet_step (((go_at_call 71; with_reducible exact Calls.ext_all (fun W hE => hcall W hE)))))
            refine wpQuiet_nil ?_
            intro w5 hq5
            have hb5 := ext_of_class hq5
            clear hq5
            obtain ⟨hc5, hf5, hz5⟩ := bcell3 hb5
            try simp at hz5
            go_wp2
            go_roundg (ws.length - (j + 1))
            case rel => exact ⟨j + 1, q, rfl, hjl, by simp, rfl, hd (by rw [hs.out]; simp), hE.trans hb5⟩
            case measure => omega
          | false =>
            clear hcall
            go_wp2
            refine wp_region_ext (by kernel_rfl) (by kernel_rfl) ?_
            repeat (first | go_big_quiet_step (fail) | quiet_step (fail))
            refine wpQuiet_nil ?_
            intro w5 hq5
            have hb5 := ext_of_class hq5
            clear hq5
            obtain ⟨hc5, hf5, hz5⟩ := bcell3 hb5
            try simp at hz5
            go_wp2
            go_roundg (ws.length - (j + 1))
            case rel => exact ⟨j + 1, false, rfl, hjl, by simp, rfl, hd (by rw [hs.out]; simp), hE.trans hb5⟩
            case measure => omega
        · obtain rfl : j = ws.length := by omega
          have hP2 := hP.out
          rw [List.take_length] at hP2
          have hP3 : hasAllB lot[k] ws = p := hP2
          have hO2 := hO.ext hE
          clear hP hP2
          cases p with
          | true =>
            have hv := hd (hhit0 k hkl hP3)
            clear hP3
            go_wp2_with (at_builtin; refine wpList_push2 (w0 := w) (base := w.heap.size) (xs := trueL lot ws k) encI64 (by rfl) _ _ 36 (.int .i64 0) 8 (by rfl) Tryz.underlying36 info_i64 (by rfl) ((k : Int)) (by rfl) (by rfl) (by simp) (hO2) ((hWE : Ext w _).size) (Nat.le_refl _) (hWE) (by omega) (by omega) ?_)
            intro v6 w6 hO6 hb6 hg6 _
            go_wp2
            go_roundg (lot.length - (k + 1))
            case rel => exact ⟨k + 1, rfl, hkl, by simp, hb6, by rw [hv.out]; exact hO6⟩
            case measure => omega
          | false =>
            have hv := hd (hmiss0 k hkl hP3)
            clear hP3
            go_wp2
            go_roundg (lot.length - (k + 1))
            case rel => exact ⟨k + 1, rfl, hkl, by simp, hWE, by rw [hv.out]; exact hO2⟩
            case measure => omega
    · obtain rfl : k = lot.length := by omega
      go_wp2
      go_ret
      exact ⟨_, rfl, hO, hw⟩
end Go.Proofs.YtegopgpnjgikeaaGreatDoor
set_option linter.unusedVariables false
set_option linter.unusedSimpArgs false
set_option maxRecDepth 100000
namespace Go.Proofs.YtegopgpnjgikeaaGreatDoor
open Go.RowKit
theorem mhas_or (a b : Mask) (i : Nat) : mhas (mjoin a b) i = (mhas a i || mhas b i) := by simp [mhas, mjoin]
theorem mhas_less (a b : Mask) (i : Nat) (h : i < 128) : mhas (mless a b) i = (mhas a i && !mhas b i) := by simp [mhas, mless, h]
theorem mhas_and (a b : Mask) (i : Nat) : mhas (mmeet a b) i = (mhas a i && mhas b i) := by simp [mhas, mmeet]
theorem mhas_bit (k i : Nat) (hk : k < 128) : mhas (mbit k) i = decide (i = k) := by
  unfold mhas mbit
  rw [BitVec.getLsbD_shiftLeft]
  simp only [Int.toNat_natCast]
  by_cases h : i = k
  · subst h; simp [hk]
  · have h1 : decide (i = k) = false := decide_eq_false h
    rw [h1]
    by_cases h2 : i < k
    · simp [h2]
    · have h3 : BitVec.getLsbD 1#128 (i - k) = false := by rw [BitVec.getLsbD_one]; simp; omega
      rw [h3]; simp
theorem mask_ext {a b : Mask} (h : ∀ i : Nat, i < 128 → mhas a i = mhas b i) : a = b := BitVec.eq_of_getLsbD_eq fun i hi => by have := h i hi; simpa [mhas] using this
theorem mask_high {m : Mask} (h : isMaskB m = true) (i : Nat) (hi : 96 ≤ i) : mhas m i = false := by
  unfold isMaskB at h
  rw [decide_eq_true_eq] at h
  show m.toNat.testBit i = false
  exact Nat.testBit_lt_two_pow (Nat.lt_of_lt_of_le h (Nat.pow_le_pow_right (n := 2) (by decide) hi))
theorem sm_less {m n : Mask} (h : isMaskB m = true) : isMaskB (mless m n) = true := by
  unfold isMaskB mless at *
  rw [decide_eq_true_eq] at *
  rw [BitVec.toNat_and]
  exact Nat.lt_of_le_of_lt Nat.and_le_left h
theorem mzero_iff (m : Mask) : mzero m = true ↔ ∀ i : Nat, i < 128 → mhas m i = false := by
  constructor
  · intro h i hi
    have : m = 0 := by simpa [mzero] using h
    subst this; simp [mhas]
  · intro h
    have : m = 0 := mask_ext fun i hi => by rw [h i hi]; simp [mhas]
    subst this; simp [mzero]
theorem isWear_iff {t f : Mask} : isWearB t f = true ↔ isMaskB t = true ∧ isMaskB f = true ∧ ∀ i : Nat, i < 128 → (mhas t i = true → mhas f i = false) := by
  unfold isWearB
  rw [Bool.and_eq_true, Bool.and_eq_true, mzero_iff, and_assoc]
  refine and_congr_right fun _ => and_congr_right fun _ => forall_congr' fun i => forall_congr' fun hi => ?_
  rw [mhas_and]
  cases mhas t i <;> cases mhas f i <;> simp
theorem sm_joinV {a b : Mask} (ha : isMaskB a = true) (hb : isMaskB b = true) : isMaskB (mjoin a b) = true := by
  unfold isMaskB mjoin at *
  rw [decide_eq_true_eq] at *
  rw [BitVec.toNat_or]
  exact Nat.or_lt_two_pow (n := 96) ha hb
theorem isMask_zero : isMaskB 0 = true := by decide
theorem wear_zero : isWearB 0 0 = true := by decide
theorem wear_tear {t f b : Mask} (h : isWearB t f = true) (hb : isMaskB b = true) : isWearB (mjoin t b) (mless f b) = true := by
  obtain ⟨h1, h2, h3⟩ := isWear_iff.1 h
  refine isWear_iff.2 ⟨sm_joinV h1 hb, sm_less h2, fun i hi => ?_⟩
  have q1 := h3 i hi
  revert q1
  rw [mhas_or, mhas_less _ _ _ hi]
  cases mhas t i <;> cases mhas f i <;> cases mhas b i <;> simp
theorem wear_fill {t f b : Mask} (h : isWearB t f = true) (hb : isMaskB b = true) : isWearB (mless t b) (mjoin f b) = true := by
  obtain ⟨h1, h2, h3⟩ := isWear_iff.1 h
  refine isWear_iff.2 ⟨sm_less h1, sm_joinV h2 hb, fun i hi => ?_⟩
  have q1 := h3 i hi
  revert q1
  rw [mhas_or, mhas_less _ _ _ hi]
  cases mhas t i <;> cases mhas f i <;> cases mhas b i <;> simp
theorem wear_between {a b : Mask} (ha : isMaskB a = true) (hb : isMaskB b = true) : isWearB (mless b a) (mless a b) = true := by
  refine isWear_iff.2 ⟨sm_less hb, sm_less ha, fun i hi => ?_⟩
  rw [mhas_less _ _ _ hi, mhas_less _ _ _ hi]
  cases mhas a i <;> cases mhas b i <;> simp
theorem wear_swap {t f : Mask} (h : isWearB t f = true) : isWearB f t = true := by
  obtain ⟨h1, h2, h3⟩ := isWear_iff.1 h
  refine isWear_iff.2 ⟨h2, h1, fun i hi => ?_⟩
  have q1 := h3 i hi
  revert q1
  cases mhas t i <;> cases mhas f i <;> simp
theorem wear_after {t f t' f' : Mask} (h : isWearB t f = true) (h' : isWearB t' f' = true) : isWearB (mjoin t' (mless t f')) (mjoin f' (mless f t')) = true := by
  obtain ⟨h1, h2, h3⟩ := isWear_iff.1 h
  obtain ⟨g1, g2, g3⟩ := isWear_iff.1 h'
  refine isWear_iff.2 ⟨sm_joinV g1 (sm_less h1), sm_joinV g2 (sm_less h2), fun i hi => ?_⟩
  have q1 := h3 i hi
  revert q1
  have q2 := g3 i hi
  revert q2
  rw [mhas_or, mhas_less _ _ _ hi, mhas_or, mhas_less _ _ _ hi]
  cases mhas t i <;> cases mhas f i <;> cases mhas t' i <;> cases mhas f' i <;> simp
theorem worn_between (a b : Mask) : mless (mjoin a (mless b a)) (mless a b) = b := mask_ext fun i hi => by
  rw [mhas_less _ _ _ hi, mhas_or, mhas_less _ _ _ hi, mhas_less _ _ _ hi]
  cases mhas a i <;> cases mhas b i <;> rfl
theorem worn_after {t f t' f' : Mask} (a : Mask) (h : isWearB t f = true) (h' : isWearB t' f' = true) : mless (mjoin a (mjoin t' (mless t f'))) (mjoin f' (mless f t')) = mless (mjoin (mless (mjoin a t) f) t') f' := by
  obtain ⟨h1, h2, h3⟩ := isWear_iff.1 h
  obtain ⟨g1, g2, g3⟩ := isWear_iff.1 h'
  refine mask_ext fun i hi => ?_
  have q1 := h3 i hi
  revert q1
  have q2 := g3 i hi
  revert q2
  simp only [mhas_less _ _ _ hi, mhas_or]
  cases mhas t i <;> cases mhas f i <;> cases mhas t' i <;> cases mhas f' i <;> cases mhas a i <;> simp
/-- What wear changes, if nothing is torn that is torn and nothing filled that is not. -/
theorem worn_torn {t f a : Mask} (h : ∀ i : Nat, i < 128 → (mhas t i = true → mhas a i = false) ∧ (mhas f i = true → mhas a i = true)) : mless (mless (mjoin a t) f) a = t ∧ mless a (mless (mjoin a t) f) = f := by
  constructor
  all_goals
    refine mask_ext fun i hi => ?_
    have q1 := h i hi
    revert q1
    simp only [mhas_less _ _ _ hi, mhas_or]
    cases mhas t i <;> cases mhas f i <;> cases mhas a i <;> simp
end Go.Proofs.YtegopgpnjgikeaaGreatDoor
set_option linter.unusedVariables false
namespace Go.Proofs.YtegopgpnjgikeaaGreatDoor
open Go.RowKit
/-- Are all cards valid, and no two of the same name? -/
def okD (ds : List Crd) : Bool := ds.all isCardB && decide ((ds.map Crd.nm).Nodup)
def deckB (ds : List Crd) : Bool := decide (ds.length ≤ 80) && okD ds
theorem okD_nil : okD [] = true := by simp [okD]
theorem okD_snoc (ds : List Crd) (c : Crd) : okD (ds ++ [c]) = (okD ds && (isCardB c && !ds.any (fun x => decide (x.nm = c.nm)))) := by
  rw [Bool.eq_iff_iff]
  simp only [okD, List.all_append, List.all_cons, List.all_nil, Bool.and_true, Bool.and_eq_true, decide_eq_true_eq, List.map_append, List.map_cons, List.map_nil, Bool.not_eq_true', List.any_eq_false]
  rw [List.nodup_append]
  constructor
  · rintro ⟨⟨h1, h2⟩, h3, _, h5⟩
    exact ⟨⟨h1, h3⟩, h2, fun x hx h => h5 _ (List.mem_map_of_mem hx) c.nm (by simp) h⟩
  · rintro ⟨⟨h1, h3⟩, h2, h4⟩
    refine ⟨⟨h1, h2⟩, h3, by simp, fun a ha b hb hab => ?_⟩
    obtain ⟨x, hx, rfl⟩ := List.mem_map.1 ha
    rw [List.mem_singleton] at hb
    exact h4 x hx (hab.trans hb)
theorem okD_perm {xs ys : List Crd} (h : xs.Perm ys) : okD xs = okD ys := by
  unfold okD
  rw [h.all_eq, Bool.eq_iff_iff]
  simp only [Bool.and_eq_true, decide_eq_true_eq]
  rw [(h.map Crd.nm).nodup_iff]
theorem deckB_perm {xs ys : List Crd} (h : xs.Perm ys) : deckB xs = deckB ys := by unfold deckB; rw [okD_perm h, h.length_eq]
/-- Two decks put together by a key. -/
def mergeF (key : Crd → Int) (a b : List Crd) : List Crd := List.merge a b fun x y => decide (key x ≤ key y)
theorem mergeF_perm (key : Crd → Int) (a b : List Crd) : (mergeF key a b).Perm (a ++ b) := List.merge_perm_append _
theorem mergeF_ok (key : Crd → Int) (a b : List Crd) : deckB (mergeF key a b) = deckB (a ++ b) := deckB_perm (mergeF_perm key a b)
theorem mergeF_right (key : Crd → Int) (x y : Crd) (a b : List Crd) (h : key y < key x) : mergeF key (x :: a) (y :: b) = y :: mergeF key (x :: a) b := by
  unfold mergeF; rw [List.cons_merge_cons_neg]; simpa using h
theorem mergeF_left (key : Crd → Int) (x y : Crd) (a b : List Crd) (h : ¬ key y < key x) : mergeF key (x :: a) (y :: b) = x :: mergeF key a (y :: b) := by
  unfold mergeF; rw [List.cons_merge_cons_pos]; simpa using h
theorem mergeF_nil (key : Crd → Int) (a : List Crd) : mergeF key a [] = a := by unfold mergeF; exact List.merge_right _
theorem nil_mergeF (key : Crd → Int) (b : List Crd) : mergeF key [] b = b := by unfold mergeF; exact List.nil_merge _
end Go.Proofs.YtegopgpnjgikeaaGreatDoor
set_option linter.unusedVariables false
set_option linter.unusedSimpArgs false
namespace Go.Proofs.YtegopgpnjgikeaaGreatDoor
open Go.RowKit
theorem rangeM_has (st : Nat) : ∀ (n : Nat), st + n ≤ 128 → ∀ i : Nat, mhas (rangeM st n) i = (decide (st ≤ i) && decide (i < st + n))
  | 0, _, i => by
    have h : rangeM st (0 : Nat) = 0 := rfl
    rw [h]
    by_cases e : st ≤ i
    · have e2 : ¬ i < st + 0 := by omega
      simp [mhas, e2]
    · simp [mhas, e]
  | n + 1, h, i => by
    have hs : rangeM st (n + 1 : Nat) = mjoin (rangeM st n) (mbit ((st + n : Nat) : Int)) := rfl
    rw [hs, mhas_join_bit _ _ (by omega), rangeM_has st n (by omega) i]
    by_cases e : i = st + n
    · subst e; simp
    · simp only [e, decide_false, Bool.or_false]
      have e2 : (i < st + (n + 1)) = (i < st + n) := propext ⟨fun h => by omega, fun h => by omega⟩
      simp only [e2]
theorem holesTo_range (st n : Nat) (h : st + n ≤ 128) : ∀ k, holesTo (rangeM st n) k = (List.range (min n (k - st))).map (fun j => ((st + j : Nat) : Int))
  | 0 => by simp [holesTo]
  | k + 1 => by
    by_cases e : st ≤ k
    · by_cases e2 : k < st + n
      · rw [holesTo_hit _ _ (by rw [rangeM_has st n h]; simp [e, e2]), holesTo_range st n h k, show min n (k + 1 - st) = min n (k - st) + 1 by omega, List.range_succ, List.map_append, List.map_cons, List.map_nil,
          show st + min n (k - st) = k by omega]
      · rw [holesTo_miss _ _ (by rw [rangeM_has st n h]; simp [e2]), holesTo_range st n h k, show min n (k + 1 - st) = min n (k - st) by omega]
    · rw [holesTo_miss _ _ (by rw [rangeM_has st n h]; simp [e]), holesTo_range st n h k, show min n (k + 1 - st) = min n (k - st) by omega]
theorem holes_range (st n : Nat) (h : st + n ≤ 128) : holesTo (rangeM st n) 128 = (List.range n).map (fun j => ((st + j : Nat) : Int)) := by
  rw [holesTo_range st n h, show min n (128 - st) = n by omega]
/-- A pass: the cards that stay, then those that drop. -/
def passF (ds : List Crd) (h : Int) : List Crd := ds.filter (fun c => !mhas c.m h) ++ ds.filter (fun c => mhas c.m h)
def passesF (ds : List Crd) (hs : List Int) : List Crd := hs.foldl passF ds
theorem passesF_take (ds : List Crd) (hs : List Int) (k : Nat) (hk : k < hs.length) : passesF ds (hs.take (k + 1)) = passF (passesF ds (hs.take k)) hs[k] := by
  unfold passesF
  rw [List.take_succ_eq_append_getElem hk, List.foldl_append]
  rfl
theorem passF_perm (ds : List Crd) (h : Int) : (passF ds h).Perm ds := by
  unfold passF
  exact List.perm_append_comm.trans (List.filter_append_perm (fun c : Crd => mhas c.m h) ds)
theorem passF_len (ds : List Crd) (h : Int) : (passF ds h).length = ds.length := (passF_perm ds h).length_eq
end Go.Proofs.YtegopgpnjgikeaaGreatDoor
set_option linter.unusedVariables false
set_option linter.unusedSimpArgs false
namespace Go.Proofs.YtegopgpnjgikeaaGreatDoor
open Go.RowKit
theorem nothas (i : Nat) : mhas 0 i = false := by simp [mhas]
theorem joinL_has (i : Nat) : ∀ (hs : List Mask) (a : Mask), mhas (hs.foldl mjoin a) i = (mhas a i || hs.any fun h => mhas h i)
  | [], a => by simp
  | h :: hs, a => by rw [List.foldl_cons, joinL_has i hs, mhas_or, List.any_cons, Bool.or_assoc]
theorem joinL_iff (hs : List Mask) (i : Nat) : mhas (joinL hs) i = true ↔ ∃ h ∈ hs, mhas h i = true := by
  unfold joinL
  rw [joinL_has, nothas, Bool.false_or, List.any_eq_true]
theorem wallM_fold (x : Mx) (i : Nat) : ∀ (ws : List ByteArray) (a : Mask), mhas (ws.foldl (fun m s => mjoin m (wholes x s)) a) i = (mhas a i || ws.any fun s => mhas (wholes x s) i)
  | [], a => by simp
  | h :: hs, a => by rw [List.foldl_cons, wallM_fold x i hs, mhas_or, List.any_cons, Bool.or_assoc]
theorem wallM_iff (x : Mx) (ws : List ByteArray) (i : Nat) : mhas (wallM x ws) i = true ↔ ∃ s ∈ ws, mhas (wholes x s) i = true := by
  unfold wallM
  rw [wallM_fold, nothas, Bool.false_or, List.any_eq_true]
theorem mwin_iff (m n : Mask) : mwin m n = true ↔ ∀ i : Nat, i < 128 → mhas m i = true → mhas n i = true := by
  unfold mwin
  rw [decide_eq_true_eq]
  constructor
  · intro h i hi hm
    have := mhas_less m n i hi
    rw [h, nothas, hm, Bool.true_and] at this
    cases hn : mhas n i with
    | true => rfl
    | false => rw [hn] at this; cases this
  · intro h
    refine mask_ext fun i hi => ?_
    rw [mhas_less _ _ _ hi, nothas]
    cases hm : mhas m i with
    | false => rfl
    | true => rw [h i hi hm]; rfl
theorem mask_same {a b : Mask} (h : ∀ i : Nat, i < 128 → (mhas a i = true ↔ mhas b i = true)) : a = b := mask_ext fun i hi => by
  rw [Bool.eq_iff_iff]; exact h i hi
theorem wh_part {st sz per : Int} (s0 : 0 ≤ st) (z0 : 0 < sz) (h1 : st + sz ≤ 128) {k : Nat} {a : Int} {m r : Mask} (h : WH st sz per k a m r) : ∀ i : Nat, mhas r i = true → mhas m i = true ∨ (st ≤ i ∧ (i : Int) < st + sz) := by
  induction h with
  | done a m h => exact fun i hi => .inl hi
  | step k a m r h hs ih =>
    intro i hi
    rcases ih i hi with h2 | h2
    · have e0 := Int.emod_nonneg (nextC a / 65536) (show sz ≠ 0 by omega)
      have e1 := Int.emod_lt_of_pos (nextC a / 65536) z0
      generalize nextC a / 65536 % sz = v at e0 e1 h2
      obtain ⟨n, hn⟩ := Int.eq_ofNat_of_zero_le (show 0 ≤ st + v by omega)
      rw [hn, mhas_join_bit _ _ (by omega)] at h2
      rw [Bool.or_eq_true, decide_eq_true_eq] at h2
      rcases h2 with h2 | h2
      · exact .inl h2
      · right; omega
    · exact .inr h2
theorem wholes_in {x : Mx} (hx : mixB x = true) (s : ByteArray) (i : Nat) (hi : mhas (wholes x s) i = true) : x.st ≤ i ∧ (i : Int) < x.st + x.sz := by
  obtain ⟨a1, a2, a3, a4, a5, a6, a7⟩ := (mixB_iff x).1 hx
  obtain ⟨c0, c1⟩ := chkTo_in s s.size
  obtain ⟨k, hk⟩ := whM_rounds x hx _ c0 c1
  rcases wh_part a6 (by omega) (by omega) hk i hi with h | h
  · rw [nothas] at h; cases h
  · exact h
theorem partX_has {x : Mx} (hx : mixB x = true) (i : Nat) : mhas (partX x) i = true ↔ x.st ≤ i ∧ (i : Int) < x.st + x.sz := by
  obtain ⟨a1, a2, a3, a4, a5, a6, a7⟩ := (mixB_iff x).1 hx
  obtain ⟨st, hst⟩ := Int.eq_ofNat_of_zero_le a6
  obtain ⟨sz, hsz⟩ := Int.eq_ofNat_of_zero_le (show 0 ≤ x.sz by omega)
  unfold partX
  rw [hst, hsz, rangeM_has st sz (by omega), Bool.and_eq_true, decide_eq_true_eq, decide_eq_true_eq]
  omega
theorem wallM_part {x : Mx} (hx : mixB x = true) (ws : List ByteArray) : mmeet (wallM x ws) (partX x) = wallM x ws := mask_same fun i hi => by
  rw [mhas_and, Bool.and_eq_true]
  refine ⟨fun h => h.1, fun h => ⟨h, ?_⟩⟩
  obtain ⟨s, _, hs⟩ := (wallM_iff x ws i).1 h
  exact (partX_has hx i).2 (wholes_in hx s i hs)
theorem mask_low {m : Mask} (h : ∀ i : Nat, 96 ≤ i → mhas m i = false) : isMaskB m = true := by
  unfold isMaskB
  rw [decide_eq_true_eq]
  exact Nat.lt_pow_two_of_testBit _ fun i hi => h i hi
theorem wallM_mask {x : Mx} (hx : mixB x = true) (ws : List ByteArray) : isMaskB (wallM x ws) = true := mask_low fun i hi => by
  obtain ⟨a1, a2, a3, a4, a5, a6, a7⟩ := (mixB_iff x).1 hx
  cases h : mhas (wallM x ws) i with
  | false => rfl
  | true =>
    obtain ⟨s, _, hs⟩ := (wallM_iff x ws i).1 h
    have := wholes_in hx s i hs
    omega
theorem incF_more {N N' : Nat} (hN : N ≤ N') : ∀ {S : List Int} {i : Nat}, incF N i S → incF N' i S
  | [], _, _ => trivial
  | k :: S, i, ⟨j, h0, h1, h2, h3⟩ => ⟨j, h0, h1, by omega, incF_more hN h3⟩
theorem incF_snoc {N : Nat} : ∀ {S : List Int} {i : Nat}, incF N i S → i ≤ N → incF (N + 1) i (S ++ [(N : Int)])
  | [], i, _, h => ⟨N, rfl, h, by omega, trivial⟩
  | k :: S, i, ⟨j, h0, h1, h2, h3⟩, h => ⟨j, h0, h1, by omega, incF_snoc h3 (by omega)⟩
theorem incF_in {N : Nat} {S : List Int} {i : Nat} (h : incF N i S) : ∀ k ∈ S, 0 ≤ k ∧ k < (N : Int) := fun k hk => by
  obtain ⟨j, rfl, _, h2⟩ := incF_mem h k hk
  omega
theorem pickI_more (mb : List Int) (v : Int) (l : List Int) (h : ∀ k ∈ l, 0 ≤ k ∧ k < mb.length) : pickI (mb ++ [v]) l = pickI mb l := by
  unfold pickI
  refine List.map_congr_left fun k hk => ?_
  have := h k hk
  rw [List.getD, List.getD, List.getElem?_append_left (by omega)]
/-- The places of some among all places. -/
theorem pick_some (p q : Nat → Bool) : ∀ n, (∀ i, i < n → q i = true → p i = true) → ∃ S, incF (idxTo p n).length 0 S ∧ pickI (idxTo p n) S = idxTo q n
  | 0, _ => ⟨[], trivial, rfl⟩
  | n + 1, h => by
    obtain ⟨S, h1, h2⟩ := pick_some p q n (fun i hi => h i (by omega))
    cases hp : p n with
    | false =>
      have hq : q n = false := by cases e : q n with | false => rfl | true => rw [h n (by omega) e] at hp; cases hp
      exact ⟨S, by rw [idxTo_miss _ _ hp]; exact h1, by rw [idxTo_miss _ _ hp, idxTo_miss _ _ hq]; exact h2⟩
    | true =>
      rw [idxTo_hit _ _ hp, List.length_append, List.length_singleton]
      cases hq : q n with
      | false => exact ⟨S, incF_more (by omega) h1, by rw [idxTo_miss _ _ hq, pickI_more _ _ _ (incF_in h1)]; exact h2⟩
      | true =>
        refine ⟨S ++ [((idxTo p n).length : Int)], incF_snoc h1 (Nat.zero_le _), ?_⟩
        rw [idxTo_hit _ _ hq, pickI_snoc _ _ _ (by rw [List.length_append, List.length_singleton]; omega), pickI_more _ _ _ (incF_in h1), h2, List.getElem_append_right (by omega)]
        simp
theorem hsL_iff (x : Mx) (V : List ByteArray) (l : List Int) (i : Nat) : mhas (joinL (hsL x V l)) i = true ↔ ∃ k ∈ l, mhas (holeAt x V k) i = true := by
  rw [joinL_iff]
  unfold hsL
  simp only [List.mem_map]
  constructor
  · rintro ⟨_, ⟨k, hk, rfl⟩, h⟩; exact ⟨k, hk, h⟩
  · rintro ⟨k, hk, h⟩; exact ⟨_, ⟨k, hk, rfl⟩, h⟩
/-- The places of a vocabulary whose words are among some. -/
def ownI (V ws : List ByteArray) : List Int := idxTo (fun i => ws.contains (V.getD i ⟨#[]⟩)) V.length
theorem own_join (x : Mx) (V ws : List ByteArray) (hws : ∀ s ∈ ws, s ∈ V) : joinL (hsL x V (ownI V ws)) = wallM x ws := mask_same fun i hi => by
  rw [hsL_iff, wallM_iff]
  unfold ownI
  constructor
  · rintro ⟨k, hk, h⟩
    obtain ⟨j, hj, rfl, hq⟩ := (idxTo_mem _ _ _).1 hk
    rw [List.contains_iff_mem] at hq
    unfold holeAt at h
    rw [Int.toNat_natCast] at h
    exact ⟨_, hq, h⟩
  · rintro ⟨s, hs, h⟩
    obtain ⟨j, hj, rfl⟩ := List.mem_iff_getElem.1 (hws s hs)
    refine ⟨(j : Int), (idxTo_mem _ _ _).2 ⟨j, hj, rfl, ?_⟩, ?_⟩
    · rw [List.contains_iff_mem, getS V j hj]; exact hs
    · rw [holeAt_nat x V j hj]; exact h
theorem own_may (x : Mx) (V ws : List ByteArray) (j : Nat) (hj : j < V.length) (h : V[j] ∈ ws) : (j : Int) ∈ mbX x (wallM x ws) V := by
  unfold mbX maybeTo
  refine (idxTo_mem _ _ _).2 ⟨j, hj, rfl, ?_⟩
  rw [getS V j hj, mwin_iff]
  exact fun i hi hm => (wallM_iff x ws i).2 ⟨_, h, hm⟩
theorem may_in (x : Mx) (m : Mask) (V : List ByteArray) (k : Int) (h : k ∈ mbX x m V) : ∃ j : Nat, k = (j : Int) ∧ j < V.length ∧ mwin (holeAt x V k) m = true := by
  unfold mbX maybeTo at h
  obtain ⟨j, hj, rfl, hq⟩ := (idxTo_mem _ _ _).1 h
  exact ⟨j, rfl, hj, by unfold holeAt; rw [Int.toNat_natCast]; exact hq⟩
theorem may_join (x : Mx) (V ws : List ByteArray) (hws : ∀ s ∈ ws, s ∈ V) : joinL (hsL x V (mbX x (wallM x ws) V)) = wallM x ws := mask_same fun i hi => by
  rw [hsL_iff]
  constructor
  · rintro ⟨k, hk, h⟩
    obtain ⟨j, rfl, hj, hq⟩ := may_in _ _ _ _ hk
    exact (mwin_iff _ _).1 hq i hi h
  · intro h
    rw [← own_join x V ws hws, hsL_iff] at h
    obtain ⟨k, hk, h⟩ := h
    unfold ownI at hk
    obtain ⟨j, hj, rfl, hq⟩ := (idxTo_mem _ _ _).1 hk
    rw [List.contains_iff_mem, getS V j hj] at hq
    exact ⟨_, own_may x V ws j hj hq, h⟩
theorem idxTo_up (p : Nat → Bool) : ∀ n, (idxTo p n).Pairwise (· < ·)
  | 0 => List.Pairwise.nil
  | n + 1 => by
    rw [idxTo, List.pairwise_append]
    refine ⟨idxTo_up p n, by split <;> simp, fun a ha b hb => ?_⟩
    obtain ⟨i, hi, rfl, _⟩ := (idxTo_mem _ _ _).1 ha
    split at hb
    · simp at hb; omega
    · cases hb
theorem pick_up (mb : List Int) (h : mb.Pairwise (· < ·)) : ∀ (S : List Int) (i : Nat), incF mb.length i S → (pickI mb S).Pairwise (· < ·)
  | [], _, _ => List.Pairwise.nil
  | k :: S, i, ⟨j, h0, h1, h2, h3⟩ => by
    subst h0
    show List.Pairwise _ (mb.getD (j : Int).toNat 0 :: pickI mb S)
    refine List.Pairwise.cons (fun a ha => ?_) (pick_up mb h S _ h3)
    obtain ⟨k, hk, rfl⟩ := List.mem_map.1 ha
    obtain ⟨j', rfl, e1, e2⟩ := incF_mem h3 k hk
    rw [Int.toNat_natCast, Int.toNat_natCast, getI mb j h2, getI mb j' e2]
    exact List.pairwise_iff_getElem.1 h j j' h2 e2 (by omega)
theorem sure_mem (hs : List Mask) (T : Mask) (mb : List Int) (v : Int) : ∀ n, n ≤ mb.length → v ∈ sureTo hs T mb n → ∃ k, ∃ h : k < mb.length, v = mb[k] ∧ meqB (joinL (hs.eraseIdx k)) T = false
  | 0, _, h => by rw [sureTo_zero] at h; cases h
  | n + 1, hn, h => by
    cases e : meqB (joinL (hs.eraseIdx n)) T with
    | true => rw [sureTo_miss e] at h; exact sure_mem hs T mb v n (by omega) h
    | false =>
      rw [sureTo_hit (by omega) e, List.mem_append, List.mem_singleton] at h
      rcases h with h | h
      · exact sure_mem hs T mb v n (by omega) h
      · exact ⟨n, by omega, h, e⟩
/-- A place that has to be there is among those that cover. -/
theorem sure_there {hs : List Mask} {T : Mask} {mb : List Int} (hl : hs.length = mb.length) (hall : joinL hs = T) {l : List Int} (hin : incF mb.length 0 l) (hok : okC hs T l = true) {v : Int} (hv : v ∈ sureTo hs T mb mb.length) : v ∈ pickI mb l := by
  obtain ⟨k, hk, rfl, he⟩ := sure_mem hs T mb v _ (Nat.le_refl _) hv
  by_cases hkl : (k : Int) ∈ l
  · exact List.mem_map.2 ⟨k, hkl, by rw [Int.toNat_natCast, getI mb k hk]⟩
  · exfalso
    have hT : joinL (hs.eraseIdx k) = T := mask_same fun i hi => by
      constructor
      · intro h
        obtain ⟨m, hm, h⟩ := (joinL_iff _ _).1 h
        rw [← hall]
        exact (joinL_iff _ _).2 ⟨m, List.mem_of_mem_eraseIdx hm, h⟩
      · intro h
        unfold okC meqB at hok
        rw [beq_iff_eq] at hok
        rw [← hok] at h
        unfold holesI at h
        obtain ⟨m, hm, h⟩ := (joinL_iff _ _).1 h
        obtain ⟨j, hj, rfl⟩ := List.mem_map.1 hm
        obtain ⟨j', rfl, _, e2⟩ := incF_mem hin j hj
        have hj2 : j' < hs.length := by omega
        rw [Int.toNat_natCast, getD_at hs j' hj2] at h
        refine (joinL_iff _ _).2 ⟨hs[j'], ?_, h⟩
        rw [List.mem_eraseIdx_iff_getElem]
        exact ⟨j', hj2, fun e => hkl (by rw [← e]; exact hj), rfl⟩
    rw [hT] at he
    unfold meqB at he
    simp at he
theorem explained_law {x : Mx} (hx : mixB x = true) {V ws : List ByteArray} (hV : (V.length : Int) ≤ 40) (hVn : V.all isNameB = true) (hws : ∀ s ∈ ws, s ∈ V) :
    ∃ (m : Mask) (mb model told : List Int) (code : Int), wallM x ws = m ∧ mbX x m V = mb ∧ askF x [m] V 40 = 0 ∧ expF x m V 2000 = (model, code) ∧ (code = 0 ∨ code = 7) ∧ sureF x m V = (told, 0) ∧ isMaskB m = true ∧
      mb.length ≤ 40 ∧ model.length ≤ 40 ∧ told.length ≤ 40 ∧ (∀ j (h : j < V.length), V[j] ∈ ws → (j : Int) ∈ mb) ∧
      (code = 0 → (∀ k ∈ model, k ∈ mb) ∧ (∀ k ∈ mb, ∃ j : Nat, k = (j : Int) ∧ j < V.length) ∧ model.Pairwise (· < ·) ∧ joinL (hsL x V model) = m ∧ (∀ k ∈ told, k ∈ model) ∧ model.length ≤ (ownI V ws).length) := by
  have hm := wallM_mask hx ws
  have hask : askF x [wallM x ws] V 40 = 0 := ask_ok (by rw [hx, List.all_cons, hm]; rfl) (by unfold wordsB; rw [decide_eq_true hV, hVn]; rfl)
  have hwant : wantX x (wallM x ws) = wallM x ws := wallM_part hx ws
  have hjoin := may_join x V ws hws
  have hcov : meqB (joinL (hsL x V (mbX x (wallM x ws) V))) (wantX x (wallM x ws)) = true := by rw [hjoin, hwant]; unfold meqB; exact beq_self_eq_true _
  have hlen := mbX_len x (wallM x ws) V
  have hhl := hsL_len x V (mbX x (wallM x ws) V)
  have hup : (mbX x (wallM x ws) V).Pairwise (· < ·) := by unfold mbX maybeTo; exact idxTo_up _ _
  obtain ⟨S, hS, hSp⟩ : ∃ S, incF (mbX x (wallM x ws) V).length 0 S ∧ pickI (mbX x (wallM x ws) V) S = ownI V ws := by
    unfold mbX maybeTo ownI
    refine pick_some _ _ _ fun i hi hq => ?_
    rw [List.contains_iff_mem, getS V i hi] at hq
    rw [getS V i hi, mwin_iff]
    exact fun j hj h => (wallM_iff x ws j).2 ⟨_, hq, h⟩
  have hSok : okC (hsL x V (mbX x (wallM x ws) V)) (wallM x ws) S = true := by
    unfold okC
    rw [← holesI_pick x V _ S (incF_in hS), hSp, own_join x V ws hws]
    unfold meqB; exact beq_self_eq_true _
  have hSl : S.length = (ownI V ws).length := by rw [← hSp, pickI_len]
  have hsure := sure_ok hask hcov
  have hexp := exp_ok (a := 2000) hask (by omega) hcov
  rw [hwant] at hsure hexp
  have hmin := covAll_min (okC (hsL x V (mbX x (wallM x ws) V)) (wallM x ws)) (mbX x (wallM x ws) V).length S hS hSok ((mbX x (wallM x ws) V).length + 1) 0 (2000 : Int).toNat (Nat.zero_le _) (by have := incF_len hS (Nat.zero_le _); omega)
  have hin := fun l' => srchA_in (hs := hsL x V (mbX x (wallM x ws) V)) (T := wallM x ws) (b := (2000 : Int).toNat) (l' := l')
  rw [hhl] at hexp hin
  rw [show covAll (okC (hsL x V (mbX x (wallM x ws) V)) (wallM x ws)) (mbX x (wallM x ws) V).length ((mbX x (wallM x ws) V).length + 1) 0 (2000 : Int).toNat = srchA (hsL x V (mbX x (wallM x ws) V)) (wallM x ws) ((mbX x (wallM x ws) V).length + 1) 0 (2000 : Int).toNat by unfold srchA; rw [hhl]] at hmin
  obtain ⟨hne, hhit⟩ := hmin
  have hsl := sureTo_len (hsL x V (mbX x (wallM x ws) V)) (wallM x ws) (mbX x (wallM x ws) V) (mbX x (wallM x ws) V).length
  have hmay := fun k hk => may_in x (wallM x ws) V k hk
  have hown := fun j hj h => own_may x V ws j hj h
  have hthere := fun (l : List Int) h1 h2 (v : Int) => sure_there (mb := mbX x (wallM x ws) V) hhl hjoin (l := l) h1 h2 (v := v)
  have hholes := fun (l : List Int) h => holesI_pick x V (mbX x (wallM x ws) V) l h
  generalize srchA (hsL x V (mbX x (wallM x ws) V)) (wallM x ws) ((mbX x (wallM x ws) V).length + 1) 0 (2000 : Int).toNat = r at hexp hne hhit hin
  obtain ⟨r, b⟩ := r
  cases r with
  | no => exact absurd rfl hne
  | over => exact ⟨_, _, _, _, _, rfl, rfl, hask, hexp, .inr rfl, hsure, hm, by omega, Nat.zero_le _, by omega, hown, fun h => by cases h⟩
  | hit l =>
    obtain ⟨g1, g2, g3⟩ := hhit l rfl
    have g4 := hin l rfl
    refine ⟨_, _, _, _, _, rfl, rfl, hask, hexp, .inl rfl, hsure, hm, by omega, ?_, by omega, hown, fun _ => ⟨?_, fun k hk => ?_, pick_up _ hup l 0 g2, ?_, fun k hk => hthere l g2 g3 k hk, ?_⟩⟩
    · show (pickI _ l).length ≤ 40
      rw [pickI_len]; omega
    · exact pickI_in (P := fun k => k ∈ mbX x (wallM x ws) V) (fun k hk => hk) (incF_in g2)
    · obtain ⟨j, h1, h2, _⟩ := hmay k hk
      exact ⟨j, h1, h2⟩
    · rw [hholes l (incF_in g2)]
      unfold okC meqB at g3
      rwa [beq_iff_eq] at g3
    · rw [pickI_len]; omega
end Go.Proofs.YtegopgpnjgikeaaGreatDoor
set_option linter.unusedVariables false
set_option linter.unusedSimpArgs false
set_option maxRecDepth 100000
namespace Go.Proofs.YtegopgpnjgikeaaGreatDoor
open Go.RowKit
theorem Win.grownOut {lo hi : Nat} {w w' w'' : World} {row : Option Nat} (h : Win lo hi w w') (hg : w'.grownBy w'' row) (hr : ∀ k, row = some k → w.heap.size ≤ k) : Win lo hi w w'' :=
  ⟨hg.os.trans h.os, hg.tape.trans h.tape, hg.output.trans h.output, Nat.le_trans h.size hg.size, fun b hb1 hb2 => (hg.block b (Nat.lt_of_lt_of_le hb1 h.size) (fun e => by have := hr b e.symm; omega)).trans (h.block b hb1 hb2)⟩
theorem Rd.grown {α : Type} {e : Enc α} {w w' : World} {A : Option Addr} {xs : List α} (h : Rd e w A xs) {row : Option Nat} (hg : w.grownBy w' row) (hne : ∀ p, A = some p → row ≠ some p.block) : Rd e w' A xs := fun k hk => by
  obtain ⟨b, off, hA, hlt, hc⟩ := h k hk
  exact ⟨b, off, hA, Nat.lt_of_lt_of_le hlt hg.size, fun j u hu => (cell_blockW (hg.block b hlt (fun e => hne _ hA e.symm))).trans (hc j u hu)⟩
theorem BoxAt.grown {w w' : World} {b : Nat} {cs : Array Value} {t : TypeId} (h : BoxAt w b cs t) {row : Option Nat} (hg : w.grownBy w' row) (hne : row ≠ some b) : BoxAt w' b cs t := (hg.block b h.lt (fun e => hne e.symm)).trans h
section
variable {α : Type} {e : Enc α} {xs : List α} {T : TypeId} {base : Nat} {v : Value}
/-- Append of one element, in a world of which nothing else is told. -/
theorem wpList_pushW {P : Program} {ops : Array Oper} {rest : List Oper} {o : Oper} {a : Act} {Q : Exit → Act → World → Prop} (e : Enc α) {W : World} {bk : Nat} (hgd : o.guard = none) (s y : Operand) (t : TypeId) (z : Value) (bytes : Nat)
    (ho : o.op = .call { callee := .builtin .append, args := #[s, y], argTypes := #[t, t] })
    (ht : P.underlying t = some (.slice T)) (hinfo : (P.info? T).map (fun i => (i.zero, i.size, i.bytes)) = some (some z, e.sz, bytes)) (hz : z.cells.size = e.sz)
    (x : α) (hs : a.eval s = v) (hy : a.eval y = .slice (some ⟨bk, 0, none⟩) 1 1) (hbk : bk = W.heap.size) (HO : Ow e T W base v xs) (hbase : base ≤ W.heap.size)
    (hl : (xs.length + 1) * bytes ≤ 140737488355328) (hl2 : xs.length + 1 ≤ 9223372036854775807)
    (h : ∀ v1 w1, Ow e T w1 base v1 (xs ++ [x]) → W.grownBy w1 v.ownBlock → (v1.ownBlock = v.ownBlock ∨ ∃ b, v1.ownBlock = some b ∧ W.heap.size ≤ b) → wpList P ops Q rest (a.put o.dst v1) w1) :
    wpList P ops Q (o :: rest) a (W.alloc (.cells (e.enc x).toArray T)) :=
  wpList_push2 (w0 := { W with heap := #[] }) e hgd s y t z bytes ho ht hinfo hz x hs hy hbk HO hbase (Nat.zero_le _) ⟨rfl, rfl, rfl, Nat.zero_le _, fun b hb => absurd hb (Nat.not_lt_zero b)⟩ hl hl2 (fun v1 w1 h1 _ h3 h4 => h v1 w1 h1 h3 h4)
end
theorem Conv.convBR {G C : Nat → Int → World → Prop} {T : Prop} (ht : ∀ b r W, C b r W → G b r W) (h : (∀ b r W, C b r W → G b r W) → T) : T := h ht
theorem Conv.convR {G C : Int → World → Prop} {T : Prop} (ht : ∀ r W, C r W → G r W) (h : (∀ r W, C r W → G r W) → T) : T := h ht
end Go.Proofs.YtegopgpnjgikeaaGreatDoor
set_option linter.unusedVariables false
set_option linter.unusedSimpArgs false
set_option maxRecDepth 100000
namespace Go.Proofs.YtegopgpnjgikeaaGreatDoor
open Go.RowKit
/-- The vocabulary. -/
def vocL : List ByteArray := [⟨#[97, 110, 116]⟩, ⟨#[98, 101, 101]⟩, ⟨#[102, 108, 121]⟩, ⟨#[109, 111, 116, 104]⟩, ⟨#[119, 97, 115, 112]⟩, ⟨#[116, 105, 99, 107]⟩, ⟨#[109, 105, 116, 101]⟩, ⟨#[108, 111, 117, 115, 101]⟩, ⟨#[102, 108, 101, 97]⟩, ⟨#[103, 110, 97, 116]⟩, ⟨#[98, 101, 101, 116, 108, 101]⟩, ⟨#[99, 114, 105, 99, 107, 101, 116]⟩, ⟨#[108, 111, 99, 117, 115, 116]⟩, ⟨#[104, 111, 114, 110, 101, 116]⟩]
theorem voc_len : vocL.length = 14 := rfl
theorem voc_good : vocL.all isNameB = true := by decide +kernel
theorem voc_in : ∀ s ∈ vocL, StrIn s := by
  intro s hs
  have := List.all_eq_true.1 voc_good s hs
  unfold isNameB at this
  simp only [Bool.and_eq_true, decide_eq_true_eq] at this
  unfold StrIn
  omega
theorem spec_l03Vocabulary (w : World) :
    Calls Tryz.prog 21 #[] w fun e w' => ∃ b, e = .returned (.slice (some ⟨b, 0, none⟩) 14 14) ∧ Rd encStr w' (some ⟨b, 0, none⟩) vocL ∧ w.heap.size ≤ b ∧ b < w'.heap.size ∧ Ext w w' := by
  go_enter Tryz.func21, Tryz.ntmps21
  go_wp2
  go_ret
  exact ⟨_, rfl, Rd.lit encStr _ vocL _ _ (by decide) rfl, Nat.le_refl _, by simp, (Ext.refl _).alloc _⟩
theorem spec_P6Vocabulary (w : World) :
    Calls Tryz.prog 11 #[] w fun e w' => ∃ b, e = .returned (.slice (some ⟨b, 0, none⟩) 14 14) ∧ Rd encStr w' (some ⟨b, 0, none⟩) vocL ∧ w.heap.size ≤ b ∧ b < w'.heap.size ∧ Ext w w' := by
  go_enter Tryz.func11, Tryz.ntmps11
  go_wp2_with fail
  refine Calls.mono (spec_l03Vocabulary _) ?_
  rintro e w1 ⟨b, rfl, hR, h0, h1, hb1⟩
  go_wp2
  go_ret
  exact ⟨b, rfl, hR, h0, h1, hb1⟩
theorem src_text (base b n : Nat) (ws : List ByteArray) (A : Option Addr) (cap : Nat) (w : World) (h1 : 1 ≤ ws.length) (h2 : ws.length ≤ 1048576) (hS : Src w base b n) (hn : n + 2 ≤ 1099511627776) (hR : Rd encStr w A ws) (hb : ∀ p, A = some p → p.block < b ∨ b + 1 ≤ p.block) :
    Calls Tryz.prog 20 #[.pointer (some ⟨b, 0, none⟩), .slice A ws.length cap] w fun e w' => ∃ s, e = .returned (.string s) ∧ s ∈ ws ∧ Src w' base b (n + 2) ∧ Win b (b + 1) w w' := by
  have hc := src_pick base b n ws.length (by omega) w hS hn
  go_enter Tryz.func20, Tryz.ntmps20
  go_wp2_with fail
  refine Calls.mono hc ?_
  rintro e w1 ⟨r, rfl, r0, r1, hS1, hW1⟩
  obtain ⟨r, rfl⟩ := Int.eq_ofNat_of_zero_le r0
  have hr : r < ws.length := by omega
  have hR1 := hR.win hW1 hb
  obtain ⟨bA, oA, hA, hltA, _⟩ := hR1 r hr
  subst hA
  have m0 := hR1.str r hr
  have hmem := List.getElem_mem hr
  generalize ws[r] = s at m0 hmem
  have i2 : (r : Int) < ws.length := by omega
  clear hc r0 r1 hR hR1
  go_wp2
  go_ret
  exact ⟨s, rfl, hmem, hS1, hW1⟩
theorem src_among (base b n : Nat) (ws : List Int) (A : Option Addr) (cap : Nat) (w : World) (h1 : 1 ≤ ws.length) (h2 : ws.length ≤ 1048576) (hS : Src w base b n) (hn : n + 2 ≤ 1099511627776) (hR : Rd encI64 w A ws) (hb : ∀ p, A = some p → p.block < b ∨ b + 1 ≤ p.block) :
    Calls Tryz.prog 38 #[.pointer (some ⟨b, 0, none⟩), .slice A ws.length cap] w fun e w' => ∃ s : Int, e = .returned (.int .i64 s) ∧ s ∈ ws ∧ Src w' base b (n + 2) ∧ Win b (b + 1) w w' := by
  have hc := src_pick base b n ws.length (by omega) w hS hn
  go_enter Tryz.func38, Tryz.ntmps38
  go_wp2_with fail
  refine Calls.mono hc ?_
  rintro e w1 ⟨r, rfl, r0, r1, hS1, hW1⟩
  obtain ⟨r, rfl⟩ := Int.eq_ofNat_of_zero_le r0
  have hr : r < ws.length := by omega
  have hR1 := hR.win hW1 hb
  obtain ⟨bA, oA, hA, hltA, _⟩ := hR1 r hr
  subst hA
  have m0 := hR1.i64 r hr
  have hmem := List.getElem_mem hr
  generalize ws[r] = s at m0 hmem
  have i2 : (r : Int) < ws.length := by omega
  clear hc r0 r1 hR hR1
  go_wp2
  go_ret
  exact ⟨s, rfl, hmem, hS1, hW1⟩
theorem spec_l00MinX (a b : Int) (w : World) :
    Calls Tryz.prog 39 #[.int .i64 a, .int .i64 b] w fun e w' => e = .returned (.int .i64 (if a < b then a else b)) ∧ Ext w w' := by
  by_cases h : a < b
  · rw [if_pos h]
    go_enter Tryz.func39, Tryz.ntmps39
    go_wp2
    go_ret
    exact ⟨rfl, Ext.refl _⟩
  · rw [if_neg h]
    have h' : (a < b) = False := eq_false h
    go_enter Tryz.func39, Tryz.ntmps39
    go_wp2
    go_ret
    exact ⟨rfl, Ext.refl _⟩
set_option maxHeartbeats 4000000 in
theorem spec_l03Drawn (base b n : Nat) (w : World) (hS : Src w base b n) (hn : n + 6 ≤ 1099511627776) :
    Calls Tryz.prog 17 #[.pointer (some ⟨b, 0, none⟩)] w fun e w' => ∃ x : Mx, e = .returned (.agg #[.int .i16 x.st, .int .i16 x.sz, .int .i16 x.per]) ∧ mixB x = true ∧ MxIn x ∧ Src w' base b (n + 6) ∧ Win b (b + 1) w w' := by
  have lS := hS.lt
  have hbs := hS.base
  go_enter Tryz.func17, Tryz.ntmps17
  go_wp2_with fail
  refine intro_world (R := fun W => Calls _ _ _ W _) (fun W1 hN => ?_)
  have hY1 : BoxAt W1 w.heap.size #[.int .i16 0, .int .i16 0, .int .i16 0] 26 := by rw [hN]; exact (BoxAt.new' rfl).alloc _
  have hR1 : Rd encI64 W1 (some ⟨w.heap.size + 1, 0, none⟩) [8, 12, 20, 30, 40, 60, 96] := by rw [hN]; simpa using Rd.lit encI64 (w.alloc (.cells #[.int .i16 0, .int .i16 0, .int .i16 0] 26)) [8, 12, 20, 30, 40, 60, 96] #[.int .i64 8, .int .i64 12, .int .i64 20, .int .i64 30, .int .i64 40, .int .i64 60, .int .i64 96] _ (by simp) rfl
  have e1 : Ext w W1 := by rw [hN]; exact ((Ext.refl _).alloc _).alloc _
  clear hN
  refine Calls.mono (src_among base b n [8, 12, 20, 30, 40, 60, 96] (some ⟨w.heap.size + 1, 0, none⟩) 7 W1 (by decide) (by decide) (hS.ext e1) (by omega) hR1 (fun p hp => by cases hp; exact .inr (by show b + 1 ≤ w.heap.size + 1; omega))) ?_
  rintro e w2 ⟨sz, rfl, hsz, hS2, hW2⟩
  have z0 : 8 ≤ sz ∧ sz ≤ 96 := by
    simp only [List.mem_cons, List.not_mem_nil, or_false] at hsz
    omega
  have hY2 := hY1.win hW2 (.inr (by omega))
  have hw2 := (Win.of (lo := b) (hi := b + 1) e1).trans hW2
  clear hR1 e1 hW2 hsz hS hY1
  have j1 : IntKind.i64.wrap (97 - sz) = 97 - sz := IntWalk.i64_in _ (by omega)
  have j2 : IntKind.i16.wrap sz = sz := IntWalk.i16_in _ (by omega)
  go_wp2_with fail
  refine Calls.mono (src_pick base b _ (97 - sz) (by omega) w2 hS2 (by omega)) ?_
  rintro e w3 ⟨st, rfl, t0, t1, hS3, hW3⟩
  have hY3 := hY2.win hW3 (.inr (by omega))
  have hw3 := hw2.trans hW3
  clear hY2 hw2 hW3 hS2
  have j3 : IntKind.i16.wrap st = st := IntWalk.i16_in _ (by omega)
  have j4 : sz.tdiv 2 = sz / 2 := Int.tdiv_eq_ediv_of_nonneg (by omega)
  have j5 : IntKind.i64.wrap (sz / 2) = sz / 2 := IntWalk.i64_in _ (by omega)
  have l3 : w.heap.size < w3.heap.size := hY3.lt
  go_wp2_with fail
  refine intro_world (R := fun W => Calls _ _ _ W _) (fun W4 hN => ?_)
  have e4 : Ext w3 W4 := by rw [hN]; exact (Ext.refl _).alloc _
  have hX4 : BoxAt W4 w3.heap.size #[.int .i16 st, .int .i16 sz, .int .i16 0] 26 := by rw [hN]; exact BoxAt.new' rfl
  clear hN
  have hY4 := hY3.ext e4
  have hS4 := hS3.ext e4
  have hw4 := hw3.ext e4
  clear hY3 hS3 hw3 e4
  refine Calls.mono (spec_l00MinX 5 (sz / 2) W4) ?_
  rintro e w5 ⟨rfl, hb5⟩
  have hX5 := hX4.ext hb5
  have hY5 := hY4.ext hb5
  have hS5 := hS4.ext hb5
  have hw5 := hw4.ext hb5
  clear hX4 hY4 hS4 hw4 hb5
  obtain ⟨mn, hmn⟩ : ∃ mn : Int, (if (5 : Int) < sz / 2 then (5 : Int) else sz / 2) = mn := ⟨_, rfl⟩
  have m0 : 4 ≤ mn ∧ mn ≤ 5 ∧ mn ≤ sz / 2 := by split at hmn <;> omega
  rw [hmn]
  clear hmn
  go_wp2_with fail
  refine Calls.mono (src_pick base b _ mn (by omega) w5 hS5 (by omega)) ?_
  rintro e w6 ⟨r, rfl, r0, r1, hS6, hW6⟩
  have lS5 := hS5.lt
  have hX6 := hX5.win hW6 (.inr (by omega))
  have hY6 := hY5.win hW6 (.inr (by omega))
  have hw6 := hw5.trans hW6
  clear hX5 hY5 hS5 hw5 hW6
  have j6 : IntKind.i64.wrap (1 + r) = 1 + r := IntWalk.i64_in _ (by omega)
  have j7 : IntKind.i16.wrap (1 + r) = 1 + r := IntWalk.i16_in _ (by omega)
  have hG : mixB ⟨st, sz, 1 + r⟩ = true := (mixB_iff _).2 ⟨by show 4 ≤ sz; omega, by show sz ≤ 96; omega, by show 1 ≤ 1 + r; omega, by show 1 + r ≤ 8; omega, by show 2 * (1 + r) ≤ sz; omega, by show 0 ≤ st; omega, by show st ≤ 96 - sz; omega⟩
  have hI : MxIn ⟨st, sz, 1 + r⟩ := ⟨⟨by show -32768 ≤ st; omega, by show st < 32768; omega⟩, ⟨by show -32768 ≤ sz; omega, by show sz < 32768; omega⟩, ⟨by show -32768 ≤ 1 + r; omega, by show 1 + r < 32768; omega⟩⟩
  have z0 : World.cell? w6 ⟨w3.heap.size, 0, none⟩ = some (.int .i16 st) := hX6.cell 0
  have z1 : World.cell? w6 ⟨w3.heap.size, 1, none⟩ = some (.int .i16 sz) := hX6.cell 1
  have z2 : World.cell? w6 ⟨w3.heap.size, 2, none⟩ = some (.int .i16 0) := hX6.cell 2
  have zf := hX6.frozen 2
  have lX := hX6.lt
  have u0 : World.cell? w6 ⟨w.heap.size, 0, none⟩ = some (.int .i16 0) := hY6.cell 0
  have u1 : World.cell? w6 ⟨w.heap.size, 1, none⟩ = some (.int .i16 0) := hY6.cell 1
  have u2 : World.cell? w6 ⟨w.heap.size, 2, none⟩ = some (.int .i16 0) := hY6.cell 2
  have uf0 := hY6.frozen 0
  have uf1 := hY6.frozen 1
  have uf2 := hY6.frozen 2
  have lY := hY6.lt
  have lY3 : w.heap.size < w3.heap.size := by omega
  have hneq : ¬ w3.heap.size = w.heap.size := by omega
  have hneq2 : ¬ w.heap.size = w3.heap.size := by omega
  have hYf := (((hY6.setOther (p := ⟨w3.heap.size, 2, none⟩) (show w.heap.size ≠ w3.heap.size by omega) (.int .i16 (1 + r))).set 0 (.int .i16 st)).set 1 (.int .i16 sz)).set 2 (.int .i16 (1 + r))
  have hSf := (((hS6.set (p := ⟨w3.heap.size, 2, none⟩) (show base ≤ w3.heap.size by omega) (show w3.heap.size ≠ b by omega) (.int .i16 (1 + r))).set (p := ⟨w.heap.size, 0, none⟩) (show base ≤ w.heap.size by omega) (show w.heap.size ≠ b by omega) (.int .i16 st)).set (p := ⟨w.heap.size, 1, none⟩) (show base ≤ w.heap.size by omega) (show w.heap.size ≠ b by omega) (.int .i16 sz)).set (p := ⟨w.heap.size, 2, none⟩) (show base ≤ w.heap.size by omega) (show w.heap.size ≠ b by omega) (.int .i16 (1 + r))
  have hWf := (((hw6.setOut (p := ⟨w3.heap.size, 2, none⟩) (show w.heap.size ≤ w3.heap.size by omega) (.int .i16 (1 + r))).setOut (p := ⟨w.heap.size, 0, none⟩) (Nat.le_refl _) (.int .i16 st)).setOut (p := ⟨w.heap.size, 1, none⟩) (Nat.le_refl _) (.int .i16 sz)).setOut (p := ⟨w.heap.size, 2, none⟩) (Nat.le_refl _) (.int .i16 (1 + r))
  clear hX6 hY6 hS6 hw6
  go_wp2
  clear z0 z1 z2 zf lX u0 u1 u2 uf0 uf1 uf2 lY
  have c0 : World.cell? _ ⟨w.heap.size, 0, none⟩ = some (.int .i16 st) := hYf.cell 0
  have c1 : World.cell? _ ⟨w.heap.size, 1, none⟩ = some (.int .i16 sz) := hYf.cell 1
  have c2 : World.cell? _ ⟨w.heap.size, 2, none⟩ = some (.int .i16 (1 + r)) := hYf.cell 2
  refine bodyPost_ret (v := .agg #[.int .i16 st, .int .i16 sz, .int .i16 (1 + r)]) (by simp [results, Tryz.results17, go_sem, c0, c1, c2]) rfl ⟨⟨st, sz, 1 + r⟩, rfl, hG, hI, ?_, ?_⟩
  · exact hSf.up (by omega) (by omega)
  · exact hWf
theorem spec_P6Mix (cs : List UInt8) (A : Option Addr) (cap : Nat) (w : World) (hR : Rd encU8 w A cs) (hn : cs.length ≤ 1099511627776) :
    Calls Tryz.prog 5 #[.slice A cs.length cap] w fun e w' => ∃ x : Mx, e = .returned (.agg #[.int .i16 x.st, .int .i16 x.sz, .int .i16 x.per]) ∧ mixB x = true ∧ MxIn x ∧ Ext w w' := by
  have hf := spec_l00From cs A cap w _ hR hn ((Ext.refl w).alloc (.cells #[.int .i16 0, .int .i16 0, .int .i16 0] 26))
  go_enter Tryz.func5, Tryz.ntmps5
  go_wp2_with fail
  refine Calls.mono hf ?_
  rintro e w1 ⟨b, rfl, hS, hb, hE1⟩
  have hY1 : BoxAt w1 w.heap.size #[.int .i16 0, .int .i16 0, .int .i16 0] 26 := (BoxAt.new' rfl).ext hE1
  simp only [World.size_alloc] at hb
  have hw1 := ((Ext.refl w).alloc (.cells #[.int .i16 0, .int .i16 0, .int .i16 0] 26)).trans hE1
  have hc := spec_l03Drawn _ b 0 w1 hS (by omega)
  clear hf hE1
  go_wp2_with fail
  refine Calls.mono hc ?_
  rintro e w2 ⟨x, rfl, h1, h2, hS2, hW2⟩
  have hY2 := hY1.win hW2 (.inl (by omega))
  have hw2 := hw1.win hW2 (by omega)
  clear hc hY1 hw1 hW2
  have u0 : World.cell? w2 ⟨w.heap.size, 0, none⟩ = some (.int .i16 0) := hY2.cell 0
  have u1 : World.cell? w2 ⟨w.heap.size, 1, none⟩ = some (.int .i16 0) := hY2.cell 1
  have u2 : World.cell? w2 ⟨w.heap.size, 2, none⟩ = some (.int .i16 0) := hY2.cell 2
  have uf0 := hY2.frozen 0
  have uf1 := hY2.frozen 1
  have uf2 := hY2.frozen 2
  have lY := hY2.lt
  have hYf := ((hY2.set 0 (.int .i16 x.st)).set 1 (.int .i16 x.sz)).set 2 (.int .i16 x.per)
  clear hY2
  go_wp2
  clear u0 u1 u2 uf0 uf1 uf2 lY
  have c0 : World.cell? _ ⟨w.heap.size, 0, none⟩ = some (.int .i16 x.st) := hYf.cell 0
  have c1 : World.cell? _ ⟨w.heap.size, 1, none⟩ = some (.int .i16 x.sz) := hYf.cell 1
  have c2 : World.cell? _ ⟨w.heap.size, 2, none⟩ = some (.int .i16 x.per) := hYf.cell 2
  refine bodyPost_ret (v := .agg #[.int .i16 x.st, .int .i16 x.sz, .int .i16 x.per]) (by simp [results, Tryz.results5, go_sem, c0, c1, c2]) rfl ⟨x, rfl, h1, h2, ?_⟩
  exact Ext.set (Nat.le_refl _) (Ext.set (Nat.le_refl _) (Ext.set (Nat.le_refl _) hw2 _) _) _
end Go.Proofs.YtegopgpnjgikeaaGreatDoor
set_option linter.unusedVariables false
set_option linter.unusedSimpArgs false
set_option maxRecDepth 100000
namespace Go.Proofs.YtegopgpnjgikeaaGreatDoor
open Go.RowKit
theorem info_strL : (Tryz.prog.info? 34).map (fun i => (i.zero, i.size, i.bytes)) = some (some (.slice none 0 0), encSV.sz, 24) := by kernel_rfl
theorem info_strY : (Tryz.prog.info? 9).map (fun i => (i.zero, i.size, i.bytes)) = some (some (.string ⟨#[]⟩), encStr.sz, 16) := by kernel_rfl
/-- A lot as it grows: the outer row is the call's own, behind the source's block b; the inner rows lie apart from both. -/
structure LotI (w : World) (b : Nat) (v : Value) (lot : List (List ByteArray)) (hs : List SV) : Prop where
  len : hs.length = lot.length
  out : Ow encSV 34 w (b + 1) v hs
  inn : ∀ k (h : k < lot.length) (h2 : k < hs.length), hs[k].n = lot[k].length ∧ Rd encStr w hs[k].A lot[k] ∧ (lot[k] ≠ [] → ∀ p, hs[k].A = some p → p.block ≠ b ∧ v.ownBlock ≠ some p.block)
theorem LotI.win {w w' : World} {b : Nat} {v : Value} {lot : List (List ByteArray)} {hs : List SV} (h : LotI w b v lot hs) (hW : Win b (b + 1) w w') : LotI w' b v lot hs :=
  ⟨h.len, h.out.win hW (fun b' e => .inr (h.out.lt b' e).1), fun k a c => ⟨(h.inn k a c).1, (h.inn k a c).2.1.winN hW (fun hne p hp => by have := ((h.inn k a c).2.2 hne p hp).1; omega), (h.inn k a c).2.2⟩⟩
theorem LotI.rdL {w : World} {b : Nat} {v : Value} {lot : List (List ByteArray)} {hs : List SV} (h : LotI w b v lot hs) : ∃ A cap, v = .slice A lot.length cap ∧ lot.length ≤ cap ∧ RdL w A lot := by
  obtain ⟨A, cap, h1, h2, h3⟩ := h.out.slice
  rw [h.len] at h1 h2
  exact ⟨A, cap, h1, h2, hs, h.len, h3, fun k a c => ⟨(h.inn k a c).1, (h.inn k a c).2.1⟩⟩
theorem LotI.push {w w' : World} {b : Nat} {v v' : Value} {lot : List (List ByteArray)} {hs : List SV} (h : LotI w b v lot hs) {ws : List ByteArray} {x : SV} (hx : x.n = ws.length) (hR : Rd encStr w x.A ws) (hsep : ws ≠ [] → ∀ p, x.A = some p → p.block ≠ b ∧ v.ownBlock ≠ some p.block)
    (hO : Ow encSV 34 w' (b + 1) v' (hs ++ [x])) (hg : w.grownBy w' v.ownBlock) (ho : v'.ownBlock = v.ownBlock ∨ ∃ k, v'.ownBlock = some k ∧ w.heap.size ≤ k) : LotI w' b v' (lot ++ [ws]) (hs ++ [x]) := by
  have key : ∀ (A : Option Addr) (ls : List ByteArray), Rd encStr w A ls → (ls ≠ [] → ∀ p, A = some p → p.block ≠ b ∧ v.ownBlock ≠ some p.block) → Rd encStr w' A ls ∧ (ls ≠ [] → ∀ p, A = some p → p.block ≠ b ∧ v'.ownBlock ≠ some p.block) := by
    intro A ls hr hsp
    constructor
    · cases ls with
      | nil => exact Rd.nil _ _ _
      | cons l ls => exact hr.grown hg (fun p hp => (hsp (List.cons_ne_nil _ _) p hp).2)
    · intro hne p hp
      refine ⟨(hsp hne p hp).1, fun e => ?_⟩
      rcases ho with h1 | ⟨k, h1, h2⟩
      · exact (hsp hne p hp).2 (h1 ▸ e)
      · have := hr.blk hne p hp
        rw [h1] at e
        cases e
        omega
  refine ⟨by rw [List.length_append, List.length_append, h.len]; rfl, hO, fun k a c => ?_⟩
  by_cases hk : k < lot.length
  · have hk2 : k < hs.length := by rw [h.len]; exact hk
    rw [List.getElem_append_left hk, List.getElem_append_left hk2]
    obtain ⟨i1, i2, i3⟩ := h.inn k hk hk2
    obtain ⟨j1, j2⟩ := key _ _ i2 i3
    exact ⟨i1, j1, j2⟩
  · have hkl : k = lot.length := by rw [List.length_append, List.length_singleton] at a; omega
    subst hkl
    have e1 : (lot ++ [ws])[lot.length]'(by rw [List.length_append, List.length_singleton]; omega) = ws := by rw [List.getElem_append_right (Nat.le_refl _)]; simp
    have e2 : (hs ++ [x])[lot.length]'(by rw [List.length_append, List.length_singleton, h.len]; omega) = x := by rw [List.getElem_append_right (by rw [h.len]; exact Nat.le_refl _)]; simp [h.len]
    rw [e1, e2]
    obtain ⟨j1, j2⟩ := key _ _ hR hsep
    exact ⟨hx, j1, j2⟩
set_option maxHeartbeats 4000000 in
theorem spec_P6Lot (cs : List UInt8) (A : Option Addr) (cap : Nat) (w : World) (hR : Rd encU8 w A cs) (hn : cs.length ≤ 1099511627776) :
    Calls Tryz.prog 6 #[.slice A cs.length cap] w fun e w' => ∃ lot B capB, e = .returned (.slice B lot.length capB) ∧ RdL w' B lot ∧ lot.length ≤ capB ∧ lot.length ≤ 6 ∧ (∀ l ∈ lot, l.length ≤ 4 ∧ ∀ s ∈ l, s ∈ vocL) ∧ Ext w w' := by
  have hf := spec_l00From cs A cap w w hR hn (Ext.refl w)
  go_enter Tryz.func6, Tryz.ntmps6
  go_wp2_with fail
  refine Calls.mono hf ?_
  rintro e w1 ⟨b, rfl, hS, hb, hE1⟩
  clear hf
  have lS := hS.lt
  go_wp2_with fail
  refine intro_world (R := fun W => Calls _ _ _ W _) (fun W2 hN => ?_)
  have e2 : Ext w1 W2 := by rw [hN]; exact (Ext.refl _).alloc _
  have hI2 : LotI W2 b (.slice (some ⟨w1.heap.size, 0, none⟩) 0 0) [] [] := ⟨rfl, by rw [hN]; exact Ow.made0 rfl lS, fun k h => by cases h⟩
  have hS2 := hS.ext e2
  have hw2 := hE1.trans e2
  clear hN e2 hS hE1
  refine Calls.mono (src_pick _ b 0 7 (by omega) W2 hS2 (by omega)) ?_
  rintro e w3 ⟨k0, rfl, k00, k01, hS3, hW3⟩
  have hI3 := hI2.win hW3
  have hw3 := hw2.win hW3 hb
  clear hS2 hI2 hW3 hw2
  obtain ⟨k0, rfl⟩ := Int.eq_ofNat_of_zero_le k00
  go_wp2
  go_loopg [4, 5] k0 (fun g v kv wr => ∃ k : Nat, ∃ lot : List (List ByteArray), ∃ hs : List SV, ∃ ov : Value, g = k ∧ kv = .int .i64 k ∧ v = ov ∧ Hd (lot.length + k = k0) ∧ Hd (∀ l ∈ lot, l.length ≤ 4 ∧ ∀ s ∈ l, s ∈ vocL) ∧ LotI wr b ov lot hs ∧ Src wr w.heap.size b (100 - 14 * k) ∧ Ext w wr)
  case atStart => exact ⟨k0, [], [], _, rfl, rfl, rfl, hd (by simp), hd (fun s h => by cases h), hI3, hS3.up (by omega) (by omega), hw3⟩
  case round =>
    obtain ⟨k, lot, hs, v, hg, rfl, rfl, hlen, hD, hI, hSr, hw⟩ := hrel
    clear hS3 hI3 hw3 k00
    cases k with
    | zero =>
      obtain ⟨B, capB, rfl, hle, hL⟩ := hI.rdL
      go_wp2
      go_ret
      exact ⟨lot, B, capB, rfl, hL, hle, by have := hlen.out; omega, hD.out, hw⟩
    | succ k =>
      have hlen2 := hlen.out
      have i1 : ((0 : Int) < (k + 1 : Nat)) = True := eq_true (by omega)
      rw [show ((k + 1 : Nat) : Int) = (k : Int) + 1 from rfl] at *
      obtain ⟨wo, hwo⟩ : ∃ x, x = wr := ⟨_, rfl⟩
      subst hwo
      have lr := hSr.lt
      have hob := fun b' h => (hI.out.lt b' h)
      go_wp2_with fail
      refine intro_world (R := fun W => Calls _ _ _ W _) (fun W4 hN => ?_)
      have e4 : Ext wo W4 := by rw [hN]; exact (Ext.refl _).alloc _
      have hO4 : Ow encStr 9 W4 wo.heap.size (.slice (some ⟨wo.heap.size, 0, none⟩) 0 0) [] := by rw [hN]; exact Ow.made0 rfl (Nat.le_refl _)
      clear hN
      refine Calls.mono (src_pick _ b _ 5 (by omega) W4 (hSr.ext e4) (by omega)) ?_
      rintro e w5 ⟨n0, rfl, n00, n01, hS5, hW5⟩
      have hO5 := hO4.win hW5 (fun b' h => .inr (by have := (hO4.lt b' h).1; omega))
      have hV5 := (Win.of (lo := b) (hi := b + 1) e4).trans hW5
      have hw5 := (hw.trans e4).win hW5 hb
      clear hO4 hW5 e4
      obtain ⟨n0, rfl⟩ := Int.eq_ofNat_of_zero_le n00
      go_wp2
      go_loopg [6, 7] n0 (fun g u nv wr => ∃ n : Nat, ∃ ws : List ByteArray, g = n ∧ nv = .int .i64 n ∧ Hd (ws.length + n = n0) ∧ Hd (∀ s ∈ ws, s ∈ vocL) ∧ Ow encStr 9 wr wo.heap.size u ws ∧ Src wr w.heap.size b (100 - 14 * (k + 1) + 12 - 2 * n) ∧ Win b (b + 1) wo wr ∧ Ext w wr)
      case atStart => exact ⟨n0, [], rfl, rfl, hd (by simp), hd (fun s h => by cases h), hO5, hS5.up (by omega) (by omega), hV5, hw5⟩
      case round =>
        obtain ⟨n, ws, hg2, rfl, hlw, hDw, hO, hSw, hV, hww⟩ := hrel
        clear hS5 hO5 hV5 hw5 n00
        cases n with
        | zero =>
          have hI6 := hI.win hV
          have hlw2 := hlw.out
          have hsh := hO.shape
          obtain ⟨A5, cap5, rfl, hle5, hR5⟩ := hO.slice
          have hsep : ws ≠ [] → ∀ p, A5 = some p → p.block ≠ b ∧ u4.ownBlock ≠ some p.block := fun hne p hp => by
            rcases hsh with ⟨_, h2⟩ | ⟨g, c, h1, h2, h3⟩
            · exact absurd h2 hne
            · simp only [Value.slice.injEq] at h1
              rw [h1.1] at hp
              cases hp
              refine ⟨show g ≠ b by omega, fun e => ?_⟩
              have h4 : g < wo.heap.size := (hob _ e).2
              omega
          have hl6 : hs.length ≤ 6 := by rw [hI6.len]; omega
          have lSw := hSw.lt
          have lSb := hSw.base
          have hobI := fun j hj => (hI6.out.lt j hj).1
          obtain ⟨Bv, cv, rfl, hlev, hRv⟩ := hI6.out.slice
          clear hO hI hV hlev hRv hsh hob
          go_wp2_with (at_builtin; refine wpList_pushW (base := b + 1) (xs := hs) encSV (by rfl) _ _ 28 (.slice none 0 0) 24 (by rfl) Tryz.underlying28 info_strL (by rfl) (⟨A5, ws.length, cap5⟩ : SV) (by rfl) (by rfl) (by simp) hI6.out (by omega) (by omega) (by omega) ?_)
          intro v9 w9 hO9 hg9 ho9
          have hI9 := hI6.push (ws := ws) (x := ⟨A5, ws.length, cap5⟩) rfl hR5 hsep hO9 hg9 ho9
          have hS9 := hSw.grown hg9 (fun j hj => by have := hobI j hj; omega)
          have hw9 : Ext w w9 := hww.trans' hg9 (fun j hj => by have := hobI j hj; omega)
          have hD9 : Hd (∀ l ∈ lot ++ [ws], l.length ≤ 4 ∧ ∀ s ∈ l, s ∈ vocL) := hd (fun l h => (List.mem_append.1 h).elim (hD.out l) (fun h => by rw [List.mem_singleton.1 h]; exact ⟨by omega, hDw.out⟩))
          have hlen9 : Hd ((lot ++ [ws]).length + k = k0) := hd (by rw [List.length_append, List.length_singleton]; omega)
          go_wp2
          go_roundg k
          case rel => exact ⟨k, _, _, _, rfl, rfl, rfl, hlen9, hD9, hI9, hS9.up (by omega) (by omega), hw9⟩
          case measure => omega
        | succ n =>
          have hlw2 := hlw.out
          have i2 : ((0 : Int) < (n + 1 : Nat)) = True := eq_true (by omega)
          rw [show ((n + 1 : Nat) : Int) = (n : Int) + 1 from rfl] at *
          go_wp2_with fail
          refine Calls.mono (spec_l03Vocabulary _) ?_
          rintro e w6 ⟨c, rfl, hN, hc0, hc1, hb6⟩
          have hO6 := hO.ext hb6
          have hS6 := hSw.ext hb6
          have hV6 := hV.ext hb6
          have hw6 := hww.trans hb6
          have lw := hSw.lt
          have lo6 := hV6.size
          clear hO hSw hV hww hb6
          go_wp2_with fail
          refine Calls.mono (src_text _ b _ vocL (some ⟨c, 0, none⟩) 14 _ (by rw [voc_len]; omega) (by rw [voc_len]; omega) hS6 (by omega) hN (fun p hp => by cases hp; exact .inr (by show b + 1 ≤ c; omega))) ?_
          rintro e w7 ⟨s, rfl, hs, hS7, hW7⟩
          have hO7 := hO6.win hW7 (fun b' h => .inr (by have := (hO6.lt b' h).1; omega))
          have hV7 := hV6.trans hW7
          have hw7 := hw6.win hW7 hb
          have l7 := hS7.lt
          have lo7 := hV7.size
          clear hN hO6 hS6 hV6 hw6 hW7
          obtain ⟨A5, cap5, rfl, hle5, hR5⟩ := hO7.slice
          clear hle5 hR5
          go_wp2_with (at_builtin; refine wpList_pushW (base := wo.heap.size) (xs := ws) encStr (by rfl) _ _ 34 (.string ⟨#[]⟩) 16 (by rfl) Tryz.underlying34 info_strY (by rfl) s (by rfl) (by rfl) (by simp) hO7 (by omega) (by omega) (by omega) ?_)
          intro v8 w8 hO8 hg8 ho8
          have hS8 := hS7.grown hg8 (fun j hj => by have := (hO7.lt j hj).1; have := hw.size; omega)
          have hV8 := hV7.grownOut hg8 (fun j hj => (hO7.lt j hj).1)
          have hw8 : Ext w w8 := hw7.trans' hg8 (fun j hj => by have := (hO7.lt j hj).1; have := hw.size; omega)
          have hD8 : Hd (∀ s' ∈ ws ++ [s], s' ∈ vocL) := hd (fun s' h => (List.mem_append.1 h).elim (hDw.out s') (fun h => by rw [List.mem_singleton.1 h]; exact hs))
          have hlen8 : Hd ((ws ++ [s]).length + n = n0) := hd (by rw [List.length_append, List.length_singleton]; omega)
          go_wp2
          go_roundg n
          case rel => exact ⟨n, _, rfl, rfl, hlen8, hD8, hO8, hS8.up (by omega) (by omega), hV8, hw8⟩
          case measure => omega
end Go.Proofs.YtegopgpnjgikeaaGreatDoor
set_option linter.unusedVariables false
set_option linter.unusedSimpArgs false
set_option maxRecDepth 100000
namespace Go.Proofs.YtegopgpnjgikeaaGreatDoor
open Go.RowKit
theorem filter_take (p : Int → Bool) (xs : List Int) (k : Nat) (h : k < xs.length) : (xs.take (k + 1)).filter p = if p xs[k] = true then (xs.take k).filter p ++ [xs[k]] else (xs.take k).filter p := by
  rw [List.take_succ_eq_append_getElem h, List.filter_append, List.filter_cons, List.filter_nil]
  split
  · rfl
  · rw [List.append_nil]
theorem filter_len (p : Int → Bool) (xs : List Int) (k : Nat) : ((xs.take k).filter p).length ≤ k := by
  have h1 := List.length_filter_le p (xs.take k)
  have h2 : (xs.take k).length ≤ k := by rw [List.length_take]; omega
  omega
set_option maxHeartbeats 2000000 in
theorem spec_l03False (x : Mx) (hmx : mixB x = true) (lot : List (List ByteArray)) (A : Option Addr) (cap : Nat) (ms : List Mask) (hms : ms = masksL x lot) (C : Option Addr) (nC capC : Nat) (hnC : nC = lot.length) (ws : List ByteArray) (B : Option Addr) (nB capB : Nat) (hnB : nB = ws.length) (b0 o0 : Nat) (w : World) (hM : MixAt w b0 o0 x) (hR : RdL w A lot) (hn : lot.length ≤ 1048576) (hll : ∀ l ∈ lot, l.length ≤ 1048576) (hC : Rd encMask w C ms) (hS : Rd encStr w B ws) (hm : ws.length ≤ 1048576) (hok : ∀ x ∈ ws, StrIn x) :
    Calls Tryz.prog 52 #[.pointer (some ⟨b0, o0, none⟩), .slice A lot.length cap, .slice C nC capC, .slice B nB capB] w fun e w' => ∃ v, e = .returned v ∧ Ow encI64 2 w' w.heap.size v (falseL x lot ws) ∧ Ext w w' := by
  subst hnC
  subst hnB
  have hml : ms.length = lot.length := by rw [hms, masksL_len]
  have hres := false_spec x lot ws
  rw [← hms] at hres
  clear hms
  have htr := fun (W : World) (hE : Ext w W) => spec_l03True lot A cap ws B capB W (hR.ext hE) hn hll (hS.ext hE) hm
  have hal := fun (W : World) (hE : Ext w W) => spec_l03All x hmx ws B capB b0 o0 W (hM.ext hE) (hS.ext hE) hm hok
  have hdr := fun (W : World) (hE : Ext w W) => spec_l03Dropped (wallM x ws) ms C capC W (hC.ext hE) (by omega)
  rw [hml] at hdr
  have hdl := droppedL_len (wallM x ws) ms lot.length
  have htl := trueL_len lot ws lot.length
  generalize droppedL (wallM x ws) ms lot.length = L at hres hdr hdl
  generalize trueL lot ws lot.length = O at hres htr htl
  generalize wallM x ws = h at hal hdr
  have htk := fun k (h : k < L.length) => filter_take (fun v => !O.contains v) L k h
  have hfl := fun k => filter_len (fun v => !O.contains v) L k
  have hall : (L.take L.length).filter (fun v => !O.contains v) = falseL x lot ws := by rw [List.take_length, hres]
  generalize falseL x lot ws = r at hall ⊢
  clear hres
  go_enter Tryz.func52, Tryz.ntmps52
  go_wp2_with fail
  refine Calls.mono (htr _ (Ext.refl _)) ?_
  rintro e w1 ⟨v1, rfl, hO1, hb1⟩
  obtain ⟨A1, cap1, rfl, hle1, hR1⟩ := hO1.slice
  clear hO1
  go_wp2_with fail
  refine Calls.mono (hal _ hb1) ?_
  rintro e w2 ⟨rfl, hb2⟩
  have hw2 := hb1.trans hb2
  have hR1 := hR1.ext hb2
  go_wp2_with fail
  refine Calls.mono (hdr _ hw2) ?_
  rintro e w3 ⟨v3, rfl, hO3, hb3⟩
  obtain ⟨A3, cap3, rfl, hle3, hR3⟩ := hO3.slice
  have hw3 := hw2.trans hb3
  have hR1 := hR1.ext hb3
  clear hO3 hb1 hb2 hb3 hw2 htr hal hdr
  go_wp2
  go_loopg [11, 12] L.length (fun g v i wr => ∃ k : Nat, g = L.length - k ∧ k ≤ L.length ∧ i = .int .i64 k ∧ Ext w3 wr ∧ Ow encI64 2 wr w3.heap.size v ((L.take k).filter (fun v => !O.contains v)))
  case atStart => exact ⟨0, by omega, by omega, rfl, (Ext.refl _).alloc _, by rw [List.take_zero]; exact Ow.made0 rfl (Nat.le_refl _)⟩
  case round =>
    obtain ⟨k, hg, hk, rfl, hw, hO⟩ := hrel
    by_cases hkl : k < L.length
    · obtain ⟨b, off, hA, hlt, _⟩ := hR3 k hkl
      subst hA
      have m0 := (hR3.ext hw).i64 k hkl
      have m1 := World.block_lt_of_cell? _ _ m0
      dsimp only at m1
      have hsu := htk k hkl
      have hl := hfl k
      have hcall := fun (W : World) (hE : Ext wr W) => spec_l00Has O A1 _ cap1 rfl L[k] W ((hR1.ext hw).ext hE) (by omega)
      generalize hys : (L.take k).filter (fun v => !O.contains v) = ys at hO hsu hl
      clear hys
      cases hq : O.contains L[k] with
      | true =>
        rw [hq] at hcall
        rw [hq] at hsu
        have hsu := hd hsu
        clear hq
        go_wp2_with fail
        refine Calls.mono (hcall _ (Ext.refl _)) ?_
        rintro e w5 ⟨rfl, hb5⟩
        go_wp2
        go_roundg (L.length - (k + 1))
        case rel => exact ⟨k + 1, rfl, hkl, by simp, hw.trans hb5, by rw [hsu.out]; exact hO.ext hb5⟩
        case measure => omega
      | false =>
        rw [hq] at hcall
        rw [hq] at hsu
        have hsu := hd hsu
        clear hq
        go_wp2_with fail
        refine Calls.mono (hcall _ (Ext.refl _)) ?_
        rintro e w5 ⟨rfl, hb5⟩
        have hO5 := hO.ext hb5
        have hw5 := hw.trans hb5
        have m0 := hb5.cell m0
        have m1 := World.block_lt_of_cell? _ _ m0
        dsimp only at m1
        clear hO hb5
        go_wp2_with (at_builtin; refine wpList_push2 (w0 := w3) (base := w3.heap.size) (xs := ys) encI64 (by rfl) _ _ 36 (.int .i64 0) 8 (by rfl) Tryz.underlying36 info_i64 (by rfl) (L[k]) (by rfl) (by rfl) (by simp) (hO5) ((hw5 : Ext w3 _).size) (Nat.le_refl _) (hw5) (by omega) (by omega) ?_)
        intro v6 w6 hO6 hb6 hg6 _
        go_wp2
        go_roundg (L.length - (k + 1))
        case rel => exact ⟨k + 1, rfl, hkl, by simp, hb6, by rw [hsu.out]; exact hO6⟩
        case measure => omega
    · obtain rfl : k = L.length := by omega
      rw [hall] at hO
      go_wp2
      go_ret
      exact ⟨_, rfl, hO.lower hw3.size, hw3.trans hw⟩
set_option maxHeartbeats 2000000 in
theorem impl_falseOf (x : Mx) (hmx : mixB x = true) (lot : List (List ByteArray)) (A : Option Addr) (cap : Nat) (ws : List ByteArray) (B : Option Addr) (capB : Nat) (w : World) (hR : RdL w A lot) (hn : lot.length ≤ 1048576) (hll : ∀ l ∈ lot, l.length ≤ 1048576) (hokL : ∀ l ∈ lot, ∀ x ∈ l, StrIn x) (hS : Rd encStr w B ws) (hm : ws.length ≤ 1048576) (hok : ∀ x ∈ ws, StrIn x) :
    Calls Tryz.prog 30 #[.agg #[.int .i16 x.st, .int .i16 x.sz, .int .i16 x.per], .slice A lot.length cap, .slice B ws.length capB] w fun e w' => ∃ v, e = .returned v ∧ Ow encI64 2 w' w.heap.size v (falseL x lot ws) ∧ Ext w w' := by
  have hal := fun (W : World) (hE : Ext w W) => impl_holesOf x hmx ws B capB W (hS.ext hE) hm hok
  have hho := fun k (h : k < lot.length) (B1 : Option Addr) (c : Nat) (W : World) (hB : Rd encStr W B1 lot[k]) => impl_holesOf x hmx lot[k] B1 c W hB (hll _ (List.getElem_mem h)) (hokL _ (List.getElem_mem h))
  have hhit0 := fun k (h : k < lot.length) => falseTo_hit (x := x) (ws := ws) h
  have hmissA := fun k (h : k < lot.length) => falseTo_miss1 (x := x) (ws := ws) h
  have hmissB := fun k (h : k < lot.length) => falseTo_miss2 (x := x) (ws := ws) h
  have hz := falseTo_zero x lot ws
  have hall := falseTo_all x lot ws
  have hlen := falseTo_len x lot ws
  generalize falseL x lot ws = r at hall ⊢
  generalize wallM x ws = hh at hal hhit0 hmissA
  obtain ⟨st, sz, per⟩ := x
  dsimp only at hal hho
  have hE0 : Ext w ((w.alloc (.cells #[.int .i16 st, .int .i16 sz, .int .i16 per] 26)).alloc (.cells #[] 2)) := ((Ext.refl _).alloc _).alloc _
  have hx := @ExtOf.cell
  go_enter Tryz.func30, Tryz.ntmps30
  go_wp2_with fail
  refine Calls.mono (hal _ hE0) ?_
  rintro e w1 ⟨rfl, hb1⟩
  have hX : BoxAt w1 w.heap.size #[.int .i16 st, .int .i16 sz, .int .i16 per] 26 := ((BoxAt.new' rfl).alloc _).ext hb1
  have hO : Ow encI64 2 w1 (w.heap.size + 1) (.slice (some ⟨w.heap.size + 1, 0, none⟩) 0 0) [] := (Ow.made0 (by simp) (by simp)).ext hb1
  have hw1 := hE0.trans hb1
  have lX1 := hX.lt
  clear hb1 hal hE0
  go_wp2
  go_loopg [7, 17] lot.length (fun g v i wr => ∃ k : Nat, g = lot.length - k ∧ k ≤ lot.length ∧ i = .int .i64 k ∧ Ext w wr ∧ BoxAt wr w.heap.size #[.int .i16 st, .int .i16 sz, .int .i16 per] 26 ∧ BoxAt wr w1.heap.size #[.int .u64 (lo hh), .int .u64 (hi hh)] 47 ∧ Ow encI64 2 wr (w.heap.size + 1) v (falseTo ⟨st, sz, per⟩ lot ws k) ∧ v.ownBlock ≠ some w1.heap.size)
  case atStart => exact ⟨0, by omega, by omega, rfl, hw1.alloc _, hX.alloc _, BoxAt.new' rfl, by rw [hz]; exact hO.ext ((Ext.refl _).alloc _), fun e => by have := (hO.lt _ e).2; omega⟩
  case round =>
    obtain ⟨k, hg, hk, rfl, hw, hX, hB, hO, hne⟩ := hrel
    by_cases hkl : k < lot.length
    · obtain ⟨b, off, rfl, hlt1⟩ := hR.block k hkl
      obtain ⟨B1, c1, m0, hB1⟩ := (hR.ext hw).at k hkl
      have l1 := World.block_lt_of_cell? _ _ m0
      dsimp only at l1
      have x0 : wr.cell? ⟨w.heap.size, 0, none⟩ = some (.int .i16 st) := hX.cell 0
      have x1 : wr.cell? ⟨w.heap.size, 1, none⟩ = some (.int .i16 sz) := hX.cell 1
      have x2 : wr.cell? ⟨w.heap.size, 2, none⟩ = some (.int .i16 per) := hX.cell 2
      have y0 : wr.cell? ⟨w1.heap.size, 0, none⟩ = some (.int .u64 (lo hh)) := hB.cell 0
      have y1 : wr.cell? ⟨w1.heap.size, 1, none⟩ = some (.int .u64 (hi hh)) := hB.cell 1
      have lX := hX.lt
      have lB := hB.lt
      have hl := hlen k
      have hcall := fun (W : World) (hE : Ext wr W) => hho k hkl B1 c1 W (hB1.ext hE)
      have hha := fun (W : World) (hE : Ext wr W) => impl_hasAll lot[k] B1 c1 ws B capB W (hB1.ext hE) (hll _ (List.getElem_mem hkl)) ((hS.ext hw).ext hE) hm
      have hit := fun a b => hd (hhit0 k hkl a b)
      have missA := fun a => hd (hmissA k hkl a)
      have missB := fun a => hd (hmissB k hkl a)
      generalize wallM ⟨st, sz, per⟩ lot[k] = q at hcall hit missA
      have hwi := fun W => impl_IsWithin hh q W
      cases hq : mwin hh q with
      | true =>
        rw [hq] at hwi
        cases hq2 : hasAllB lot[k] ws with
        | true =>
          rw [hq2] at hha
          have hv := missB hq2
          clear hit missA missB hq hq2
          go_wp2
          refine wp_region_ext (by kernel_rfl) (by kernel_rfl) ?_
          repeat (first | go_big_quiet_step ((first | (go_at_call 43; with_reducible exact Calls.ext_all (fun W hE => hcall W hE)) | (go_at_call 47; with_reducible exact Calls.ext_all (fun W _ => hwi W)) | (go_at_call 29; with_reducible exact Calls.ext_all (fun W hE => hha W hE)))) | quiet_step ((first | (go_at_call 43; with_reducible exact Calls.ext_all (fun W hE => hcall W hE)) | (go_at_call 47; with_reducible exact Calls.ext_all (fun W _ => hwi W)) | (go_at_call 29; with_reducible exact Calls.ext_all (fun W hE => hha W hE)))))
          refine wpQuiet_nil ?_
          intro w5 hq5
          have hb5 := ext_of_class hq5
          clear hq5
          obtain ⟨hc5, hf5, hz5⟩ := bcell3 hb5
          try simp at hz5
          go_wp2
          go_roundg (lot.length - (k + 1))
          case rel => exact ⟨k + 1, rfl, hkl, by simp, hw.trans hb5, hX.ext hb5, hB.ext hb5, by rw [hv.out]; exact hO.ext hb5, hne⟩
          case measure => omega
        | false =>
          rw [hq2] at hha
          have hv := hit hq hq2
          clear hit missA missB hq hq2
          go_wp2
          refine wp_region_ext (by kernel_rfl) (by kernel_rfl) ?_
          repeat (first | go_big_quiet_step ((first | (go_at_call 43; with_reducible exact Calls.ext_all (fun W hE => hcall W hE)) | (go_at_call 47; with_reducible exact Calls.ext_all (fun W _ => hwi W)) | (go_at_call 29; with_reducible exact Calls.ext_all (fun W hE => hha W hE)))) | quiet_step ((first | (go_at_call 43; with_reducible exact Calls.ext_all (fun W hE => hcall W hE)) | (go_at_call 47; with_reducible exact Calls.ext_all (fun W _ => hwi W)) | (go_at_call 29; with_reducible exact Calls.ext_all (fun W hE => hha W hE)))))
          refine wpQuiet_nil ?_
          intro w5 hq5
          have hb5 := ext_of_class hq5
          clear hq5
          obtain ⟨hc5, hf5, hz5⟩ := bcell3 hb5
          try simp at hz5
          have hX5 := hX.ext hb5
          have hB5 := hB.ext hb5
          have hO5 := hO.ext hb5
          have hw5 := hw.trans hb5
          clear hc5 hf5 hz5 hb5 x0 x1 x2 y0 y1 lX lB l1 m0 hO
          have lX := hX5.lt
          have lB := hB5.lt
          go_wp2_with (at_builtin; refine wpList_push2 (w0 := w) (base := w.heap.size + 1) (xs := falseTo ⟨st, sz, per⟩ lot ws k) encI64 (by rfl) _ _ 36 (.int .i64 0) 8 (by rfl) Tryz.underlying36 info_i64 (by rfl) ((k : Int)) (by rfl) (by rfl) (by simp) (hO5) (by have := (hw5 : Ext w _).size; simp at this ⊢; omega) (by omega) (hw5) (by omega) (by omega) ?_)
          intro v6 w6 hO6 hb6 hg6 ho6
          have n1 : ¬ some w.heap.size = u7.ownBlock := fun e => by have := (hO5.lt _ e.symm).1; omega
          have hne6 : v6.ownBlock ≠ some w1.heap.size := fun e => by
            rcases ho6 with h1 | ⟨bb, h1, h2⟩
            · exact hne (h1.symm.trans e)
            · rw [h1] at e
              have := Option.some.inj e
              omega
          go_wp2
          go_roundg (lot.length - (k + 1))
          case rel => exact ⟨k + 1, rfl, hkl, by simp, hb6, (hg6.block _ hX5.lt n1).trans hX5, (hg6.block _ hB5.lt (fun e => hne e.symm)).trans hB5, by rw [hv.out]; exact hO6, hne6⟩
          case measure => omega
      | false =>
        rw [hq] at hwi
        have hv := missA hq
        clear hit missA missB hq
        go_wp2
        refine wp_region_ext (by kernel_rfl) (by kernel_rfl) ?_
        repeat (first | go_big_quiet_step ((first | (go_at_call 43; with_reducible exact Calls.ext_all (fun W hE => hcall W hE)) | (go_at_call 47; with_reducible exact Calls.ext_all (fun W _ => hwi W)))) | quiet_step ((first | (go_at_call 43; with_reducible exact Calls.ext_all (fun W hE => hcall W hE)) | (go_at_call 47; with_reducible exact Calls.ext_all (fun W _ => hwi W)))))
        refine wpQuiet_nil ?_
        intro w5 hq5
        have hb5 := ext_of_class hq5
        clear hq5
        obtain ⟨hc5, hf5, hz5⟩ := bcell3 hb5
        try simp at hz5
        go_wp2
        go_roundg (lot.length - (k + 1))
        case rel => exact ⟨k + 1, rfl, hkl, by simp, hw.trans hb5, hX.ext hb5, hB.ext hb5, by rw [hv.out]; exact hO.ext hb5, hne⟩
        case measure => omega
    · obtain rfl : k = lot.length := by omega
      rw [hall] at hO
      go_wp2
      go_ret
      exact ⟨_, rfl, hO.lower (by omega), hw⟩
set_option maxHeartbeats 1000000 in
theorem impl_FalseOf (x : Mx) (hxi : MxIn x) (lot : List (List ByteArray)) (A : Option Addr) (cap : Nat) (ws : List ByteArray) (B : Option Addr) (capB : Nat) (w : World) (hR : RdL w A lot) (hn : lot.length ≤ 1048576) (hll : ∀ l ∈ lot, l.length ≤ 1048576) (hokL : ∀ l ∈ lot, ∀ x ∈ l, StrIn x) (hS : Rd encStr w B ws) (hm : ws.length ≤ 1048576) (hok : ∀ x ∈ ws, StrIn x) :
    Calls Tryz.prog 13 #[.agg #[.int .i16 x.st, .int .i16 x.sz, .int .i16 x.per], .slice A lot.length cap, .slice B ws.length capB] w fun e w' => ∃ v, e = .returned (.tuple #[v, .int .i64 (falseF x lot ws).2]) ∧ Ow encI64 2 w' w.heap.size v (falseF x lot ws).1 ∧ Ext w w' := by
  have h1 := fun (W : World) => impl_isMix x hxi W
  have h2 := fun (W : World) (hE : Ext w W) => impl_isLot lot A cap W (hR.ext hE) hn hll hokL
  have h3 := fun (W : World) (hE : Ext w W) => impl_areWords ws B capB 12 W (hS.ext hE) hm hok
  have h4 := fun (hq : mixB x = true) (W : World) (hE : Ext w W) => impl_falseOf x hq lot A cap ws B capB W (hR.ext hE) hn hll hokL (hS.ext hE) hm hok
  have k1 := false_bad (x := x) (lot := lot) (ws := ws)
  have k2 := false_far (x := x) (lot := lot) (ws := ws)
  have k3 := false_ok (x := x) (lot := lot) (ws := ws)
  generalize falseL x lot ws = r at k3 h4
  obtain ⟨st, sz, per⟩ := x
  dsimp only at h1 h4
  generalize mixB ⟨st, sz, per⟩ = p at h1 h4 k1 k2 k3
  generalize lotB lot = q at h2 k2 k3
  generalize wordsB ws 12 = q2 at h3 k2 k3
  have hE0 : Ext w (w.alloc (.cells #[.int .i16 st, .int .i16 sz, .int .i16 per] 26)) := (Ext.refl _).alloc _
  have hX0 : BoxAt (w.alloc (.cells #[.int .i16 st, .int .i16 sz, .int .i16 per] 26)) w.heap.size #[.int .i16 st, .int .i16 sz, .int .i16 per] 26 := BoxAt.new' rfl
  cases p with
  | false =>
    have hv := hd (k1 rfl)
    clear k1 k2 k3 h4
    go_enter Tryz.func13, Tryz.ntmps13
    go_wp2_with fail
    refine Calls.mono (h1 _) ?_
    rintro e w1 ⟨rfl, hb1⟩
    have hw1 := hE0.trans hb1
    go_wp2
    refine bodyPost_ret (v := .tuple #[.slice none 0 0, .int .i64 1]) (by simp [results, Tryz.results13, go_sem]) rfl ⟨_, by rw [hv.out], by rw [hv.out]; exact Ow.nil _ _ _ _, hw1⟩
  | true =>
    replace h4 := h4 rfl
    cases q2 with
    | false =>
      have hv := hd (k2 rfl (by cases q <;> rfl))
      clear k1 k2 k3 h4
      go_enter Tryz.func13, Tryz.ntmps13
      go_wp2_with fail
      refine Calls.mono (h1 _) ?_
      rintro e w1 ⟨rfl, hb1⟩
      have hw1 := hE0.trans hb1
      go_wp2_with fail
      refine Calls.mono (h3 _ hw1) ?_
      rintro e w2 ⟨rfl, hb2⟩
      go_wp2
      refine bodyPost_ret (v := .tuple #[.slice none 0 0, .int .i64 2]) (by simp [results, Tryz.results13, go_sem]) rfl ⟨_, by rw [hv.out], by rw [hv.out]; exact Ow.nil _ _ _ _, hw1.trans hb2⟩
    | true =>
      cases q with
      | false =>
        have hv := hd (k2 rfl rfl)
        clear k1 k2 k3 h4
        go_enter Tryz.func13, Tryz.ntmps13
        go_wp2_with fail
        refine Calls.mono (h1 _) ?_
        rintro e w1 ⟨rfl, hb1⟩
        have hw1 := hE0.trans hb1
        go_wp2_with fail
        refine Calls.mono (h3 _ hw1) ?_
        rintro e w2 ⟨rfl, hb2⟩
        have hw2 := hw1.trans hb2
        go_wp2_with fail
        refine Calls.mono (h2 _ hw2) ?_
        rintro e w3 ⟨rfl, hb3⟩
        go_wp2
        refine bodyPost_ret (v := .tuple #[.slice none 0 0, .int .i64 2]) (by simp [results, Tryz.results13, go_sem]) rfl ⟨_, by rw [hv.out], by rw [hv.out]; exact Ow.nil _ _ _ _, hw2.trans hb3⟩
      | true =>
        have hv := hd (k3 rfl rfl)
        clear k1 k2 k3
        go_enter Tryz.func13, Tryz.ntmps13
        go_wp2_with fail
        refine Calls.mono (h1 _) ?_
        rintro e w1 ⟨rfl, hb1⟩
        have hw1 := hE0.trans hb1
        have hX := hX0.ext hb1
        go_wp2_with fail
        refine Calls.mono (h3 _ hw1) ?_
        rintro e w2 ⟨rfl, hb2⟩
        have hw2 := hw1.trans hb2
        have hX := hX.ext hb2
        go_wp2_with fail
        refine Calls.mono (h2 _ hw2) ?_
        rintro e w3 ⟨rfl, hb3⟩
        have hw3 := hw2.trans hb3
        have hX := hX.ext hb3
        have x0 : w3.cell? ⟨w.heap.size, 0, none⟩ = some (.int .i16 st) := hX.cell 0
        have x1 : w3.cell? ⟨w.heap.size, 1, none⟩ = some (.int .i16 sz) := hX.cell 1
        have x2 : w3.cell? ⟨w.heap.size, 2, none⟩ = some (.int .i16 per) := hX.cell 2
        have lX := hX.lt
        go_wp2_with fail
        refine Calls.mono (h4 _ hw3) ?_
        rintro e w4 ⟨v4, rfl, hO4, hb4⟩
        go_wp2
        refine bodyPost_ret (v := .tuple #[v4, .int .i64 0]) (by simp [results, Tryz.results13, go_sem]) rfl ⟨_, by rw [hv.out], by rw [hv.out]; exact hO4.lower hw3.size, hw3.trans hb4⟩
end Go.Proofs.YtegopgpnjgikeaaGreatDoor
set_option linter.unusedVariables false
set_option linter.unusedSimpArgs false
set_option maxRecDepth 100000
namespace Go.Proofs.YtegopgpnjgikeaaGreatDoor
open Go.RowKit
theorem firsts_step {α : Type} [DecidableEq α] (xs : List α) (x : α) : firsts (xs ++ [x]) = if x ∈ firsts xs then firsts xs else firsts xs ++ [x] := by
  have e : firsts (xs ++ [x]) = if (firsts xs).contains x = true then firsts xs else firsts xs ++ [x] := by
    unfold firsts
    rw [List.foldl_append]
    rfl
  rw [e]
  by_cases h : x ∈ firsts xs
  · rw [if_pos h, if_pos (List.contains_iff_mem.2 h)]
  · rw [if_neg h, if_neg (fun e => h (List.contains_iff_mem.1 e))]
theorem firsts_snoc (xs : List ByteArray) (x : ByteArray) : firsts (xs ++ [x]) = if x ∈ firsts xs then firsts xs else firsts xs ++ [x] := by rw [firsts_step]; by_cases h : x ∈ firsts xs <;> simp [h]
theorem firsts_have {xs : List ByteArray} {x : ByteArray} (h : (firsts xs).contains x = true) : firsts (xs ++ [x]) = firsts xs := by rw [firsts_snoc, if_pos (List.contains_iff_mem.1 h)]
theorem firsts_new {xs : List ByteArray} {x : ByteArray} (h : (firsts xs).contains x = false) : firsts (xs ++ [x]) = firsts xs ++ [x] := by
  rw [firsts_snoc, if_neg (fun e => by rw [List.contains_iff_mem.2 e] at h; cases h)]
theorem firsts_fold_len {α : Type} [DecidableEq α] (xs : List α) : ∀ acc : List α, (xs.foldl (fun acc x => if acc.contains x then acc else acc ++ [x]) acc).length ≤ acc.length + xs.length := by
  induction xs with
  | nil => intro acc; simp
  | cons x xs ih =>
    intro acc
    rw [List.foldl_cons]
    refine Nat.le_trans (ih _) ?_
    rw [List.length_cons]
    split
    · omega
    · rw [List.length_append, List.length_singleton]; omega
theorem firsts_len (xs : List ByteArray) : (firsts xs).length ≤ xs.length := by
  have := firsts_fold_len xs []
  simpa [firsts] using this
theorem flat_len (lot : List (List ByteArray)) : lot.flatten.length = tot lot := by unfold tot; rw [List.length_flatten]
theorem flat_take (lot : List (List ByteArray)) (k : Nat) (h : k < lot.length) : (lot.take (k + 1)).flatten = (lot.take k).flatten ++ lot[k] := by
  rw [List.take_succ_eq_append_getElem h, List.flatten_append]; simp
theorem tot_le (lot : List (List ByteArray)) (j : Nat) : tot (lot.take j) ≤ tot lot := by
  have h1 : tot lot = tot (lot.take j) + tot (lot.drop j) := by
    unfold tot
    rw [← List.sum_append, ← List.map_append, List.take_append_drop]
  omega
theorem tot_lot {lot : List (List ByteArray)} (h : lotB lot = true) : tot lot ≤ 720 := by
  obtain ⟨h1, h2⟩ := lot_all h
  have : ∀ l : List (List ByteArray), (∀ x ∈ l, x.length ≤ 12) → tot l ≤ 12 * l.length := by
    intro l
    unfold tot
    induction l with
    | nil => intro _; simp
    | cons x xs ih =>
      intro hx
      rw [List.map_cons, List.sum_cons, List.length_cons]
      have a := hx x (List.mem_cons_self ..)
      have b := ih (fun y hy => hx y (List.mem_cons_of_mem _ hy))
      omega
  have := this lot (fun x hx => (h2 x hx).1)
  omega
theorem Rd.one {w : World} {b off : Nat} {ws : List ByteArray} (h : Rd encStr w (some ⟨b, off, none⟩) ws) (k : Nat) (hk : k < ws.length) : Rd encStr w (some ⟨b, off + k, none⟩) [ws[k]] := by
  intro j hj
  obtain rfl : j = 0 := by simpa using hj
  obtain ⟨b', o', e1, hlt, hc⟩ := h k hk
  simp only [Option.some.injEq, Addr.mk.injEq, and_true] at e1
  obtain ⟨rfl, rfl⟩ := e1
  refine ⟨b, off + k, rfl, hlt, fun i u hu => ?_⟩
  have := hc i u hu
  rw [show k * encStr.sz = k from Nat.mul_one k] at this
  rw [show (0 : Nat) * encStr.sz = 0 from Nat.zero_mul _, Nat.add_zero]
  exact this
/-- The false drops of one word. -/
noncomputable def oneN (x : Mx) (lot : List (List ByteArray)) (s : ByteArray) : Nat := (falseL x lot [s]).length
theorem oneN_le (x : Mx) (lot : List (List ByteArray)) (s : ByteArray) : oneN x lot s ≤ lot.length := by
  unfold oneN; rw [← falseTo_all]; exact falseTo_len _ _ _ _
noncomputable def sumTo (x : Mx) (lot : List (List ByteArray)) (ws : List ByteArray) (k : Nat) : Nat := ((ws.take k).map (oneN x lot)).sum
theorem sumTo_zero (x : Mx) (lot : List (List ByteArray)) (ws : List ByteArray) : sumTo x lot ws 0 = 0 := rfl
theorem sumTo_succ (x : Mx) (lot : List (List ByteArray)) (ws : List ByteArray) (k : Nat) (h : k < ws.length) : sumTo x lot ws (k + 1) = sumTo x lot ws k + oneN x lot ws[k] := by
  unfold sumTo; rw [List.take_succ_eq_append_getElem h, List.map_append, List.sum_append]; simp
theorem sumTo_le (x : Mx) (lot : List (List ByteArray)) (ws : List ByteArray) (h60 : lot.length ≤ 60) : ∀ k, k ≤ ws.length → sumTo x lot ws k ≤ 60 * k
  | 0, _ => Nat.le_refl _
  | k + 1, h => by
    have h1 := sumTo_le x lot ws h60 k (by omega)
    have h2 := oneN_le x lot ws[k]
    rw [sumTo_succ x lot ws k (by omega)]
    omega
theorem sumTo_all (x : Mx) (lot : List (List ByteArray)) : sumTo x lot (firsts lot.flatten) (firsts lot.flatten).length = sumF x lot := by
  unfold sumTo sumF; rw [List.take_length]; rfl
theorem sumF_le {x : Mx} {lot : List (List ByteArray)} (h : lotB lot = true) : sumF x lot ≤ 43200 := by
  have h1 := sumTo_le x lot (firsts lot.flatten) (lot_all h).1 _ (Nat.le_refl _)
  rw [sumTo_all] at h1
  have h2 := firsts_len lot.flatten
  rw [flat_len] at h2
  have h3 := tot_lot h
  omega
attribute [irreducible] sumTo oneN
noncomputable def countF (x : Mx) (lot : List (List ByteArray)) : Int × Int := if mixB x = true then (if lotB lot = true then ((sumF x lot : Int), 0) else (0, 2)) else (0, 1)
theorem count_bad {x : Mx} {lot : List (List ByteArray)} (h : mixB x = false) : countF x lot = (0, 1) := by unfold countF; rw [h]; rfl
theorem count_far {x : Mx} {lot : List (List ByteArray)} (h : mixB x = true) (h2 : lotB lot = false) : countF x lot = (0, 2) := by unfold countF; rw [h, h2]; rfl
theorem count_ok {x : Mx} {lot : List (List ByteArray)} (h : mixB x = true) (h2 : lotB lot = true) : countF x lot = ((sumF x lot : Int), 0) := by unfold countF; rw [h, h2]; rfl
set_option maxHeartbeats 2000000 in
theorem spec_l03Different (lot : List (List ByteArray)) (A : Option Addr) (cap : Nat) (w : World) (hR : RdL w A lot) (hn : lot.length ≤ 1048576) (hll : ∀ l ∈ lot, l.length ≤ 1048576) (ht : tot lot ≤ 1048576) :
    Calls Tryz.prog 51 #[.slice A lot.length cap] w fun e w' => ∃ v, e = .returned v ∧ Ow encStr 9 w' w.heap.size v (firsts lot.flatten) ∧ Ext w w' := by
  have hfl := fun k (h : k < lot.length) => flat_take lot k h
  have hfll := fun k => flat_len (lot.take k)
  have htl := tot_le lot
  have hts := fun k (h : k < lot.length) => tot_take lot k h
  have hall : (lot.take lot.length).flatten = lot.flatten := by rw [List.take_length]
  go_enter Tryz.func51, Tryz.ntmps51
  go_wp2
  go_loopg [3, 4] lot.length (fun g v i wr => ∃ k : Nat, g = lot.length - k ∧ k ≤ lot.length ∧ i = .int .i64 k ∧ Ext w wr ∧ Ow encStr 9 wr w.heap.size v (firsts (lot.take k).flatten))
  case atStart => exact ⟨0, by omega, by omega, rfl, (Ext.refl _).alloc _, by rw [List.take_zero]; exact Ow.made0 rfl (Nat.le_refl _)⟩
  case round =>
    obtain ⟨k, hg, hk, rfl, hw, hO⟩ := hrel
    by_cases hkl : k < lot.length
    · obtain ⟨b, off, rfl, hlt1⟩ := hR.block k hkl
      have hllk := hll _ (List.getElem_mem hkl)
      have hsu := hd (hfl k hkl)
      have hP1 := hfll k
      have hP2 := htl (k + 1)
      have hP3 := hts k hkl
      generalize (lot.take k).flatten = P at hO hsu hP1
      obtain ⟨wo, hwo⟩ : ∃ x, x = wr := ⟨_, rfl⟩
      subst hwo
      go_wp2
      go_loopg [3, 5] lot[k].length (fun g v i wr2 => ∃ j : Nat, g = lot[k].length - j ∧ j ≤ lot[k].length ∧ i = .int .i64 j ∧ Ext w wr2 ∧ Ow encStr 9 wr2 w.heap.size v (firsts (P ++ lot[k].take j)))
      case atStart => exact ⟨0, by omega, by omega, rfl, hw, by rw [List.take_zero, List.append_nil]; exact hO⟩
      case round =>
        obtain ⟨j, hg2, hj, rfl, hE, hO2⟩ := hrel
        obtain ⟨B1, c1, m0, hB1⟩ := (hR.ext hE).at k hkl
        have l1 := World.block_lt_of_cell? _ _ m0
        dsimp only at l1
        by_cases hjl : j < lot[k].length
        · obtain ⟨bB, oB, hB, hltB, _⟩ := hB1 j hjl
          subst hB
          obtain ⟨n0, n1⟩ := hB1.strs j hjl
          have hnx : P ++ lot[k].take (j + 1) = (P ++ lot[k].take j) ++ [lot[k][j]] := by rw [List.take_succ_eq_append_getElem hjl, List.append_assoc]
          have hQl : (P ++ lot[k].take j).length ≤ 1048576 := by rw [List.length_append, List.length_take]; omega
          generalize P ++ lot[k].take j = Q at hO2 hnx hQl
          have hfQ := firsts_len Q
          obtain ⟨A2, c2, rfl, hle2, hR2⟩ := hO2.slice
          have hcall := fun (W : World) (hE : Ext wr W) => spec_l03Has (firsts Q) A2 _ c2 rfl lot[k][j] W (hR2.ext hE) (by omega)
          cases hq : (firsts Q).contains lot[k][j] with
          | true =>
            rw [hq] at hcall
            have hv := hd (show firsts (P ++ lot[k].take (j + 1)) = firsts Q by rw [hnx, firsts_have hq])
            clear hq hnx
            go_wp2_with fail
            refine Calls.mono (hcall _ (Ext.refl _)) ?_
            rintro e w5 ⟨rfl, hb5⟩
            go_wp2
            go_roundg (lot[k].length - (j + 1))
            case rel => exact ⟨j + 1, rfl, hjl, by simp, hE.trans hb5, by rw [hv.out]; exact hO2.ext hb5⟩
            case measure => omega
          | false =>
            rw [hq] at hcall
            have hv := hd (show firsts (P ++ lot[k].take (j + 1)) = firsts Q ++ [lot[k][j]] by rw [hnx, firsts_new hq])
            clear hq hnx
            go_wp2_with fail
            refine Calls.mono (hcall _ (Ext.refl _)) ?_
            rintro e w5 ⟨rfl, hb5⟩
            have hO5 := hO2.ext hb5
            have hE5 := hE.trans hb5
            have m0 := hb5.cell m0
            have l1 := World.block_lt_of_cell? _ _ m0
            have n0 := hb5.cell n0
            have n1 := World.block_lt_of_cell? _ _ n0
            dsimp only at l1 n1
            clear hO2 hb5
            go_wp2_with (at_builtin; refine wpList_push2 (w0 := w) (base := w.heap.size) (xs := firsts Q) encStr (by rfl) _ _ 34 (.string ⟨#[]⟩) 16 (by rfl) Tryz.underlying34 info_str (by rfl) (lot[k][j]) (by rfl) (by rfl) (by simp) (hO5) ((hE5 : Ext w _).size) (Nat.le_refl _) (hE5) (by omega) (by omega) ?_)
            intro v6 w6 hO6 hb6 hg6 ho6
            go_wp2
            go_roundg (lot[k].length - (j + 1))
            case rel => exact ⟨j + 1, rfl, hjl, by simp, hb6, by rw [hv.out]; exact hO6⟩
            case measure => omega
        · obtain rfl : j = lot[k].length := by omega
          rw [List.take_length] at hO2
          go_wp2
          go_roundg (lot.length - (k + 1))
          case rel => exact ⟨k + 1, rfl, hkl, by simp, hE, by rw [hsu.out]; exact hO2⟩
          case measure => omega
    · obtain rfl : k = lot.length := by omega
      rw [hall] at hO
      go_wp2
      go_ret
      exact ⟨_, rfl, hO, hw⟩
set_option maxHeartbeats 2000000 in
theorem spec_l03Sum (x : Mx) (hmx : mixB x = true) (lot : List (List ByteArray)) (hlb : lotB lot = true) (A : Option Addr) (cap : Nat) (b0 o0 : Nat) (w : World) (hM : MixAt w b0 o0 x) (hR : RdL w A lot) (hok : ∀ l ∈ lot, ∀ x ∈ l, StrIn x) :
    Calls Tryz.prog 27 #[.pointer (some ⟨b0, o0, none⟩), .slice A lot.length cap] w fun e w' => e = .returned (.int .i64 (sumF x lot)) ∧ Ext w w' := by
  obtain ⟨h60, hwd⟩ := lot_all hlb
  have hn : lot.length ≤ 1048576 := by omega
  have hll : ∀ l ∈ lot, l.length ≤ 1048576 := fun l hl => by have := (hwd l hl).1; omega
  have ht := tot_lot hlb
  have hms := fun (W : World) (hE : Ext w W) => spec_l03Masks x hmx lot A cap b0 o0 W (hM.ext hE) (hR.ext hE) hn hll hok
  have hdi := fun (W : World) (hE : Ext w W) => spec_l03Different lot A cap W (hR.ext hE) hn hll (by omega)
  have hsz : ∀ s ∈ firsts lot.flatten, StrIn s := fun s hs => by
    rw [firsts_mem] at hs
    obtain ⟨l, h1, h2⟩ := List.mem_flatten.1 hs
    exact hok l h1 s h2
  have hfl : (firsts lot.flatten).length ≤ 720 := by have := firsts_len lot.flatten; rw [flat_len] at this; omega
  have hall := sumTo_all x lot
  generalize firsts lot.flatten = fs at hdi hsz hfl hall
  have hz := sumTo_zero x lot fs
  have hsu0 := fun k (h : k < fs.length) => sumTo_succ x lot fs k h
  have hle := sumTo_le x lot fs h60
  have h1e := fun s => oneN_le x lot s
  have hml := masksL_len x lot
  have hfa := fun k (h : k < fs.length) (C : Option Addr) (capC : Nat) (B : Option Addr) (capB : Nat) (W : World) (hE : Ext w W) (hC : Rd encMask W C (masksL x lot)) (hB : Rd encStr W B [fs[k]]) => spec_l03False x hmx lot A cap _ rfl C (masksL x lot).length capC hml [fs[k]] B 1 capB rfl b0 o0 W (hM.ext hE) (hR.ext hE) hn hll hC hB (by simp) (fun y hy => by rw [List.mem_singleton] at hy; rw [hy]; exact hsz _ (List.getElem_mem h))
  have hone : ∀ s, (falseL x lot [s]).length = oneN x lot s := fun s => by unfold oneN; rfl
  generalize masksL x lot = ms at hms hfa hml
  generalize sumF x lot = r at hall ⊢
  go_enter Tryz.func27, Tryz.ntmps27
  go_wp2_with fail
  refine Calls.mono (hms _ (Ext.refl _)) ?_
  rintro e w1 ⟨v1, rfl, hO1, hb1⟩
  obtain ⟨C, capC, rfl, hleC, hRC⟩ := hO1.slice
  clear hO1
  go_wp2_with fail
  refine Calls.mono (hdi _ hb1) ?_
  rintro e w2 ⟨v2, rfl, hO2, hb2⟩
  obtain ⟨B, capB, rfl, hleB, hRB⟩ := hO2.slice
  clear hO2
  have hRC := hRC.ext hb2
  have hw2 := hb1.trans hb2
  clear hb1 hb2 hms hdi
  go_wp2
  go_loopg [7, 8] fs.length (fun g s i wr => ∃ k : Nat, ∃ n : Nat, g = fs.length - k ∧ k ≤ fs.length ∧ i = .int .i64 k ∧ s = .int .i64 n ∧ Hd (sumTo x lot fs k = n) ∧ Ext w2 wr)
  case atStart => exact ⟨0, 0, by omega, by omega, rfl, rfl, hd hz, Ext.refl _⟩
  case round =>
    obtain ⟨k, n, hg, hk, rfl, rfl, hN, hw⟩ := hrel
    by_cases hkl : k < fs.length
    · obtain ⟨b, off, hA, hlt, _⟩ := hRB k hkl
      subst hA
      have hsu := hsu0 k hkl
      have hn1 := hle k hk
      have hn2 := h1e fs[k]
      rw [hN.out] at hsu hn1
      have hcap : ¬ (capB - k = 0) := by omega
      have hcap2 : k + 1 ≤ capB := by omega
      have ho := hone fs[k]
      have hcall := hfa k hkl C capC (some ⟨b, off + k, none⟩) (capB - k) wr (hw2.trans hw) (hRC.ext hw) ((hRB.ext hw).one k hkl)
      rw [hml] at hcall
      generalize falseL x lot [fs[k]] = L at hcall ho
      rw [← ho] at hsu hn2
      have hsu := hd hsu
      clear ho
      go_wp2_with fail
      refine Calls.mono hcall ?_
      rintro e w5 ⟨v5, rfl, hO5, hb5⟩
      obtain ⟨A5, c5, rfl, _, _⟩ := hO5.slice
      go_wp2
      go_roundg (fs.length - (k + 1))
      case rel => exact ⟨k + 1, n + L.length, rfl, hkl, by simp, by simp, hd (by rw [hsu.out]), hw.trans hb5⟩
      case measure => omega
    · obtain rfl : k = fs.length := by omega
      have hN2 := hN.out.symm.trans hall
      subst hN2
      go_wp2
      go_ret
      exact ⟨rfl, hw2.trans hw⟩
set_option maxHeartbeats 1000000 in
theorem spec_CountFalse (x : Mx) (hxi : MxIn x) (lot : List (List ByteArray)) (A : Option Addr) (cap : Nat) (w : World) (hR : RdL w A lot) (hn : lot.length ≤ 1048576) (hll : ∀ l ∈ lot, l.length ≤ 1048576) (hok : ∀ l ∈ lot, ∀ x ∈ l, StrIn x) :
    Calls Tryz.prog 8 #[.agg #[.int .i16 x.st, .int .i16 x.sz, .int .i16 x.per], .slice A lot.length cap] w fun e w' => e = .returned (.tuple #[.int .i64 (countF x lot).1, .int .i64 (countF x lot).2]) ∧ Ext w w' := by
  have hM0 : ∀ W, BoxAt W w.heap.size #[.int .i16 x.st, .int .i16 x.sz, .int .i16 x.per] 26 → MixAt W w.heap.size 0 x := fun W h => ⟨h.cell 0, h.cell 1, h.cell 2⟩
  have h1 := fun (W : World) (h : MixAt W w.heap.size 0 x) => spec_l03Ok x hxi w.heap.size 0 W h
  have h2 := fun (W : World) (hE : Ext w W) => spec_l03Lot lot A cap W (hR.ext hE) hn hll hok
  have h3 := fun (hq : mixB x = true) (hl : lotB lot = true) (W : World) (h : MixAt W w.heap.size 0 x) (hE : Ext w W) => spec_l03Sum x hq lot hl A cap w.heap.size 0 W h (hR.ext hE) hok
  have k1 := count_bad (x := x) (lot := lot)
  have k2 := count_far (x := x) (lot := lot)
  have k3 := count_ok (x := x) (lot := lot)
  have hX0 : BoxAt (w.alloc (.cells #[.int .i16 x.st, .int .i16 x.sz, .int .i16 x.per] 26)) w.heap.size #[.int .i16 x.st, .int .i16 x.sz, .int .i16 x.per] 26 := BoxAt.new' rfl
  have hE0 : Ext w (w.alloc (.cells #[.int .i16 x.st, .int .i16 x.sz, .int .i16 x.per] 26)) := (Ext.refl _).alloc _
  cases hq : mixB x with
  | false =>
    have hv := hd (k1 hq)
    rw [hq] at h1
    clear k1 k2 k3 h3
    go_enter Tryz.func8, Tryz.ntmps8
    go_wp2_with fail
    refine Calls.mono (h1 _ (hM0 _ hX0)) ?_
    rintro e w1 ⟨rfl, hb1⟩
    go_wp2
    refine bodyPost_ret (v := .tuple #[.int .i64 0, .int .i64 1]) (by simp [results, Tryz.results8, go_sem]) rfl ⟨by rw [hv.out], hE0.trans hb1⟩
  | true =>
    rw [hq] at h1
    replace h3 := h3 hq
    cases hl : lotB lot with
    | false =>
      have hv := hd (k2 hq hl)
      rw [lotF_no hl] at h2
      clear k1 k2 k3 h3
      go_enter Tryz.func8, Tryz.ntmps8
      go_wp2_with fail
      refine Calls.mono (h1 _ (hM0 _ hX0)) ?_
      rintro e w1 ⟨rfl, hb1⟩
      have hw1 := hE0.trans hb1
      go_wp2_with fail
      refine Calls.mono (h2 _ hw1) ?_
      rintro e w2 ⟨rfl, hb2⟩
      go_wp2
      refine bodyPost_ret (v := .tuple #[.int .i64 0, .int .i64 2]) (by simp [results, Tryz.results8, go_sem]) rfl ⟨by rw [hv.out], hw1.trans hb2⟩
    | true =>
      have hv := hd (k3 hq hl)
      replace h3 := h3 hl
      rw [lotF_ok hl] at h2
      clear k1 k2 k3
      generalize sumF x lot = n at h3 hv
      go_enter Tryz.func8, Tryz.ntmps8
      go_wp2_with fail
      refine Calls.mono (h1 _ (hM0 _ hX0)) ?_
      rintro e w1 ⟨rfl, hb1⟩
      have hX := hX0.ext hb1
      have hw1 := hE0.trans hb1
      go_wp2_with fail
      refine Calls.mono (h2 _ hw1) ?_
      rintro e w2 ⟨rfl, hb2⟩
      have hw2 := hw1.trans hb2
      have hX := hX.ext hb2
      go_wp2_with fail
      refine Calls.mono (h3 _ (hM0 _ hX) hw2) ?_
      rintro e w3 ⟨rfl, hb3⟩
      go_wp2
      refine bodyPost_ret (v := .tuple #[.int .i64 n, .int .i64 0]) (by simp [results, Tryz.results8, go_sem]) rfl ⟨by rw [hv.out], hw2.trans hb3⟩
end Go.Proofs.YtegopgpnjgikeaaGreatDoor
set_option linter.unusedVariables false
set_option linter.unusedSimpArgs false
set_option maxRecDepth 100000
namespace Go.Proofs.YtegopgpnjgikeaaGreatDoor
open Go.RowKit
section
variable {α : Type} {e : Enc α} {w0 : World} {xs : List α} {T : TypeId} {base : Nat} {v : Value}
theorem wpList_addAll2 {P : Program} {ops : Array Oper} {rest : List Oper} {o : Oper} {a : Act} {Q : Exit → Act → World → Prop} (e : Enc α) {W : World} (hgd : o.guard = none) (s y : Operand) (t : TypeId) (z : Value) (bytes : Nat)
    (ho : o.op = .call { callee := .builtin .append, args := #[s, y], argTypes := #[t, t] })
    (ht : P.underlying t = some (.slice T)) (hinfo : (P.info? T).map (fun i => (i.zero, i.size, i.bytes)) = some (some z, e.sz, bytes)) (hz : z.cells.size = e.sz)
    (ys : List α) (B : Addr) (c : Nat) (hs : a.eval s = v) (hy : a.eval y = .slice (some B) ys.length c) (HR : Rd e W (some B) ys) (HO : Ow e T W base v xs) (hbase : base ≤ W.heap.size) (hw0 : w0.heap.size ≤ base) (HE : Ext w0 W)
    (hl : (xs.length + ys.length) * bytes ≤ 140737488355328) (hl2 : xs.length + ys.length ≤ 9223372036854775807)
    (h : ∀ v1 w1, Ow e T w1 base v1 (xs ++ ys) → Ext w0 w1 → W.grownBy w1 v.ownBlock → (v1.ownBlock = v.ownBlock ∨ ∃ b, v1.ownBlock = some b ∧ W.heap.size ≤ b) → wpList P ops Q rest (a.put o.dst v1) w1) :
    wpList P ops Q (o :: rest) a W := by
  obtain ⟨i, hi, hz0, hz1, hz2⟩ := info_parts hinfo
  refine wpList_append_own_at W hgd s y t ho base T i z e.sz bytes ht hi hz0 hz1 hz2 hz e.pos v xs.length (e.all xs) hs HO B ys.length c (e.all ys) hy (by rw [e.all_length]) HR.news (e.all_one ys) (by unfold maxLen; omega) hl hbase ?_
  intro v1 w1 hown hg _ hat
  refine h v1 w1 (by rw [Ow, List.length_append, e.all_append]; exact hown) ?_ hg (hat.imp id (fun e => ⟨_, e, Nat.le_refl _⟩))
  exact HE.trans' hg (fun k hk => by have := (HO.lt k hk).1; omega)
end
theorem run_append_none {P : Program} (W : World) (t ty e : TypeId) (i : TypeInfo) (ht : P.underlying t = some (.slice e)) (hi : P.info? e = some i) (A : Option Addr) (n cap c : Nat) (hle : n ≤ cap) :
    (Builtin.append_ #[t, t] ty #[.slice A n cap, .slice none 0 c]).run P W = .ok (.slice A n cap) W := by
  cases A with
  | none => simp [Builtin.append_, run_underlying ht, sizeOf, typeInfo, hi, Builtin.lenOf, Builtin.firstCells, hle]
  | some a => simp [Builtin.append_, run_underlying ht, sizeOf, typeInfo, hi, Builtin.lenOf, Builtin.firstCells, hle, storeCells]
theorem wpList_addNone {P : Program} {ops : Array Oper} {rest : List Oper} {o : Oper} {a : Act} {Q : Exit → Act → World → Prop} {W : World} (hgd : o.guard = none) (s y : Operand) (t e : TypeId) (z : Value) (sz bytes : Nat)
    (ho : o.op = .call { callee := .builtin .append, args := #[s, y], argTypes := #[t, t] })
    (ht : P.underlying t = some (.slice e)) (hinfo : (P.info? e).map (fun i => (i.zero, i.size, i.bytes)) = some (some z, sz, bytes)) (A : Option Addr) (n cap c : Nat) (hle : n ≤ cap) (hs : a.eval s = .slice A n cap) (hy : a.eval y = .slice none 0 c)
    (h : wpList P ops Q rest (a.put o.dst (.slice A n cap)) W) : wpList P ops Q (o :: rest) a W := by
  obtain ⟨i, hi, hz0, hz1, hz2⟩ := info_parts hinfo
  refine wpList_plain hgd fun K hK => ?_
  have hr := run_append_none (P := P) W t o.type e i ht hi A n cap c hle
  unfold Oper.wp execOp
  simp only [ho, resolve, invoke, builtin, Sem.run_bind, Sem.run_pure, Result.andThen_ok, List.map_toArray, List.map_cons, List.map_nil, hs, hy, hr]
  exact hK _ _ h
theorem masksL_at (x : Mx) (lot : List (List ByteArray)) (j : Nat) (h : j < lot.length) (h2 : j < (masksL x lot).length) : (masksL x lot)[j] = wallM x lot[j] := List.getElem_map _
theorem all_str (xs : List ByteArray) : encStr.all xs = xs.map Value.string := by
  unfold Enc.all
  induction xs with
  | nil => rfl
  | cons x xs ih => rw [List.flatMap_cons, ih]; rfl
def toB (l : List UInt8) : ByteArray := ⟨l.toArray⟩
theorem toB_txt (s : ByteArray) : toB (txtL s) = s := by cases s; rfl
theorem map_toB (ls : List (List UInt8)) : (ls.map toB).map Value.string = ls.map Go.Proofs.encStr := by rw [List.map_map]; rfl
def sortL (ws : List ByteArray) : List (List UInt8) := (ws.map txtL).mergeSort fun x y => decide (x ≤ y)
theorem sortL_len (ws : List ByteArray) : (sortL ws).length = ws.length := by unfold sortL; rw [List.length_mergeSort, List.length_map]
theorem ext_grow (w : World) (os : Array Obj) : Ext w (Go.Sort.grow w os) := ⟨rfl, rfl, rfl, by simp [Go.Sort.grow], fun k hk => by simp [Go.Sort.grow, Array.getElem?_append_left hk]⟩
theorem grown_putRow {α : Type} [Inhabited α] (enc : α → Value) (w : World) (q g : Nat) (d : Array α) : w.grownBy (Go.Sort.putRow enc (Go.Sort.ahead w q) g 0 d) (some g) :=
  ⟨rfl, rfl, rfl, by simp [Go.Sort.putRow, Go.Sort.mapBlock, Go.Sort.ahead], fun k hk hne => by
    have : g ≠ k := fun e => hne (by rw [e])
    simp [Go.Sort.putRow, Go.Sort.mapBlock, Go.Sort.ahead, Array.getElem?_modify, this]⟩
theorem sum_sorted (x : Mx) (lot : List (List ByteArray)) : sumTo x lot ((Lib.compact (sortL lot.flatten)).map toB) ((Lib.compact (sortL lot.flatten)).map toB).length = sumF x lot := by
  have h := sumF_sorted lot.flatten (fun l => oneN x lot (toB l))
  unfold sumTo
  rw [List.take_length, List.map_map]
  rw [show (oneN x lot ∘ toB) = fun l => oneN x lot (toB l) from rfl]
  unfold sortL
  rw [h, ← sumTo_all]
  unfold sumTo
  rw [List.take_length]
  simp only [toB_txt]
theorem mem_sorted (ws : List ByteArray) : ∀ s ∈ (Lib.compact (sortL ws)).map toB, s ∈ ws := by
  intro s hs
  obtain ⟨l, h1, rfl⟩ := List.mem_map.1 hs
  have h2 := ((sorted_compact (ws.map txtL)).2 l).1 h1
  obtain ⟨t, h3, rfl⟩ := List.mem_map.1 h2
  rw [toB_txt]; exact h3
theorem sorted_len (ws : List ByteArray) : ((Lib.compact (sortL ws)).map toB).length ≤ ws.length := by
  rw [List.length_map]
  have := Go.Lib.compact_length_le (sortL ws)
  rw [sortL_len] at this
  exact this
set_option maxHeartbeats 400000 in
theorem slices_Sort_own (ws : List ByteArray) (hn : ws.length ≤ 1048576) (v : Value) (base : Nat) (w : World) (hO : Ow encStr 9 w base v ws) :
    Calls Tryz.prog 44 #[v] w fun e w' => e = .returned (.tuple #[]) ∧ Ow encStr 9 w' base v ((sortL ws).map toB) ∧ w.grownBy w' v.ownBlock := by
  by_cases he : ws = []
  · subst he
    obtain ⟨A, cap, rfl, _, _⟩ := hO.slice
    refine (Tryz.slices_Sort_string_none A cap w).mono ?_
    rintro e w' ⟨rfl, rfl⟩
    exact ⟨rfl, by simpa [sortL] using hO, grownBy_refl _ _⟩
  · have hv : v ≠ .slice none 0 0 := fun h => by
      subst h
      rcases hO.shape with ⟨_, h⟩ | ⟨g, cap, h, _⟩
      · exact he h
      · cases h
    have hO2 : w.ownsRow base 9 1 v ws.length ((ws.map txtL).map Go.Proofs.encStr) := by
      rw [show ws.map txtL = ws.map (·.data.toList) from rfl, Go.Lib.map_encStr, ← all_str]; exact hO
    obtain ⟨g, cap, rfl, hbg, hgl, hle, hm, _, hH⟩ := Go.Lib.holds_of_ownsRow hO2 hv
    have hS := Tryz.slices_Sort_string g 0 cap (ws.map txtL) w hH hgl (by rw [List.length_map]; omega)
    rw [List.length_map] at hS
    refine hS.mono ?_
    rintro e w' ⟨rfl, q, os, rfl⟩
    have hrow := Go.Lib.ownsRow_putRow (q := q) (k := ws.length) (ys := sortL ws) hO2 (sortL_len ws) (Nat.le_refl _)
    rw [List.take_of_length_le (by rw [sortL_len]; exact Nat.le_refl _)] at hrow
    have hOw : Ow encStr 9 (Go.Sort.putRow Go.Proofs.encStr (Go.Sort.ahead w q) g 0 (sortL ws).toArray) base (.slice (some ⟨g, 0, none⟩) ws.length cap) ((sortL ws).map toB) := by
      unfold Ow
      rw [all_str, map_toB, List.length_map, sortL_len]
      exact hrow
    exact ⟨rfl, hOw.ext (ext_grow _ _), grownBy_ext (grown_putRow _ w q g _) (ext_grow _ _)⟩
set_option maxHeartbeats 400000 in
theorem slices_Compact_own (zs : List (List UInt8)) (hn : zs.length ≤ 1048576) (v : Value) (base : Nat) (w : World) (hO : Ow encStr 9 w base v (zs.map toB)) :
    Calls Tryz.prog 45 #[v] w fun e w' => ∃ A cap, e = .returned (.slice A ((Lib.compact zs).map toB).length cap) ∧ Rd encStr w' A ((Lib.compact zs).map toB) ∧ w.grownBy w' v.ownBlock := by
  by_cases he : zs = []
  · subst he
    obtain ⟨A, cap, rfl, _, _⟩ := hO.slice
    refine (Tryz.slices_Compact_string_empty A cap w).mono ?_
    rintro e w' ⟨rfl, rfl⟩
    exact ⟨A, cap, rfl, Rd.nil _ _ _, grownBy_refl _ _⟩
  · have hv : v ≠ .slice none 0 0 := fun h => by
      subst h
      rcases hO.shape with ⟨_, h⟩ | ⟨g, cap, h, _⟩
      · exact he (by simpa using h)
      · cases h
    have hl : (zs.map toB).length = zs.length := List.length_map ..
    have hO2 : w.ownsRow base 9 1 v zs.length (zs.map Go.Proofs.encStr) := by
      rw [← map_toB, ← all_str, ← hl]; exact hO
    obtain ⟨g, cap, rfl, hbg, hgl, hle, hm, _, hH⟩ := Go.Lib.holds_of_ownsRow hO2 hv
    have hS := Tryz.slices_Compact_string g 0 cap zs w hH (by omega) hle
    refine hS.mono ?_
    rintro e w' ⟨rfl, q, rfl⟩
    have hcl := Go.Lib.compact_length_le zs
    have hrow := Go.Lib.ownsRow_putRow (q := q) (k := (Lib.compact zs).length) (ys := Lib.compact zs ++ List.replicate (zs.length - (Lib.compact zs).length) []) hO2 (by rw [List.length_append, List.length_replicate]; omega) hcl
    rw [List.take_left' rfl] at hrow
    have hOw : Ow encStr 9 (Go.Sort.putRow Go.Proofs.encStr (Go.Sort.ahead w q) g 0 (Lib.compact zs ++ List.replicate (zs.length - (Lib.compact zs).length) []).toArray) base (.slice (some ⟨g, 0, none⟩) (Lib.compact zs).length cap) ((Lib.compact zs).map toB) := by
      unfold Ow
      rw [all_str, map_toB, List.length_map]
      exact hrow
    exact ⟨some ⟨g, 0, none⟩, cap, by rw [List.length_map], hOw.rdA, grown_putRow _ w q g _⟩
set_option maxHeartbeats 4000000 in
theorem impl_countFalse (x : Mx) (hmx : mixB x = true) (lot : List (List ByteArray)) (hlb : lotB lot = true) (A : Option Addr) (cap : Nat) (w : World) (hR : RdL w A lot) (hok : ∀ l ∈ lot, ∀ x ∈ l, StrIn x) :
    Calls Tryz.prog 24 #[.agg #[.int .i16 x.st, .int .i16 x.sz, .int .i16 x.per], .slice A lot.length cap] w fun e w' => e = .returned (.int .i64 (sumF x lot)) ∧ Ext w w' := by
  obtain ⟨h60, hwd⟩ := lot_all hlb
  have hn : lot.length ≤ 1048576 := by omega
  have hll : ∀ l ∈ lot, l.length ≤ 1048576 := fun l hl => by have := (hwd l hl).1; omega
  have ht := tot_lot hlb
  have hho := fun k (h : k < lot.length) (B1 : Option Addr) (c : Nat) (W : World) (hB : Rd encStr W B1 lot[k]) => impl_holesOf x hmx lot[k] B1 c W hB (hll _ (List.getElem_mem h)) (hok _ (List.getElem_mem h))
  have htk := fun k (h : k < lot.length) => masksL_take x lot k h
  have hz1 : masksL x (lot.take 0) = [] := by rw [List.take_zero]; rfl
  have hz2 : (lot.take 0).flatten = [] := by rw [List.take_zero]; rfl
  have hall1 : masksL x (lot.take lot.length) = masksL x lot := by rw [List.take_length]
  have hall2 : (lot.take lot.length).flatten = lot.flatten := by rw [List.take_length]
  have hlt := fun k => (by have := masksL_len x (lot.take k); rw [List.length_take] at this; omega : (masksL x (lot.take k)).length ≤ k)
  have hfl := fun k (h : k < lot.length) => flat_take lot k h
  have hfll := fun k => flat_len (lot.take k)
  have htl := tot_le lot
  have hts := fun k (h : k < lot.length) => tot_take lot k h
  have hsum := sum_sorted x lot
  have hbl := sorted_len lot.flatten
  have hfln := flat_len lot
  have hbm := mem_sorted lot.flatten
  have hml := masksL_len x lot
  have hmk : ∀ j (h : j < lot.length) (h2 : j < (masksL x lot).length), (masksL x lot)[j] = wallM x lot[j] := masksL_at x lot
  have hwo := fun s (h : StrIn s) (W : World) => impl_wordHoles x hmx s h W
  have hok2 : ∀ s ∈ (Lib.compact (sortL lot.flatten)).map toB, StrIn s := fun s hs => by
    obtain ⟨l, h1, h2⟩ := List.mem_flatten.1 (hbm s hs)
    exact hok l h1 s h2
  have hsl := sortL_len lot.flatten
  have hct := fun (v : Value) (base : Nat) (W : World) (hO : Ow encStr 9 W base v lot.flatten) => slices_Sort_own lot.flatten (by omega) v base W hO
  have hcc := fun (v : Value) (base : Nat) (W : World) (hO : Ow encStr 9 W base v ((sortL lot.flatten).map toB)) => slices_Compact_own (sortL lot.flatten) (by omega) v base W hO
  generalize hbs : (Lib.compact (sortL lot.flatten)).map toB = bs at hsum hbl hok2 hcc
  clear hbs hbm
  generalize sortL lot.flatten = ss at hct hcc hsl
  have hs0 := sumTo_zero x lot bs
  have hss := fun k (h : k < bs.length) => sumTo_succ x lot bs k h
  have hsle := sumTo_le x lot bs h60
  generalize sumF x lot = r at hsum ⊢
  have hone : ∀ s, (falseTo x lot [s] lot.length).length = oneN x lot s := fun s => by unfold oneN; rw [falseTo_all]
  have hfz := fun s => falseTo_zero x lot [s]
  have hfh := fun s k (h : k < lot.length) => falseTo_hit (x := x) (ws := [s]) h
  have hfA := fun s k (h : k < lot.length) => falseTo_miss1 (x := x) (ws := [s]) h
  have hfB := fun s k (h : k < lot.length) => falseTo_miss2 (x := x) (ws := [s]) h
  have hflen := fun s => falseTo_len x lot [s]
  simp only [wallM_one, hasAll_one] at hfh hfA hfB
  obtain ⟨st, sz, per⟩ := x
  dsimp only at hho hwo
  have hx := @ExtOf.cell
  go_enter Tryz.func24, Tryz.ntmps24
  go_wp2
  go_loopg [5, 6, 19] lot.length (fun g v u i wr => ∃ k : Nat, g = lot.length - k ∧ k ≤ lot.length ∧ i = .int .i64 k ∧ Ext w wr ∧ BoxAt wr w.heap.size #[.int .i16 st, .int .i16 sz, .int .i16 per] 26 ∧ Ow encMask 47 wr (w.heap.size + 1) v (masksL ⟨st, sz, per⟩ (lot.take k)) ∧ Ow encStr 9 wr (w.heap.size + 1) u (lot.take k).flatten ∧ (∀ b, v.ownBlock = some b → u.ownBlock ≠ some b))
  case atStart =>
    refine ⟨0, by omega, by omega, rfl, by ((repeat (first | with_reducible exact Ext.refl _ | with_reducible exact hw | with_reducible exact hb9 | with_reducible exact hb8 | with_reducible exact hb7 | with_reducible exact hb6 | with_reducible exact hb5 | with_reducible exact hb4 | with_reducible exact hb3 | with_reducible exact hb2 | with_reducible exact hb1 | with_reducible refine Ext.alloc ?_ _ | with_reducible refine Ext.drew ?_ | ((with_reducible refine Ext.set ?_ ?_ _); focus (dsimp only; omega)) | with_reducible refine Ext.trans ?_ hb9 | with_reducible refine Ext.trans ?_ hb8 | with_reducible refine Ext.trans ?_ hb7 | with_reducible refine Ext.trans ?_ hb6 | with_reducible refine Ext.trans ?_ hb5 | with_reducible refine Ext.trans ?_ hb4 | with_reducible refine Ext.trans ?_ hb3 | with_reducible refine Ext.trans ?_ hb2 | with_reducible refine Ext.trans ?_ hb1 | with_reducible refine Ext.trans ?_ hw))), ((BoxAt.new' rfl).alloc _).alloc _, by rw [hz1]; exact (Ow.made0 (by simp) (by simp)).ext ((Ext.refl _).alloc _), by rw [hz2]; exact Ow.made0 (by simp) (by simp), fun b hb e => ?_⟩
    have e1 : w.heap.size + 1 = b := by simpa [Value.ownBlock] using hb
    have e2 : w.heap.size + 1 + 1 = b := by simpa [Value.ownBlock] using e
    omega
  case round =>
    obtain ⟨k, hg, hk, rfl, hw, hX, hO, hU, hne⟩ := hrel
    by_cases hkl : k < lot.length
    · obtain ⟨b, off, rfl, hlt1⟩ := hR.block k hkl
      obtain ⟨B1, c1, m0w, hB1w⟩ := hR.at k hkl
      have m0 := hw.cell m0w
      have hB1 := hB1w.ext hw
      have l1 := World.block_lt_of_cell? _ _ m0
      dsimp only at l1
      have hrd := hd m0w
      clear m0w
      have x0 : wr.cell? ⟨w.heap.size, 0, none⟩ = some (.int .i16 st) := hX.cell 0
      have x1 : wr.cell? ⟨w.heap.size, 1, none⟩ = some (.int .i16 sz) := hX.cell 1
      have x2 : wr.cell? ⟨w.heap.size, 2, none⟩ = some (.int .i16 per) := hX.cell 2
      have lX := hX.lt
      have hl := hlt k
      have hsu := hd (htk k hkl)
      have hsf := hd (hfl k hkl)
      have hP1 : (lot.take k).flatten.length ≤ tot (lot.take k) := Nat.le_of_eq (hfll k)
      have hP2 := htl (k + 1)
      have hP3 := hts k hkl
      have hcall := hho k hkl B1 c1 wr hB1
      generalize wallM ⟨st, sz, per⟩ lot[k] = q at hcall hsu
      generalize masksL ⟨st, sz, per⟩ (lot.take k) = ys at hO hl hsu
      generalize (lot.take k).flatten = P at hU hsf hP1
      go_wp2_with fail
      refine Calls.mono hcall ?_
      rintro e w2 ⟨rfl, hb2⟩
      have hO2 := hO.ext hb2
      have hU2 := hU.ext hb2
      have hX2 := hX.ext hb2
      have hw2 := hw.trans hb2
      clear hO hU hcall x0 x1 x2 lX hb2 m0 l1 hB1
      have lX := hX2.lt
      have hUlt := hU2.lt
      go_wp2_with (at_builtin; refine wpList_push2 (w0 := w) (base := w.heap.size + 1) (xs := ys) encMask (by rfl) _ _ 40 (.agg #[.int .u64 0, .int .u64 0]) 16 (by rfl) Tryz.underlying40 info_Mask (by rfl) (q) (by rfl) (by rfl) (by simp) (hO2) (by have := (hw2 : Ext w _).size; simp at this ⊢; omega) (by omega) (hw2) (by omega) (by omega) ?_)
      intro v3 w3 hO3 hb3 hg3 ho3
      have hU3 : Ow encStr 9 w3 (w.heap.size + 1) u6 P := hU2.grown hg3 (by
        cases hv : u6.ownBlock with
        | none => exact .inl rfl
        | some b => exact .inr fun e => hne b e.symm hv)
      have hne3 : ∀ b, v3.ownBlock = some b → u6.ownBlock ≠ some b := fun b hb e => by
        rcases ho3 with h1 | ⟨bb, h1, h2⟩
        · exact hne b (h1.symm.trans hb) e
        · rw [h1] at hb
          have := (hUlt _ e).2
          have := Option.some.inj hb
          omega
      have hX3 : BoxAt w3 w.heap.size #[.int .i16 st, .int .i16 sz, .int .i16 per] 26 := (hg3.block _ hX2.lt (fun e => by have := (hO2.lt _ e.symm).1; omega)).trans hX2
      have hB3 : Rd encStr w3 B1 lot[k] := hB1w.ext hb3
      have hO3' := hO3.lt
      clear hU2 hO2 hg3 hUlt ho3 lX hX2
      cases B1 with
      | none =>
        have hl0 : lot[k] = [] := by
          cases hl0 : lot[k] with
          | nil => rfl
          | cons a r =>
            rw [hl0] at hB3
            obtain ⟨_, _, h, _⟩ := hB3 0 (by simp)
            cases h
        have hz0 : ((lot[k].length : Nat) : Int) = 0 := by rw [hl0]; rfl
        have hz1' : lot[k].length = 0 := by rw [hl0]; rfl
        obtain ⟨A6, c6, rfl, hle6, _⟩ := hU3.slice
        rw [hz1']
        go_wp2_with (at_builtin; refine wpList_addNone (by rfl) _ _ 34 9 (.string ⟨#[]⟩) 1 16 (by rfl) Tryz.underlying34 info_str A6 _ c6 c1 hle6 (by rfl) (by rfl) ?_)
        go_wp2
        go_roundg (lot.length - (k + 1))
        case rel => exact ⟨k + 1, rfl, hkl, by simp, hb3, hX3, by rw [hsu.out]; exact hO3, by rw [hsf.out, hl0, List.append_nil]; exact hU3, hne3⟩
        case measure => omega
      | some BA =>
        go_wp2_with (at_builtin; refine wpList_addAll2 (w0 := w) (base := w.heap.size + 1) (xs := P) encStr (by rfl) _ _ 34 (.string ⟨#[]⟩) 16 (by rfl) Tryz.underlying34 info_str (by rfl) lot[k] BA c1 (by rfl) (by rfl) hB3 hU3 (by have := hX3.lt; omega) (by omega) hb3 (by omega) (by omega) ?_)
        intro v4 w4 hU4 hb4 hg4 ho4
        have hO4 : Ow encMask 47 w4 (w.heap.size + 1) v3 (ys ++ [q]) := hO3.grown hg4 (by
          cases hv : v3.ownBlock with
          | none => exact .inl rfl
          | some b => exact .inr fun e => hne3 b hv e.symm)
        have hX4 : BoxAt w4 w.heap.size #[.int .i16 st, .int .i16 sz, .int .i16 per] 26 := (hg4.block _ hX3.lt (fun e => by have := (hU3.lt _ e.symm).1; omega)).trans hX3
        have hne4 : ∀ b, v3.ownBlock = some b → v4.ownBlock ≠ some b := fun b hb e => by
          rcases ho4 with h1 | ⟨bb, h1, h2⟩
          · exact hne3 b hb (h1.symm.trans e)
          · rw [h1] at e
            have := (hO3' _ hb).2
            have := Option.some.inj e
            omega
        go_wp2
        go_roundg (lot.length - (k + 1))
        case rel => exact ⟨k + 1, rfl, hkl, by simp, hb4, hX4, by rw [hsu.out]; exact hO4, by rw [hsf.out]; exact hU4, hne4⟩
        case measure => omega
    · obtain rfl : k = lot.length := by omega
      rw [hall1] at hO
      rw [hall2] at hU
      go_wp2_with fail
      refine Calls.mono (hct _ _ _ hU) ?_
      rintro e w2 ⟨rfl, hU2, hg2⟩
      have hO2 := hO.grown hg2 (by
        cases hv : u5.ownBlock with
        | none => exact .inl rfl
        | some b => exact .inr fun e => hne b hv e.symm)
      have hX2 : BoxAt w2 w.heap.size #[.int .i16 st, .int .i16 sz, .int .i16 per] 26 := (hg2.block _ hX.lt (fun e => by have := (hU.lt _ e.symm).1; omega)).trans hX
      have hw2 : Ext w w2 := hw.trans' hg2 (fun b hb => by have := (hU.lt b hb).1; omega)
      clear hO hX hg2
      go_wp2_with fail
      refine Calls.mono (hcc _ _ _ hU2) ?_
      rintro e w3 ⟨B3, cap3, rfl, hB3, hg3⟩
      have hO3 := hO2.grown hg3 (by
        cases hv : u5.ownBlock with
        | none => exact .inl rfl
        | some b => exact .inr fun e => hne b hv e.symm)
      have hX3 : BoxAt w3 w.heap.size #[.int .i16 st, .int .i16 sz, .int .i16 per] 26 := (hg3.block _ hX2.lt (fun e => by have := (hU2.lt _ e.symm).1; omega)).trans hX2
      have hw3 : Ext w w3 := hw2.trans' hg3 (fun b hb => by have := (hU2.lt b hb).1; omega)
      obtain ⟨C, capC, rfl, hleC, hRC⟩ := hO3.slice
      clear hO2 hX2 hg3 hU2 hU hne hw2 hw hO3 hct hcc
      rw [hml]
      generalize masksL ⟨st, sz, per⟩ lot = ms at hRC hml hmk
      have hRlot := hR.ext hw3
      go_wp2
      go_loopg [9, 38] bs.length (fun g s i wr => ∃ k n : Nat, g = bs.length - k ∧ k ≤ bs.length ∧ i = .int .i64 k ∧ s = .int .i64 n ∧ Hd (sumTo ⟨st, sz, per⟩ lot bs k = n) ∧ Ext w3 wr)
      case atStart => exact ⟨0, 0, by omega, by omega, rfl, rfl, hd hs0, Ext.refl _⟩
      case round =>
        obtain ⟨k, n, hg, hk, rfl, rfl, hN, hw⟩ := hrel
        by_cases hkl : k < bs.length
        · obtain ⟨b, off, hA, hlt1, _⟩ := hB3 k hkl
          subst hA
          obtain ⟨m0, m1⟩ := (hB3.ext hw).strs k hkl
          have hsu := hss k hkl
          have hn1 := hsle k hk
          rw [hN.out] at hsu hn1
          have hst := hok2 _ (List.getElem_mem hkl)
          have h1s := hone bs[k]
          have hfz := hfz bs[k]
          have hfh := hfh bs[k]
          have hfA := hfA bs[k]
          have hfB := hfB bs[k]
          have hflen := hflen bs[k]
          have hcall := hwo bs[k] hst
          generalize hsk : bs[k] = s0 at m0 hsu hcall h1s hfz hfh hfA hfB hflen
          clear hsk hst
          rw [← h1s] at hsu
          have hsu := hd hsu
          clear h1s
          generalize wholes ⟨st, sz, per⟩ s0 = q at hcall hfh hfA
          have hX := hX3.ext hw
          have x0 : wr.cell? ⟨w.heap.size, 0, none⟩ = some (.int .i16 st) := hX.cell 0
          have x1 : wr.cell? ⟨w.heap.size, 1, none⟩ = some (.int .i16 sz) := hX.cell 1
          have x2 : wr.cell? ⟨w.heap.size, 2, none⟩ = some (.int .i16 per) := hX.cell 2
          have lX := hX.lt
          go_wp2_with fail
          refine Calls.mono (hcall _) ?_
          rintro e w8 ⟨rfl, hb8⟩
          have hw8 := hw.trans hb8
          clear x0 x1 x2 lX hX hb8 m0 m1
          go_wp2
          go_loopg [9, 47] lot.length (fun g s i wr2 => ∃ j c : Nat, g = lot.length - j ∧ j ≤ lot.length ∧ i = .int .i64 j ∧ s = .int .i64 ((n + c : Nat) : Int) ∧ Hd ((falseTo ⟨st, sz, per⟩ lot [s0] j).length = c) ∧ Ext w8 wr2 ∧ BoxAt wr2 w8.heap.size #[.int .u64 (lo q), .int .u64 (hi q)] 47)
          case atStart => exact ⟨0, 0, by omega, by omega, rfl, by simp, hd (by rw [hfz]; rfl), (Ext.refl _).alloc _, BoxAt.new' rfl⟩
          case round =>
            obtain ⟨j, c, hg2, hj, rfl, rfl, hC, hE, hB⟩ := hrel
            by_cases hjl : j < lot.length
            · have hWE := hw8.trans hE
              obtain ⟨b1, off1, rfl, hlt2⟩ := hRlot.block j hjl
              obtain ⟨B1, c1, m0, hB1⟩ := (hRlot.ext hWE).at j hjl
              have l1 := World.block_lt_of_cell? _ _ m0
              dsimp only at l1
              obtain ⟨bC, oC, hCe, hltC, _⟩ := hRC j (by omega)
              subst hCe
              obtain ⟨n0, n1, n2⟩ := (hRC.ext hWE).mask j (by omega)
              rw [hmk j hjl (by omega)] at n0 n1
              have y0 : wr.cell? ⟨w8.heap.size, 0, none⟩ = some (.int .u64 (lo q)) := hB.cell 0
              have y1 : wr.cell? ⟨w8.heap.size, 1, none⟩ = some (.int .u64 (hi q)) := hB.cell 1
              have lB := hB.lt
              have hcl := hflen j
              rw [hC.out] at hcl
              have hwi := fun W => impl_IsWithin q (wallM ⟨st, sz, per⟩ lot[j]) W
              have hco := fun (W : World) (hE : Ext wr W) => slices_Contains_str lot[j] B1 _ c1 rfl s0 W (hB1.ext hE) (hll _ (List.getElem_mem hjl))
              have hit := fun a b => hd (hfh j hjl a b)
              have missA := fun a => hd (hfA j hjl a)
              have missB := fun a => hd (hfB j hjl a)
              generalize wallM ⟨st, sz, per⟩ lot[j] = p at n0 n1 hwi hit missA
              cases hq : mwin q p with
              | true =>
                rw [hq] at hwi
                cases hq2 : lot[j].contains s0 with
                | true =>
                  rw [hq2] at hco
                  have hv := missB hq2
                  clear hit missA missB hq hq2
                  go_wp2
                  refine wp_region_ext (by kernel_rfl) (by kernel_rfl) ?_
                  repeat (first | go_big_quiet_step ((first | (go_at_call 47; with_reducible exact Calls.ext_all (fun W _ => hwi W)) | (go_at_call 48; with_reducible exact Calls.ext_all (fun W hE => hco W hE)))) | quiet_step ((first | (go_at_call 47; with_reducible exact Calls.ext_all (fun W _ => hwi W)) | (go_at_call 48; with_reducible exact Calls.ext_all (fun W hE => hco W hE)))))
                  refine wpQuiet_nil ?_
                  intro w12 hq12
                  have hb12 := ext_of_class hq12
                  clear hq12
                  obtain ⟨hc12, hf12, hz12⟩ := bcell3 hb12
                  try simp at hz12
                  go_wp2
                  go_roundg (lot.length - (j + 1))
                  case rel => exact ⟨j + 1, c, rfl, hjl, by simp, rfl, hd (by rw [hv.out, hC.out]), hE.trans hb12, hB.ext hb12⟩
                  case measure => omega
                | false =>
                  rw [hq2] at hco
                  have hv := hit hq hq2
                  clear hit missA missB hq hq2
                  go_wp2
                  refine wp_region_ext (by kernel_rfl) (by kernel_rfl) ?_
                  repeat (first | go_big_quiet_step ((first | (go_at_call 47; with_reducible exact Calls.ext_all (fun W _ => hwi W)) | (go_at_call 48; with_reducible exact Calls.ext_all (fun W hE => hco W hE)))) | quiet_step ((first | (go_at_call 47; with_reducible exact Calls.ext_all (fun W _ => hwi W)) | (go_at_call 48; with_reducible exact Calls.ext_all (fun W hE => hco W hE)))))
                  refine wpQuiet_nil ?_
                  intro w12 hq12
                  have hb12 := ext_of_class hq12
                  clear hq12
                  obtain ⟨hc12, hf12, hz12⟩ := bcell3 hb12
                  try simp at hz12
                  go_wp2
                  go_roundg (lot.length - (j + 1))
                  case rel => exact ⟨j + 1, c + 1, rfl, hjl, by simp, by rw [show ((n + (c + 1) : Nat) : Int) = ((n + c : Nat) : Int) + 1 by omega]; simp, hd (by rw [hv.out, List.length_append, hC.out]; rfl), hE.trans hb12, hB.ext hb12⟩
                  case measure => omega
              | false =>
                rw [hq] at hwi
                have hv := missA hq
                clear hit missA missB hq
                go_wp2
                refine wp_region_ext (by kernel_rfl) (by kernel_rfl) ?_
                repeat (first | go_big_quiet_step (((go_at_call 47; with_reducible exact Calls.ext_all (fun W _ => hwi W)))) | quiet_step (((go_at_call 47; with_reducible exact Calls.ext_all (fun W _ => hwi W)))))
                refine wpQuiet_nil ?_
                intro w12 hq12
                have hb12 := ext_of_class hq12
                clear hq12
                obtain ⟨hc12, hf12, hz12⟩ := bcell3 hb12
                try simp at hz12
                go_wp2
                go_roundg (lot.length - (j + 1))
                case rel => exact ⟨j + 1, c, rfl, hjl, by simp, rfl, hd (by rw [hv.out, hC.out]), hE.trans hb12, hB.ext hb12⟩
                case measure => omega
            · obtain rfl : j = lot.length := by omega
              go_wp2
              go_roundg (bs.length - (k + 1))
              case rel => exact ⟨k + 1, n + c, rfl, hkl, by simp, rfl, hd (by rw [hsu.out, hC.out]), hw8.trans hE⟩
              case measure => omega
        · obtain rfl : k = bs.length := by omega
          have hN2 := hN.out.symm.trans hsum
          subst hN2
          go_wp2
          go_ret
          exact ⟨rfl, hw3.trans hw⟩
end Go.Proofs.YtegopgpnjgikeaaGreatDoor
set_option linter.unusedVariables false
set_option linter.unusedSimpArgs false
set_option maxRecDepth 100000
namespace Go.Proofs.YtegopgpnjgikeaaGreatDoor
open Go.RowKit
set_option maxHeartbeats 1000000 in
theorem impl_CountFalse (x : Mx) (hxi : MxIn x) (lot : List (List ByteArray)) (A : Option Addr) (cap : Nat) (w : World) (hR : RdL w A lot) (hn : lot.length ≤ 1048576) (hll : ∀ l ∈ lot, l.length ≤ 1048576) (hok : ∀ l ∈ lot, ∀ x ∈ l, StrIn x) :
    Calls Tryz.prog 7 #[.agg #[.int .i16 x.st, .int .i16 x.sz, .int .i16 x.per], .slice A lot.length cap] w fun e w' => e = .returned (.tuple #[.int .i64 (countF x lot).1, .int .i64 (countF x lot).2]) ∧ Ext w w' := by
  have h1 := fun (W : World) => impl_isMix x hxi W
  have h2 := fun (W : World) (hE : Ext w W) => impl_isLot lot A cap W (hR.ext hE) hn hll hok
  have h3 := fun (hq : mixB x = true) (hl : lotB lot = true) (W : World) (hE : Ext w W) => impl_countFalse x hq lot hl A cap W (hR.ext hE) hok
  have k1 := count_bad (x := x) (lot := lot)
  have k2 := count_far (x := x) (lot := lot)
  have k3 := count_ok (x := x) (lot := lot)
  generalize sumF x lot = n at h3 k3
  obtain ⟨st, sz, per⟩ := x
  dsimp only at h1 h3
  generalize mixB ⟨st, sz, per⟩ = p at h1 h3 k1 k2 k3
  generalize lotB lot = q at h2 h3 k2 k3
  have hX0 : BoxAt (w.alloc (.cells #[.int .i16 st, .int .i16 sz, .int .i16 per] 26)) w.heap.size #[.int .i16 st, .int .i16 sz, .int .i16 per] 26 := BoxAt.new' rfl
  have hE0 : Ext w (w.alloc (.cells #[.int .i16 st, .int .i16 sz, .int .i16 per] 26)) := (Ext.refl _).alloc _
  cases p with
  | false =>
    have hv := hd (k1 rfl)
    clear k1 k2 k3 h3
    go_enter Tryz.func7, Tryz.ntmps7
    go_wp2_with fail
    refine Calls.mono (h1 _) ?_
    rintro e w1 ⟨rfl, hb1⟩
    go_wp2
    refine bodyPost_ret (v := .tuple #[.int .i64 0, .int .i64 1]) (by simp [results, Tryz.results7, go_sem]) rfl ⟨by rw [hv.out], hE0.trans hb1⟩
  | true =>
    replace h3 := h3 rfl
    cases q with
    | false =>
      have hv := hd (k2 rfl rfl)
      clear k1 k2 k3 h3
      go_enter Tryz.func7, Tryz.ntmps7
      go_wp2_with fail
      refine Calls.mono (h1 _) ?_
      rintro e w1 ⟨rfl, hb1⟩
      have hw1 := hE0.trans hb1
      go_wp2_with fail
      refine Calls.mono (h2 _ hw1) ?_
      rintro e w2 ⟨rfl, hb2⟩
      go_wp2
      refine bodyPost_ret (v := .tuple #[.int .i64 0, .int .i64 2]) (by simp [results, Tryz.results7, go_sem]) rfl ⟨by rw [hv.out], hw1.trans hb2⟩
    | true =>
      have hv := hd (k3 rfl rfl)
      replace h3 := h3 rfl
      clear k1 k2 k3
      go_enter Tryz.func7, Tryz.ntmps7
      go_wp2_with fail
      refine Calls.mono (h1 _) ?_
      rintro e w1 ⟨rfl, hb1⟩
      have hw1 := hE0.trans hb1
      have hX := hX0.ext hb1
      go_wp2_with fail
      refine Calls.mono (h2 _ hw1) ?_
      rintro e w2 ⟨rfl, hb2⟩
      have hw2 := hw1.trans hb2
      have hX := hX.ext hb2
      have x0 : w2.cell? ⟨w.heap.size, 0, none⟩ = some (.int .i16 st) := hX.cell 0
      have x1 : w2.cell? ⟨w.heap.size, 1, none⟩ = some (.int .i16 sz) := hX.cell 1
      have x2 : w2.cell? ⟨w.heap.size, 2, none⟩ = some (.int .i16 per) := hX.cell 2
      have lX := hX.lt
      go_wp2_with fail
      refine Calls.mono (h3 _ hw2) ?_
      rintro e w3 ⟨rfl, hb3⟩
      go_wp2
      refine bodyPost_ret (v := .tuple #[.int .i64 n, .int .i64 0]) (by simp [results, Tryz.results7, go_sem]) rfl ⟨by rw [hv.out], hw2.trans hb3⟩
/-- The best number of holes among the first k, and its false drops. -/
noncomputable def bestTo (st sz : Int) (lot : List (List ByteArray)) : Nat → Int × Int
  | 0 => (0, 0)
  | k + 1 => if (bestTo st sz lot k).1 = 0 ∨ (sumF ⟨st, sz, (k : Int) + 1⟩ lot : Int) < (bestTo st sz lot k).2 then ((k : Int) + 1, (sumF ⟨st, sz, (k : Int) + 1⟩ lot : Int)) else bestTo st sz lot k
theorem bestTo_zero (st sz : Int) (lot : List (List ByteArray)) : bestTo st sz lot 0 = (0, 0) := rfl
theorem bestTo_hit {st sz : Int} {lot : List (List ByteArray)} {k : Nat} {a b : Int} (h : bestTo st sz lot k = (a, b)) (h2 : a = 0 ∨ (sumF ⟨st, sz, (k : Int) + 1⟩ lot : Int) < b) : bestTo st sz lot (k + 1) = ((k : Int) + 1, (sumF ⟨st, sz, (k : Int) + 1⟩ lot : Int)) := by
  rw [bestTo, h]; exact if_pos h2
theorem bestTo_miss {st sz : Int} {lot : List (List ByteArray)} {k : Nat} {a b : Int} (h : bestTo st sz lot k = (a, b)) (h2 : ¬ (a = 0 ∨ (sumF ⟨st, sz, (k : Int) + 1⟩ lot : Int) < b)) : bestTo st sz lot (k + 1) = (a, b) := by
  rw [bestTo, h]; exact if_neg h2
attribute [irreducible] bestTo
def bestN (sz : Int) : Nat := min 8 (sz / 2).toNat
noncomputable def bestF (x : Mx) (lot : List (List ByteArray)) : Int × Int × Int := if mixB x = true then (if lotB lot = true then ((bestTo x.st x.sz lot (bestN x.sz)).1, (bestTo x.st x.sz lot (bestN x.sz)).2, 0) else (0, 0, 2)) else (0, 0, 1)
theorem best_bad {x : Mx} {lot : List (List ByteArray)} (h : mixB x = false) : bestF x lot = (0, 0, 1) := by unfold bestF; rw [h]; rfl
theorem best_far {x : Mx} {lot : List (List ByteArray)} (h : mixB x = true) (h2 : lotB lot = false) : bestF x lot = (0, 0, 2) := by unfold bestF; rw [h, h2]; rfl
theorem best_ok {x : Mx} {lot : List (List ByteArray)} (h : mixB x = true) (h2 : lotB lot = true) : bestF x lot = ((bestTo x.st x.sz lot (bestN x.sz)).1, (bestTo x.st x.sz lot (bestN x.sz)).2, 0) := by unfold bestF; rw [h, h2]; rfl
set_option maxHeartbeats 2000000 in
theorem impl_BestPer (x : Mx) (hxi : MxIn x) (lot : List (List ByteArray)) (A : Option Addr) (cap : Nat) (w : World) (hR : RdL w A lot) (hn : lot.length ≤ 1048576) (hll : ∀ l ∈ lot, l.length ≤ 1048576) (hok : ∀ l ∈ lot, ∀ x ∈ l, StrIn x) :
    Calls Tryz.prog 9 #[.agg #[.int .i16 x.st, .int .i16 x.sz, .int .i16 x.per], .slice A lot.length cap] w fun e w' => e = .returned (.tuple #[.int .i64 (bestF x lot).1, .int .i64 (bestF x lot).2.1, .int .i64 (bestF x lot).2.2]) ∧ Ext w w' := by
  have h1 := fun (W : World) => impl_isMix x hxi W
  have h2 := fun (W : World) (hE : Ext w W) => impl_isLot lot A cap W (hR.ext hE) hn hll hok
  have k1 := best_bad (x := x) (lot := lot)
  have k2 := best_far (x := x) (lot := lot)
  have k3 := best_ok (x := x) (lot := lot)
  obtain ⟨st, sz, per⟩ := x
  dsimp only at h1 k3
  have hX0 : BoxAt (w.alloc (.cells #[.int .i16 st, .int .i16 sz, .int .i16 per] 26)) w.heap.size #[.int .i16 st, .int .i16 sz, .int .i16 per] 26 := BoxAt.new' rfl
  have hE0 : Ext w (w.alloc (.cells #[.int .i16 st, .int .i16 sz, .int .i16 per] 26)) := (Ext.refl _).alloc _
  cases hp : mixB ⟨st, sz, per⟩ with
  | false =>
    have hv := hd (k1 hp)
    rw [hp] at h1
    clear k1 k2 k3
    go_enter Tryz.func9, Tryz.ntmps9
    go_wp2_with fail
    refine Calls.mono (h1 _) ?_
    rintro e w1 ⟨rfl, hb1⟩
    go_wp2
    refine bodyPost_ret (v := .tuple #[.int .i64 0, .int .i64 0, .int .i64 1]) (by simp [results, Tryz.results9, go_sem]) rfl ⟨by rw [hv.out], hE0.trans hb1⟩
  | true =>
    rw [hp] at h1
    cases hl : lotB lot with
    | false =>
      have hv := hd (k2 hp hl)
      rw [hl] at h2
      clear k1 k2 k3
      go_enter Tryz.func9, Tryz.ntmps9
      go_wp2_with fail
      refine Calls.mono (h1 _) ?_
      rintro e w1 ⟨rfl, hb1⟩
      have hw1 := hE0.trans hb1
      go_wp2_with fail
      refine Calls.mono (h2 _ hw1) ?_
      rintro e w2 ⟨rfl, hb2⟩
      go_wp2
      refine bodyPost_ret (v := .tuple #[.int .i64 0, .int .i64 0, .int .i64 2]) (by simp [results, Tryz.results9, go_sem]) rfl ⟨by rw [hv.out], hw1.trans hb2⟩
    | true =>
      have hv := hd (k3 hp hl)
      rw [hl] at h2
      clear k1 k2 k3
      obtain ⟨b1, b2, b3, b4, b5, b6, b7⟩ := (mixB_iff _).1 hp
      dsimp only at b1 b2 b3 b4 b5 b6 b7
      have hcn := fun (p : Int) (h0 : 1 ≤ p) (h8 : p ≤ 8) (h9 : 2 * p ≤ sz) (W : World) (hE : Ext w W) => impl_countFalse ⟨st, sz, p⟩ ((mixB_iff _).2 (by dsimp only; omega)) lot hl A cap W (hR.ext hE) hok
      dsimp only at hcn
      have hz := bestTo_zero st sz lot
      have hhit := fun k a b => bestTo_hit (st := st) (sz := sz) (lot := lot) (k := k) (a := a) (b := b)
      have hmiss := fun k a b => bestTo_miss (st := st) (sz := sz) (lot := lot) (k := k) (a := a) (b := b)
      have hsl := fun p => sumF_le (x := ⟨st, sz, p⟩) hl
      have tq : sz.tdiv 2 = sz / 2 := Int.tdiv_eq_ediv_of_nonneg (by omega)
      have wq : IntKind.i16.wrap (sz / 2) = sz / 2 := IntWalk.i16_in _ (by omega)
      have hN : (bestN sz : Int) ≤ 8 ∧ (bestN sz : Int) ≤ sz / 2 ∧ ((bestN sz : Int) = 8 ∨ (bestN sz : Int) = sz / 2) := by unfold bestN; omega
      generalize bestN sz = N at hN hv
      go_enter Tryz.func9, Tryz.ntmps9
      go_wp2_with fail
      refine Calls.mono (h1 _) ?_
      rintro e w1 ⟨rfl, hb1⟩
      have hw1 := hE0.trans hb1
      have hX := hX0.ext hb1
      go_wp2_with fail
      refine Calls.mono (h2 _ hw1) ?_
      rintro e w2 ⟨rfl, hb2⟩
      have hw2 := hw1.trans hb2
      have hX := hX.ext hb2
      clear hb1 hb2 hw1 hX0 hE0 h1 h2
      go_wp2
      go_loopg [7, 8, 9] N (fun g bst lst i wr => ∃ k : Nat, ∃ a b pv : Int, g = N - k ∧ k ≤ N ∧ i = .int .i16 ((k : Int) + 1) ∧ bst = .int .i64 a ∧ lst = .int .i64 b ∧ Hd (bestTo st sz lot k = (a, b)) ∧ 0 ≤ a ∧ a ≤ 8 ∧ 0 ≤ b ∧ b ≤ 43200 ∧ Ext w wr ∧ BoxAt wr w.heap.size #[.int .i16 st, .int .i16 sz, .int .i16 pv] 26)
      case atStart => exact ⟨0, 0, 0, per, by omega, by omega, rfl, rfl, rfl, hd hz, by omega, by omega, by omega, by omega, hw2, hX⟩
      case round =>
        obtain ⟨k, a, b, pv, hg, hk, rfl, rfl, rfl, hB, a0, a8, b0, b9, hw, hX⟩ := hrel
        have x0 : wr.cell? ⟨w.heap.size, 0, none⟩ = some (.int .i16 st) := hX.cell 0
        have x1 : wr.cell? ⟨w.heap.size, 1, none⟩ = some (.int .i16 sz) := hX.cell 1
        have x2 : wr.cell? ⟨w.heap.size, 2, none⟩ = some (.int .i16 pv) := hX.cell 2
        have f2 := hX.frozen 2
        have lX := hX.lt
        by_cases hkl : k < N
        · have hc : ((k : Int) + 1 ≤ min 8 (sz / 2)) = True := eq_true (by omega)
          have hs1 := hsl ((k : Int) + 1)
          have hcn := hcn ((k : Int) + 1) (by omega) (by omega) (by omega)
          have hh := hhit k a b hB.out
          have hm := hmiss k a b hB.out
          generalize sumF ⟨st, sz, (k : Int) + 1⟩ lot = n at hs1 hcn hh hm
          have hE6 := Ext.set (p := ⟨w.heap.size, 2, none⟩) (Nat.le_refl _) hw (.int .i16 ((k : Int) + 1))
          have hX6 := hX.set 2 (.int .i16 ((k : Int) + 1))
          go_wp2_with fail
          refine Calls.mono (hcn _ hE6) ?_
          rintro e w7 ⟨rfl, hb7⟩
          have hw7 := hE6.trans hb7
          have hX7 := hX6.ext hb7
          have hX7 : BoxAt w7 w.heap.size #[.int .i16 st, .int .i16 sz, .int .i16 ((k : Int) + 1)] 26 := hX7
          clear hcn hE6 hX6 hb7 x0 x1 x2 f2 lX hX hw
          by_cases h8 : a = 0
          · have hB2 := hd (hh (.inl h8))
            have e8 : (a == 0) = true := beq_iff_eq.2 h8
            clear hh hm
            go_wp2
            go_roundg (N - (k + 1))
            case rel => exact ⟨k + 1, (k : Int) + 1, n, (k : Int) + 1, rfl, hkl, by simp, rfl, rfl, hB2, by omega, by omega, by omega, by omega, hw7, hX7⟩
            case measure => omega
          · have e8 : (a == 0) = false := beq_eq_false_iff_ne.2 h8
            by_cases h9 : (n : Int) < b
            · have hB2 := hd (hh (.inr h9))
              clear hh hm
              go_wp2
              go_roundg (N - (k + 1))
              case rel => exact ⟨k + 1, (k : Int) + 1, n, (k : Int) + 1, rfl, hkl, by simp, rfl, rfl, hB2, by omega, by omega, by omega, by omega, hw7, hX7⟩
              case measure => omega
            · have hB2 := hd (hm (fun h => h.elim h8 h9))
              clear hh hm
              go_wp2
              go_roundg (N - (k + 1))
              case rel => exact ⟨k + 1, a, b, (k : Int) + 1, rfl, hkl, by simp, rfl, rfl, hB2, by omega, by omega, by omega, by omega, hw7, hX7⟩
              case measure => omega
        · obtain rfl : k = N := by omega
          have hc : ((k : Int) + 1 ≤ min 8 (sz / 2)) = False := eq_false (by omega)
          have hv2 := hd (hv.out.trans (by rw [hB.out]))
          clear hcn hhit hmiss hsl
          go_wp2
          refine bodyPost_ret (v := .tuple #[.int .i64 a, .int .i64 b, .int .i64 0]) (by simp [results, Tryz.results9, go_sem]) rfl ⟨by rw [hv2.out], hw⟩
set_option maxHeartbeats 2000000 in
theorem spec_BestPer (x : Mx) (hxi : MxIn x) (lot : List (List ByteArray)) (A : Option Addr) (cap : Nat) (w : World) (hR : RdL w A lot) (hn : lot.length ≤ 1048576) (hll : ∀ l ∈ lot, l.length ≤ 1048576) (hok : ∀ l ∈ lot, ∀ x ∈ l, StrIn x) :
    Calls Tryz.prog 10 #[.agg #[.int .i16 x.st, .int .i16 x.sz, .int .i16 x.per], .slice A lot.length cap] w fun e w' => e = .returned (.tuple #[.int .i64 (bestF x lot).1, .int .i64 (bestF x lot).2.1, .int .i64 (bestF x lot).2.2]) ∧ Ext w w' := by
  have hM0 : ∀ W, BoxAt W w.heap.size #[.int .i16 x.st, .int .i16 x.sz, .int .i16 x.per] 26 → MixAt W w.heap.size 0 x := fun W h => ⟨h.cell 0, h.cell 1, h.cell 2⟩
  have h1 := fun (W : World) (h : MixAt W w.heap.size 0 x) => spec_l03Ok x hxi w.heap.size 0 W h
  have h2 := fun (W : World) (hE : Ext w W) => spec_l03Lot lot A cap W (hR.ext hE) hn hll hok
  have k1 := best_bad (x := x) (lot := lot)
  have k2 := best_far (x := x) (lot := lot)
  have k3 := best_ok (x := x) (lot := lot)
  have hX0 : BoxAt (w.alloc (.cells #[.int .i16 x.st, .int .i16 x.sz, .int .i16 x.per] 26)) w.heap.size #[.int .i16 x.st, .int .i16 x.sz, .int .i16 x.per] 26 := BoxAt.new' rfl
  have hE0 : Ext w (w.alloc (.cells #[.int .i16 x.st, .int .i16 x.sz, .int .i16 x.per] 26)) := (Ext.refl _).alloc _
  cases hq : mixB x with
  | false =>
    have hv := hd (k1 hq)
    rw [hq] at h1
    clear k1 k2 k3
    go_enter Tryz.func10, Tryz.ntmps10
    go_wp2_with fail
    refine Calls.mono (h1 _ (hM0 _ hX0)) ?_
    rintro e w1 ⟨rfl, hb1⟩
    go_wp2
    refine bodyPost_ret (v := .tuple #[.int .i64 0, .int .i64 0, .int .i64 1]) (by simp [results, Tryz.results10, go_sem]) rfl ⟨by rw [hv.out], hE0.trans hb1⟩
  | true =>
    rw [hq] at h1
    cases hl : lotB lot with
    | false =>
      have hv := hd (k2 hq hl)
      rw [lotF_no hl] at h2
      clear k1 k2 k3
      go_enter Tryz.func10, Tryz.ntmps10
      go_wp2_with fail
      refine Calls.mono (h1 _ (hM0 _ hX0)) ?_
      rintro e w1 ⟨rfl, hb1⟩
      have hw1 := hE0.trans hb1
      go_wp2_with fail
      refine Calls.mono (h2 _ hw1) ?_
      rintro e w2 ⟨rfl, hb2⟩
      go_wp2
      refine bodyPost_ret (v := .tuple #[.int .i64 0, .int .i64 0, .int .i64 2]) (by simp [results, Tryz.results10, go_sem]) rfl ⟨by rw [hv.out], hw1.trans hb2⟩
    | true =>
      have hv := hd (k3 hq hl)
      rw [lotF_ok hl] at h2
      clear k1 k2 k3
      obtain ⟨b1, b2, b3, b4, b5, b6, b7⟩ := (mixB_iff _).1 hq
      obtain ⟨st, sz, per⟩ := x
      dsimp only at b1 b2 b3 b4 b5 b6 b7 hv
      have hcn := fun (p : Int) (h0 : 1 ≤ p) (h8 : p ≤ 8) (h9 : 2 * p ≤ sz) (b : Nat) (W : World) (h : MixAt W b 0 ⟨st, sz, p⟩) (hE : Ext w W) => spec_l03Sum ⟨st, sz, p⟩ ((mixB_iff _).2 (by dsimp only; omega)) lot hl A cap b 0 W h (hR.ext hE) hok
      have hz := bestTo_zero st sz lot
      have hhit := fun k a b => bestTo_hit (st := st) (sz := sz) (lot := lot) (k := k) (a := a) (b := b)
      have hmiss := fun k a b => bestTo_miss (st := st) (sz := sz) (lot := lot) (k := k) (a := a) (b := b)
      have hsl := fun p => sumF_le (x := ⟨st, sz, p⟩) hl
      have hN : (bestN sz : Int) ≤ 8 ∧ (bestN sz : Int) ≤ sz / 2 ∧ ((bestN sz : Int) = 8 ∨ (bestN sz : Int) = sz / 2) := by unfold bestN; omega
      generalize bestN sz = N at hN hv
      go_enter Tryz.func10, Tryz.ntmps10
      go_wp2_with fail
      refine Calls.mono (h1 _ (hM0 _ hX0)) ?_
      rintro e w1 ⟨rfl, hb1⟩
      have hw1 := hE0.trans hb1
      have hX := hX0.ext hb1
      go_wp2_with fail
      refine Calls.mono (h2 _ hw1) ?_
      rintro e w2 ⟨rfl, hb2⟩
      have hw2 := hw1.trans hb2
      have hX := hX.ext hb2
      clear hb1 hb2 hw1 hX0 hE0 h1 h2 hM0

      go_wp2
      go_loopg [8, 9, 10] N (fun g bst lst i wr => ∃ k : Nat, ∃ a b : Int, g = N - k ∧ k ≤ N ∧ i = .int .i64 ((k : Int) + 1) ∧ bst = .int .i64 a ∧ lst = .int .i64 b ∧ Hd (bestTo st sz lot k = (a, b)) ∧ 0 ≤ a ∧ a ≤ 8 ∧ 0 ≤ b ∧ b ≤ 43200 ∧ Ext w2 wr)
      case atStart => exact ⟨0, 0, 0, by omega, by omega, rfl, rfl, rfl, hd hz, by omega, by omega, by omega, by omega, Ext.refl _⟩
      case round =>
        obtain ⟨k, a, b, hg, hk, rfl, rfl, rfl, hB, a0, a8, b0, b9, hw⟩ := hrel
        have hX2 := hX.ext hw
        have x0 : wr.cell? ⟨w.heap.size, 0, none⟩ = some (.int .i16 st) := hX2.cell 0
        have x1 : wr.cell? ⟨w.heap.size, 1, none⟩ = some (.int .i16 sz) := hX2.cell 1
        have lX := hX2.lt
        have hW := hw2.trans hw
        by_cases hkl : k < N
        · have hc : ((k : Int) + 1 ≤ 8) = True := eq_true (by omega)
          have hc2 : (2 * ((k : Int) + 1) ≤ sz) = True := eq_true (by omega)
          have hs1 := hsl ((k : Int) + 1)
          have hcn := hcn ((k : Int) + 1) (by omega) (by omega) (by omega)
          have hh := hhit k a b hB.out
          have hm := hmiss k a b hB.out
          generalize sumF ⟨st, sz, (k : Int) + 1⟩ lot = n at hs1 hcn hh hm
          have hY : BoxAt (wr.alloc (.cells #[.int .i16 st, .int .i16 sz, .int .i16 ((k : Int) + 1)] 26)) wr.heap.size #[.int .i16 st, .int .i16 sz, .int .i16 ((k : Int) + 1)] 26 := BoxAt.new' rfl
          have hE6 := hW.alloc (.cells #[.int .i16 st, .int .i16 sz, .int .i16 ((k : Int) + 1)] 26)
          have hE7 := hw.alloc (.cells #[.int .i16 st, .int .i16 sz, .int .i16 ((k : Int) + 1)] 26)
          go_wp2_with fail
          refine Calls.mono (hcn _ _ ⟨hY.cell 0, hY.cell 1, hY.cell 2⟩ hE6) ?_
          rintro e w7 ⟨rfl, hb7⟩
          have hw7 := hE7.trans hb7
          clear hcn hE6 hE7 hb7 x0 x1 lX hX2 hw hY
          by_cases h8 : a = 0
          · have hB2 := hd (hh (.inl h8))
            have e8 : (a == 0) = true := beq_iff_eq.2 h8
            clear hh hm
            go_wp2
            go_roundg (N - (k + 1))
            case rel => exact ⟨k + 1, (k : Int) + 1, n, rfl, hkl, by simp, rfl, rfl, hB2, by omega, by omega, by omega, by omega, hw7⟩
            case measure => omega
          · have e8 : (a == 0) = false := beq_eq_false_iff_ne.2 h8
            by_cases h9 : (n : Int) < b
            · have hB2 := hd (hh (.inr h9))
              clear hh hm
              go_wp2
              go_roundg (N - (k + 1))
              case rel => exact ⟨k + 1, (k : Int) + 1, n, rfl, hkl, by simp, rfl, rfl, hB2, by omega, by omega, by omega, by omega, hw7⟩
              case measure => omega
            · have hB2 := hd (hm (fun h => h.elim h8 h9))
              clear hh hm
              go_wp2
              go_roundg (N - (k + 1))
              case rel => exact ⟨k + 1, a, b, rfl, hkl, by simp, rfl, rfl, hB2, by omega, by omega, by omega, by omega, hw7⟩
              case measure => omega
        · obtain rfl : k = N := by omega
          have hv2 := hd (hv.out.trans (by rw [hB.out]))
          clear hcn hhit hmiss hsl
          by_cases h8 : ((k : Int) + 1 ≤ 8)
          · have hc2 : (2 * ((k : Int) + 1) ≤ sz) = False := eq_false (by omega)
            go_wp2
            refine bodyPost_ret (v := .tuple #[.int .i64 a, .int .i64 b, .int .i64 0]) (by simp [results, Tryz.results10, go_sem]) rfl ⟨by rw [hv2.out], hW⟩
          · have hc : ((k : Int) + 1 ≤ 8) = False := eq_false h8
            go_wp2
            refine bodyPost_ret (v := .tuple #[.int .i64 a, .int .i64 b, .int .i64 0]) (by simp [results, Tryz.results10, go_sem]) rfl ⟨by rw [hv2.out], hW⟩
end Go.Proofs.YtegopgpnjgikeaaGreatDoor
set_option linter.unusedVariables false
set_option linter.unusedSimpArgs false
namespace Go.Proofs.YtegopgpnjgikeaaGreatDoor
open Go.RowKit
theorem best_min (st sz : Int) (lot : List (List ByteArray)) : ∀ k : Nat, 1 ≤ k → ∃ a : Nat, 1 ≤ a ∧ a ≤ k ∧ bestTo st sz lot k = ((a : Int), (sumF ⟨st, sz, (a : Int)⟩ lot : Int)) ∧
    ∀ j : Nat, 1 ≤ j → j ≤ k → sumF ⟨st, sz, (a : Int)⟩ lot ≤ sumF ⟨st, sz, (j : Int)⟩ lot ∧ (j < a → sumF ⟨st, sz, (a : Int)⟩ lot < sumF ⟨st, sz, (j : Int)⟩ lot)
  | 0, h => by omega
  | 1, _ => by
    refine ⟨1, Nat.le_refl _, Nat.le_refl _, ?_, fun j h1 h2 => ?_⟩
    · exact bestTo_hit (k := 0) (bestTo_zero st sz lot) (.inl rfl)
    · obtain rfl : j = 1 := by omega
      exact ⟨Nat.le_refl _, fun h => by omega⟩
  | k + 2, _ => by
    obtain ⟨a, h1, h2, h3, h4⟩ := best_min st sz lot (k + 1) (by omega)
    have hc : ((k + 1 : Nat) : Int) + 1 = ((k + 2 : Nat) : Int) := by omega
    by_cases hq : (sumF ⟨st, sz, ((k + 1 : Nat) : Int) + 1⟩ lot : Int) < (sumF ⟨st, sz, (a : Int)⟩ lot : Int)
    · have hb := bestTo_hit h3 (.inr hq)
      rw [hc] at hb hq
      refine ⟨k + 2, by omega, Nat.le_refl _, hb, fun j j1 j2 => ?_⟩
      by_cases hj : j = k + 2
      · subst hj; exact ⟨Nat.le_refl _, fun h => by omega⟩
      · have := (h4 j j1 (by omega)).1
        exact ⟨by omega, fun _ => by omega⟩
    · have hb := bestTo_miss h3 (fun h => h.elim (fun h => by omega) hq)
      rw [hc] at hq
      refine ⟨a, h1, by omega, hb, fun j j1 j2 => ?_⟩
      by_cases hj : j = k + 2
      · subst hj; exact ⟨by omega, fun h => by omega⟩
      · exact h4 j j1 (by omega)
/-- The false drops of the vocabulary's words that are there, up to a place. -/
noncomputable def volTo (x : Mx) (lot : List (List ByteArray)) (V : List ByteArray) (k : Nat) : Nat := (((V.take k).filter fun s => lot.flatten.contains s).map fun s => (falseL x lot [s]).length).sum
theorem volTo_zero (x : Mx) (lot : List (List ByteArray)) (V : List ByteArray) : volTo x lot V 0 = 0 := rfl
theorem volTo_hit {x : Mx} {lot : List (List ByteArray)} {V : List ByteArray} {k : Nat} (h : k < V.length) (h2 : lot.flatten.contains V[k] = true) : volTo x lot V (k + 1) = volTo x lot V k + (falseL x lot [V[k]]).length := by
  unfold volTo
  rw [List.take_succ_eq_append_getElem h, List.filter_append, List.map_append, List.sum_append, List.filter_cons, if_pos h2]
  simp
theorem volTo_miss {x : Mx} {lot : List (List ByteArray)} {V : List ByteArray} {k : Nat} (h : k < V.length) (h2 : lot.flatten.contains V[k] = false) : volTo x lot V (k + 1) = volTo x lot V k := by
  unfold volTo
  rw [List.take_succ_eq_append_getElem h, List.filter_append, List.map_append, List.sum_append, List.filter_cons, if_neg (by rw [h2]; decide)]
  simp
theorem volTo_all (x : Mx) (lot : List (List ByteArray)) (V : List ByteArray) (hV : V.Nodup) (hl : ∀ l ∈ lot, ∀ s ∈ l, s ∈ V) : volTo x lot V V.length = sumF x lot := by
  unfold volTo sumF
  rw [List.take_length]
  refine sum_firsts lot.flatten _ (hV.sublist List.filter_sublist) (fun y => ?_) _
  rw [List.mem_filter, List.contains_iff_mem]
  refine ⟨fun h => h.2, fun h => ⟨?_, h⟩⟩
  obtain ⟨l, h1, h2⟩ := List.mem_flatten.1 h
  exact hl l h1 y h2
theorem volTo_le (x : Mx) (lot : List (List ByteArray)) (V : List ByteArray) (h60 : lot.length ≤ 60) : ∀ k, k ≤ V.length → volTo x lot V k ≤ 60 * k
  | 0, _ => Nat.le_refl _
  | k + 1, h => by
    have ih := volTo_le x lot V h60 k (by omega)
    have hf : (falseL x lot [V[k]]).length ≤ 60 := Nat.le_trans (idxTo_len _ _) h60
    cases e : lot.flatten.contains V[k] with
    | true => rw [volTo_hit (by omega) e]; omega
    | false => rw [volTo_miss (by omega) e]; omega
theorem true_some (lot : List (List ByteArray)) (s : ByteArray) : decide (0 < (trueL lot [s] lot.length).length) = lot.flatten.contains s := by
  have hm : ∀ v : Int, v ∈ trueL lot [s] lot.length ↔ ∃ i, i < lot.length ∧ v = (i : Int) ∧ hasAllB (lot.getD i []) [s] = true := fun v => by unfold trueL; exact idxTo_mem _ _ _
  have hh : ∀ l : List ByteArray, hasAllB l [s] = true ↔ s ∈ l := fun l => by
    unfold hasAllB
    rw [List.all_cons, List.all_nil, Bool.and_true, List.contains_iff_mem]
  rw [Bool.eq_iff_iff, decide_eq_true_eq, List.contains_iff_mem, List.mem_flatten, List.length_pos_iff_exists_mem]
  constructor
  · rintro ⟨v, hv⟩
    obtain ⟨i, hi, _, h⟩ := (hm v).1 hv
    rw [List.getD, List.getElem?_eq_getElem hi] at h
    exact ⟨_, List.getElem_mem hi, (hh _).1 h⟩
  · rintro ⟨l, hl, h⟩
    obtain ⟨i, hi, rfl⟩ := List.mem_iff_getElem.1 hl
    exact ⟨(i : Int), (hm _).2 ⟨i, hi, rfl, by rw [List.getD, List.getElem?_eq_getElem hi]; exact (hh _).2 h⟩⟩
/-- The fullest of the first masks: its place, its holes. -/
def fullTo (p : Mask) (ms : List Mask) : Nat → Int × Int
  | 0 => (0, -1)
  | k + 1 => if (fullTo p ms k).2 < mcount (mmeet (ms.getD k 0) p) then ((k : Int), mcount (mmeet (ms.getD k 0) p)) else fullTo p ms k
theorem fullTo_zero (p : Mask) (ms : List Mask) : fullTo p ms 0 = (0, -1) := rfl
theorem fullTo_hit {p : Mask} {ms : List Mask} {k : Nat} {a b : Int} (hk : k < ms.length) (h : fullTo p ms k = (a, b)) (h2 : b < mcount (mmeet ms[k] p)) : fullTo p ms (k + 1) = ((k : Int), mcount (mmeet ms[k] p)) := by
  rw [fullTo, h, getD_at ms k hk, if_pos h2]
theorem fullTo_miss {p : Mask} {ms : List Mask} {k : Nat} {a b : Int} (hk : k < ms.length) (h : fullTo p ms k = (a, b)) (h2 : ¬ b < mcount (mmeet ms[k] p)) : fullTo p ms (k + 1) = (a, b) := by
  rw [fullTo, h, getD_at ms k hk, if_neg h2]
theorem fullTo_max (p : Mask) (ms : List Mask) : ∀ k, 1 ≤ k → k ≤ ms.length → ∃ a : Nat, ∃ h : a < ms.length, a < k ∧ fullTo p ms k = ((a : Int), mcount (mmeet ms[a] p)) ∧
    ∀ j (hj : j < ms.length), j < k → mcount (mmeet ms[j] p) ≤ mcount (mmeet ms[a] p) ∧ (j < a → mcount (mmeet ms[j] p) < mcount (mmeet ms[a] p))
  | 0, h, _ => by omega
  | 1, _, hk => by
    have h0 := mcount_ge (mmeet (ms[0]'(by omega)) p)
    refine ⟨0, by omega, by omega, fullTo_hit (by omega) (fullTo_zero p ms) (by omega), fun j hj h => ?_⟩
    obtain rfl : j = 0 := by omega
    exact ⟨Int.le_refl _, fun h => by omega⟩
  | k + 2, _, hk => by
    obtain ⟨a, ha, h2, h3, h4⟩ := fullTo_max p ms (k + 1) (by omega) (by omega)
    by_cases hq : mcount (mmeet ms[a] p) < mcount (mmeet (ms[k + 1]'(by omega)) p)
    · refine ⟨k + 1, by omega, by omega, fullTo_hit (by omega) h3 hq, fun j hj h => ?_⟩
      by_cases e : j = k + 1
      · subst e; exact ⟨Int.le_refl _, fun h => by omega⟩
      · have := (h4 j hj (by omega)).1
        exact ⟨by omega, fun _ => by omega⟩
    · refine ⟨a, ha, by omega, fullTo_miss (by omega) h3 hq, fun j hj h => ?_⟩
      by_cases e : j = k + 1
      · subst e; exact ⟨by omega, fun h => by omega⟩
      · exact h4 j hj (by omega)
theorem mix_per {x : Mx} (hx : mixB x = true) {k : Int} (h1 : 1 ≤ k) (h2 : k ≤ 8) (h3 : 2 * k ≤ x.sz) : mixB ⟨x.st, x.sz, k⟩ = true := by
  obtain ⟨a1, a2, a3, a4, a5, a6, a7⟩ := (mixB_iff x).1 hx
  exact (mixB_iff _).2 ⟨a1, a2, h1, h2, h3, a6, a7⟩
/-- All that FnSizes says of counts by the number of holes. -/
theorem sizes_best {x : Mx} (hx : mixB x = true) {lot : List (List ByteArray)} (hl : lotB lot = true) :
    ∃ (per : Nat) (least : Nat), bestF x lot = ((per : Int), (least : Int), 0) ∧ least ≤ sumF x lot ∧ 1 ≤ per ∧ per ≤ 8 ∧
      ∀ j : Nat, 1 ≤ j → j ≤ 8 → 2 * (j : Int) ≤ x.sz → least ≤ sumF ⟨x.st, x.sz, (j : Int)⟩ lot ∧ (j < per → least < sumF ⟨x.st, x.sz, (j : Int)⟩ lot) := by
  obtain ⟨a1, a2, a3, a4, a5, a6, a7⟩ := (mixB_iff x).1 hx
  have hN : ∀ j : Nat, 1 ≤ j → j ≤ 8 → 2 * (j : Int) ≤ x.sz → j ≤ bestN x.sz := fun j j1 j2 j3 => by
    unfold bestN
    have : j ≤ (x.sz / 2).toNat := by omega
    omega
  have h8 : bestN x.sz ≤ 8 := by unfold bestN; omega
  obtain ⟨pn, hp⟩ := Int.eq_ofNat_of_zero_le (show 0 ≤ x.per by omega)
  have hpn := hN pn (by omega) (by omega) (by omega)
  obtain ⟨a, h1, h2, h3, h4⟩ := best_min x.st x.sz lot (bestN x.sz) (by omega)
  refine ⟨a, sumF ⟨x.st, x.sz, (a : Int)⟩ lot, by rw [best_ok hx hl, h3], ?_, h1, by omega, fun j j1 j2 j3 => h4 j j1 (hN j j1 j2 j3)⟩
  have := (h4 pn (by omega) hpn).1
  rw [← hp] at this
  exact this
end Go.Proofs.YtegopgpnjgikeaaGreatDoor
set_option linter.unusedVariables false
set_option linter.unusedSimpArgs false
set_option maxRecDepth 100000
namespace Go.Proofs.YtegopgpnjgikeaaGreatDoor
open Go.RowKit
set_option maxHeartbeats 1000000 in
theorem impl_TrueOf (lot : List (List ByteArray)) (A : Option Addr) (cap : Nat) (ws : List ByteArray) (B : Option Addr) (capB : Nat) (hlb : lotB lot = true) (hwb : wordsB ws 12 = true) (w : World) (hR : RdL w A lot) (hn : lot.length ≤ 1048576) (hll : ∀ l ∈ lot, l.length ≤ 1048576) (hok : ∀ l ∈ lot, ∀ x ∈ l, StrIn x) (hS : Rd encStr w B ws) (hm : ws.length ≤ 1048576) (hokw : ∀ x ∈ ws, StrIn x) :
    Calls Tryz.prog 12 #[.slice A lot.length cap, .slice B ws.length capB] w fun e w' => ∃ v, e = .returned (.tuple #[v, .int .i64 0]) ∧ Ow encI64 2 w' w.heap.size v (trueL lot ws lot.length) ∧ Ext w w' := by
  have ha := fun (W : World) (hE : Ext w W) => impl_areWords ws B capB 12 W (hS.ext hE) hm hokw
  have hb := fun (W : World) (hE : Ext w W) => impl_isLot lot A cap W (hR.ext hE) hn hll hok
  rw [hwb] at ha
  rw [hlb] at hb
  have hhit := fun k (h : k < lot.length) => trueL_hit (ws := ws) h
  have hmiss := fun k (h : k < lot.length) => trueL_miss (ws := ws) h
  have hzero := trueL_zero lot ws
  have hlen := fun k => trueL_len lot ws k
  have hx := @ExtOf.cell
  go_enter Tryz.func12, Tryz.ntmps12
  go_wp2_with fail
  refine Calls.mono (ha _ (Ext.refl _)) ?_
  rintro e w1 ⟨rfl, hb1⟩
  go_wp2_with fail
  refine Calls.mono (hb _ hb1) ?_
  rintro e w2 ⟨rfl, hb2⟩
  have hw2 := hb1.trans hb2
  clear hb1 hb2 ha hb
  go_wp2
  go_loopg [6, 20] lot.length (fun g v i wr => ∃ k : Nat, g = lot.length - k ∧ k ≤ lot.length ∧ i = .int .i64 k ∧ Ext w2 wr ∧ Ow encI64 2 wr w2.heap.size v (trueL lot ws k))
  case atStart => exact ⟨0, by omega, by omega, rfl, (Ext.refl _).alloc _, by rw [hzero]; exact Ow.made0 rfl (Nat.le_refl _)⟩
  case round =>
    obtain ⟨k, hg, hk, rfl, hw, hO⟩ := hrel
    by_cases hkl : k < lot.length
    · obtain ⟨b, off, rfl, hlt1⟩ := (hR.ext (hw2.trans hw)).block k hkl
      obtain ⟨B1, c1, m0, hB1⟩ := (hR.ext (hw2.trans hw)).at k hkl
      have l1 := World.block_lt_of_cell? _ _ m0
      dsimp only at l1
      have hl := hlen k
      have hha := impl_hasAll lot[k] B1 c1 ws B capB wr hB1 (hll _ (List.getElem_mem hkl)) ((hS.ext hw2).ext hw) hm
      have hit := fun q => hd (hhit k hkl q)
      have miss := fun q => hd (hmiss k hkl q)
      cases hq : hasAllB lot[k] ws with
      | true =>
        rw [hq] at hha
        have hv := hit hq
        clear hit miss hq
        go_wp2_with fail
        refine Calls.mono hha ?_
        rintro e w5 ⟨rfl, hb5⟩
        have hO5 := hO.ext hb5
        have hW5 := hw.trans hb5
        clear hb5 hO m0 l1 hha
        go_wp2_with (at_builtin; refine wpList_push2 (w0 := w2) (base := w2.heap.size) (xs := trueL lot ws k) encI64 (by rfl) _ _ 36 (.int .i64 0) 8 (by rfl) Tryz.underlying36 info_i64 (by rfl) ((k : Int)) (by rfl) (by rfl) (by simp) (hO5) ((hW5 : Ext w2 _).size) (Nat.le_refl _) (hW5) (by omega) (by omega) ?_)
        intro v6 w6 hO6 hb6 hg6 _
        go_wp2
        go_roundg (lot.length - (k + 1))
        case rel => exact ⟨k + 1, rfl, hkl, by simp, hb6, by rw [hv.out]; exact hO6⟩
        case measure => omega
      | false =>
        rw [hq] at hha
        have hv := miss hq
        clear hit miss hq
        go_wp2_with fail
        refine Calls.mono hha ?_
        rintro e w5 ⟨rfl, hb5⟩
        go_wp2
        go_roundg (lot.length - (k + 1))
        case rel => exact ⟨k + 1, rfl, hkl, by simp, hw.trans hb5, by rw [hv.out]; exact hO.ext hb5⟩
        case measure => omega
    · obtain rfl : k = lot.length := by omega
      go_wp2
      go_ret2
      exact ⟨_, rfl, hO.lower hw2.size, hw2.trans hw⟩
set_option maxHeartbeats 400000 in
theorem impl_FullestOf1 (m : Mask) (w : World) : Calls Tryz.prog 33 #[.agg #[.int .u64 (lo m), .int .u64 (hi m)]] w fun e w' => e = .returned (.bool (!isMaskB m)) ∧ Ext w w' := by
  have hcall := fun W => impl_isMask m W
  generalize isMaskB m = q at hcall
  go_enter Tryz.func33, Tryz.ntmps33
  go_wp2_with fail
  refine Calls.mono (hcall _) ?_
  rintro e w1 ⟨rfl, hb1⟩
  go_wp2
  go_ret
  exact ⟨rfl, by ((repeat (first | with_reducible exact Ext.refl _ | with_reducible exact hw | with_reducible exact hb9 | with_reducible exact hb8 | with_reducible exact hb7 | with_reducible exact hb6 | with_reducible exact hb5 | with_reducible exact hb4 | with_reducible exact hb3 | with_reducible exact hb2 | with_reducible exact hb1 | with_reducible refine Ext.alloc ?_ _ | with_reducible refine Ext.drew ?_ | ((with_reducible refine Ext.set ?_ ?_ _); focus (dsimp only; omega)) | with_reducible refine Ext.trans ?_ hb9 | with_reducible refine Ext.trans ?_ hb8 | with_reducible refine Ext.trans ?_ hb7 | with_reducible refine Ext.trans ?_ hb6 | with_reducible refine Ext.trans ?_ hb5 | with_reducible refine Ext.trans ?_ hb4 | with_reducible refine Ext.trans ?_ hb3 | with_reducible refine Ext.trans ?_ hb2 | with_reducible refine Ext.trans ?_ hb1 | with_reducible refine Ext.trans ?_ hw)))⟩
set_option maxHeartbeats 400000 in
theorem slices_IndexFunc_FullestOf (xs : List Mask) (A : Option Addr) (n cap : Nat) (w : World) (hnx : n = xs.length) (hR : Rd encMask w A xs) (hn : n ≤ 1048576)  :
    Calls Tryz.prog 58 #[.slice A n cap, .func (.func 33) #[] #[]] w fun e w' => e = .returned (.int .i64 (fidx (fun m : Mask => !isMaskB m) xs)) ∧ Ext w w' := by
  subst hnx
  go_enter Tryz.func58, Tryz.ntmps58
  go_wp2
  go_loopg [8] xs.length (fun g i wr => ∃ k : Nat, g = xs.length - k ∧ k ≤ xs.length ∧ i = .int .i64 k ∧ Ext w wr ∧ (xs.take k).any (fun m : Mask => !isMaskB m) = false)
  case atStart => exact ⟨0, by omega, by omega, rfl, Ext.refl _, by rw [List.take_zero]; rfl⟩
  case round =>
    obtain ⟨k, hg, hk, rfl, hw, hQ⟩ := hrel
    by_cases hkl : k < xs.length
    · obtain ⟨b, off, hA, hlt, _⟩ := hR k hkl
      subst hA
      obtain ⟨m0, m1, m2⟩ := (hR.ext hw).mask k hkl
      have hs := any_take (fun m : Mask => !isMaskB m) xs k hkl
      rw [hQ, Bool.false_or] at hs
      cases hq : (fun m : Mask => !isMaskB m) xs[k] with
      | true =>
        have hM := fidx_hit (fun m : Mask => !isMaskB m) xs k hkl hq hQ
        try dsimp only at hq
        clear hs hQ
        go_wp2_with fail
        refine Calls.mono (impl_FullestOf1 xs[k] _) ?_
        rintro e w1 ⟨rfl, hb1⟩
        simp only [hq]
        go_wp2
        go_ret
        exact ⟨by rw [hM]; rfl, by ((repeat (first | with_reducible exact Ext.refl _ | with_reducible exact hw | with_reducible exact hb9 | with_reducible exact hb8 | with_reducible exact hb7 | with_reducible exact hb6 | with_reducible exact hb5 | with_reducible exact hb4 | with_reducible exact hb3 | with_reducible exact hb2 | with_reducible exact hb1 | with_reducible refine Ext.alloc ?_ _ | with_reducible refine Ext.drew ?_ | ((with_reducible refine Ext.set ?_ ?_ _); focus (dsimp only; omega)) | with_reducible refine Ext.trans ?_ hb9 | with_reducible refine Ext.trans ?_ hb8 | with_reducible refine Ext.trans ?_ hb7 | with_reducible refine Ext.trans ?_ hb6 | with_reducible refine Ext.trans ?_ hb5 | with_reducible refine Ext.trans ?_ hb4 | with_reducible refine Ext.trans ?_ hb3 | with_reducible refine Ext.trans ?_ hb2 | with_reducible refine Ext.trans ?_ hb1 | with_reducible refine Ext.trans ?_ hw)))⟩
      | false =>
        have hs2 := hd (hs.trans hq)
        try dsimp only at hq
        clear hs hQ
        go_wp2_with fail
        refine Calls.mono (impl_FullestOf1 xs[k] _) ?_
        rintro e w1 ⟨rfl, hb1⟩
        simp only [hq]
        go_wp2
        go_roundg (xs.length - (k + 1))
        case rel => exact ⟨k + 1, rfl, hkl, rfl, by ((repeat (first | with_reducible exact Ext.refl _ | with_reducible exact hw | with_reducible exact hb9 | with_reducible exact hb8 | with_reducible exact hb7 | with_reducible exact hb6 | with_reducible exact hb5 | with_reducible exact hb4 | with_reducible exact hb3 | with_reducible exact hb2 | with_reducible exact hb1 | with_reducible refine Ext.alloc ?_ _ | with_reducible refine Ext.drew ?_ | ((with_reducible refine Ext.set ?_ ?_ _); focus (dsimp only; omega)) | with_reducible refine Ext.trans ?_ hb9 | with_reducible refine Ext.trans ?_ hb8 | with_reducible refine Ext.trans ?_ hb7 | with_reducible refine Ext.trans ?_ hb6 | with_reducible refine Ext.trans ?_ hb5 | with_reducible refine Ext.trans ?_ hb4 | with_reducible refine Ext.trans ?_ hb3 | with_reducible refine Ext.trans ?_ hb2 | with_reducible refine Ext.trans ?_ hb1 | with_reducible refine Ext.trans ?_ hw))), hs2.out⟩
        case measure => omega
    · obtain rfl : k = xs.length := by omega
      rw [List.take_length] at hQ
      have hM := fidx_none (fun m : Mask => !isMaskB m) xs hQ
      go_wp2
      go_ret
      exact ⟨by rw [hM]; rfl, hw⟩

set_option maxHeartbeats 400000 in
theorem slices_ContainsFunc_FullestOf (ms : List Mask) (A : Option Addr) (cap : Nat) (w : World) (hR : Rd encMask w A ms) (hn : ms.length ≤ 1048576) :
    Calls Tryz.prog 32 #[.slice A ms.length cap, .func (.func 33) #[] #[]] w fun e w' => e = .returned (.bool (!ms.all isMaskB)) ∧ Ext w w' := by
  have hI := fun (W : World) (h : Rd encMask W A ms) => slices_IndexFunc_FullestOf ms A _ cap W rfl h hn
  have hv := fidx_ge (fun m : Mask => !isMaskB m) ms
  have hm : (!ms.all isMaskB) = decide (fidx (fun m : Mask => !isMaskB m) ms ≥ 0) := by
    rw [List.not_all_eq_any_not, Bool.eq_iff_iff, decide_eq_true_iff]
    exact hv.symm
  generalize fidx (fun m : Mask => !isMaskB m) ms = q at hm hI
  rw [hm]
  clear hm hv
  go_enter Tryz.func32, Tryz.ntmps32
  go_wp2_with fail
  refine Calls.mono (hI _ hR) ?_
  rintro e w1 ⟨rfl, hb1⟩
  go_wp2
  go_ret
  exact ⟨rfl, hb1⟩
set_option maxHeartbeats 1000000 in
theorem impl_FullestOf (x : Mx) (hxi : MxIn x) (hmx : mixB x = true) (ms : List Mask) (B : Option Addr) (cap' : Nat) (hv : ms.all isMaskB = true) (hl0 : 0 < ms.length) (hl : ms.length ≤ 60) (w : World) (hS : Rd encMask w B ms) :
    Calls Tryz.prog 15 #[.agg #[.int .i16 x.st, .int .i16 x.sz, .int .i16 x.per], .slice B ms.length cap'] w fun e w' => e = .returned (.tuple #[.int .i64 (fullTo (partX x) ms ms.length).1, .int .i64 (fullTo (partX x) ms ms.length).2, .int .i64 0]) ∧ Ext w w' := by
  have h1 := fun W => impl_isMix x hxi W
  rw [hmx] at h1
  have hcf := fun (W : World) (hE : Ext w W) => slices_ContainsFunc_FullestOf ms B cap' W (hS.ext hE) (by omega)
  rw [hv] at hcf
  have hpa := fun (W : World) => impl_partX x hmx W
  have hzero := fullTo_zero (partX x) ms
  have hhit := fun k (h : k < ms.length) a b h1 => fullTo_hit (p := partX x) (a := a) (b := b) h h1
  have hmiss := fun k (h : k < ms.length) a b h1 => fullTo_miss (p := partX x) (a := a) (b := b) h h1
  generalize partX x = pm at hpa hzero hhit hmiss ⊢
  obtain ⟨st, sz, per⟩ := x
  dsimp only at h1 hpa
  have hx := @ExtOf.cell
  have i60 : (ms.length : Int) ≤ 60 := by omega
  have i0 : ((ms.length : Int) == 0) = false := by rw [beq_eq_false_iff_ne]; omega
  have i1 : (0 : Int) < ms.length := by omega
  go_enter Tryz.func15, Tryz.ntmps15
  go_wp2_with fail
  refine Calls.mono (h1 _) ?_
  rintro e w1 ⟨rfl, hb1⟩
  have hX : BoxAt w1 w.heap.size #[.int .i16 st, .int .i16 sz, .int .i16 per] 26 := (BoxAt.new' rfl).ext hb1
  have hw1 : Ext w w1 := ((Ext.refl _).alloc _).trans hb1
  clear hb1
  go_wp2_with fail
  refine Calls.mono (hcf _ hw1) ?_
  rintro e w2 ⟨rfl, hb2⟩
  have hw2 := hw1.trans hb2
  have hX := hX.ext hb2
  clear hb2 hw1 h1 hcf
  go_wp2
  go_loopg [7, 8, 29] ms.length (fun g a b i wr => ∃ k : Nat, ∃ av bv : Int, g = ms.length - k ∧ k ≤ ms.length ∧ i = .int .i64 k ∧ a = .int .i64 av ∧ b = .int .i64 bv ∧ Hd (fullTo pm ms k = (av, bv)) ∧ Ext w2 wr)
  case atStart => exact ⟨0, 0, -1, by omega, by omega, rfl, rfl, rfl, hd hzero, Ext.refl _⟩
  case round =>
    obtain ⟨k, av, bv, hg, hk, rfl, rfl, rfl, hf, hw⟩ := hrel
    by_cases hkl : k < ms.length
    · obtain ⟨b, off, hA, hlt, _⟩ := hS k hkl
      subst hA
      obtain ⟨m0, m1, m2⟩ := ((hS.ext hw2).ext hw).mask k hkl
      have hX := hX.ext hw
      have hit := fun q => hd (hhit k hkl av bv hf.out q)
      have miss := fun q => hd (hmiss k hkl av bv hf.out q)
      have hme := fun W => impl_MeetMasks ms[k] pm W
      have hco := fun W => impl_CountHoles (mmeet ms[k] pm) W
      have hwr := hw2.trans hw
      generalize mcount (mmeet ms[k] pm) = n at hco hit miss
      generalize mmeet ms[k] pm = mm at hme hco
      generalize ms[k] = mk at m0 m1 hme
      have lX := hX.lt
      have kE := (Ext.refl wr).alloc (.cells #[.int .u64 (lo mk), .int .u64 (hi mk)] 47)
      have hXa := hX.ext kE
      have x0 : (wr.alloc (.cells #[.int .u64 (lo mk), .int .u64 (hi mk)] 47)).cell? ⟨w.heap.size, 0, none⟩ = some (.int .i16 st) := hXa.cell 0
      have x1 : (wr.alloc (.cells #[.int .u64 (lo mk), .int .u64 (hi mk)] 47)).cell? ⟨w.heap.size, 1, none⟩ = some (.int .i16 sz) := hXa.cell 1
      have x2 : (wr.alloc (.cells #[.int .u64 (lo mk), .int .u64 (hi mk)] 47)).cell? ⟨w.heap.size, 2, none⟩ = some (.int .i16 per) := hXa.cell 2
      have lXa := hXa.lt
      go_wp2
      refine wp_region_ext (by kernel_rfl) (by kernel_rfl) ?_
      repeat (first | go_big_quiet_step ((first | (go_at_call 37; with_reducible exact Calls.ext_all (fun W _ => hpa W)) | (go_at_call 36; with_reducible exact Calls.ext_all (fun W _ => hme W)) | (go_at_call 35; with_reducible exact Calls.ext_all (fun W _ => hco W)))) | quiet_step ((first | (go_at_call 37; with_reducible exact Calls.ext_all (fun W _ => hpa W)) | (go_at_call 36; with_reducible exact Calls.ext_all (fun W _ => hme W)) | (go_at_call 35; with_reducible exact Calls.ext_all (fun W _ => hco W)))))
      refine wpQuiet_nil ?_
      intro w5 hq5
      have hb5 := ext_of_class hq5
      clear hq5
      obtain ⟨hc5, hf5, hz5⟩ := bcell3 hb5
      try simp at hz5
      have hr5 : Ext w2 w5 := (hw.trans kE).trans hb5
      clear hc5 hf5 hz5 hb5 x0 x1 x2 lXa hXa lX
      by_cases hq : bv < n
      · have hv1 := hit hq
        clear hit miss
        go_wp2
        go_roundg (ms.length - (k + 1))
        case rel => exact ⟨k + 1, k, n, rfl, hkl, by simp, rfl, rfl, hv1, hr5⟩
        case measure => omega
      · have hq2 : n ≤ bv := by omega
        have hv1 := miss (by first | exact hq | exact hq2)
        clear hit miss hq
        go_wp2
        go_roundg (ms.length - (k + 1))
        case rel => exact ⟨k + 1, av, bv, rfl, hkl, by simp, rfl, rfl, hv1, hr5⟩
        case measure => omega
    · obtain rfl : k = ms.length := by omega
      have hfo := hf.out
      go_wp2
      refine bodyPost_ret (v := .tuple #[.int .i64 av, .int .i64 bv, .int .i64 0]) (by simp [results, Tryz.results15, go_sem]) rfl ⟨by rw [hfo], hw2.trans hw⟩
set_option maxHeartbeats 400000 in
theorem impl_FullestOf_nil (x : Mx) (hxi : MxIn x) (hmx : mixB x = true) (B : Option Addr) (cap' : Nat) (w : World) :
    Calls Tryz.prog 15 #[.agg #[.int .i16 x.st, .int .i16 x.sz, .int .i16 x.per], .slice B 0 cap'] w fun e w' => e = .returned (.tuple #[.int .i64 0, .int .i64 0, .int .i64 6]) ∧ Ext w w' := by
  have h1 := fun W => impl_isMix x hxi W
  rw [hmx] at h1
  have hcf := fun (W : World) => slices_ContainsFunc_FullestOf [] B cap' W (Rd.nil _ _ _) (by simp)
  rw [show (!([] : List Mask).all isMaskB) = false from rfl] at hcf
  obtain ⟨st, sz, per⟩ := x
  dsimp only at h1
  have hx := @ExtOf.cell
  go_enter Tryz.func15, Tryz.ntmps15
  go_wp2_with fail
  refine Calls.mono (h1 _) ?_
  rintro e w1 ⟨rfl, hb1⟩
  have hw1 : Ext w w1 := ((Ext.refl _).alloc _).trans hb1
  clear hb1
  go_wp2_with fail
  refine Calls.mono (hcf _) ?_
  rintro e w2 ⟨rfl, hb2⟩
  have hw2 := hw1.trans hb2
  go_wp2
  refine bodyPost_ret (v := .tuple #[.int .i64 0, .int .i64 0, .int .i64 6]) (by simp [results, Tryz.results15, go_sem]) rfl ⟨rfl, hw2⟩
end Go.Proofs.YtegopgpnjgikeaaGreatDoor
