/-
  Contracts of DroppedOf, program's and reference's.
-/
import Derived.Test.YtbmompanhigmnaaDoorX4
import Derived.Test.YtbmompanhigmnaaDoorMK
set_option linter.unusedVariables false
set_option linter.unusedSimpArgs false
set_option maxRecDepth 100000
namespace Go.Proofs.YtbmompanhigmnaaDoor
open Go.RowKit
theorem getM (ms : List Mask) (k : Nat) (hk : k < ms.length) : ms.getD k 0 = ms[k] := by rw [List.getD, List.getElem?_eq_getElem hk]; rfl
/-- The places of the masks that have some holes. -/
def droppedL (h : Mask) (ms : List Mask) (n : Nat) : List Int := idxTo (fun i => mwin h (ms.getD i 0)) n
theorem droppedL_zero (h : Mask) (ms : List Mask) : droppedL h ms 0 = [] := rfl
theorem droppedL_hit {h : Mask} {ms : List Mask} {k : Nat} (hk : k < ms.length) (hq : mwin h ms[k] = true) : droppedL h ms (k + 1) = droppedL h ms k ++ [(k : Int)] := idxTo_hit _ k (by rw [getM ms k hk]; exact hq)
theorem droppedL_miss {h : Mask} {ms : List Mask} {k : Nat} (hk : k < ms.length) (hq : mwin h ms[k] = false) : droppedL h ms (k + 1) = droppedL h ms k := idxTo_miss _ k (by rw [getM ms k hk]; exact hq)
theorem droppedL_len (h : Mask) (ms : List Mask) (n : Nat) : (droppedL h ms n).length ≤ n := idxTo_len _ n
attribute [irreducible] droppedL
noncomputable def dropF (x : Mx) (ms : List Mask) (ws : List ByteArray) : List Int × Int :=
  if askF x ms ws 12 = 0 then (droppedL (wallM x ws) ms ms.length, 0) else ([], askF x ms ws 12)
theorem drop_ok {x : Mx} {ms : List Mask} {ws : List ByteArray} (h : askF x ms ws 12 = 0) : dropF x ms ws = (droppedL (wallM x ws) ms ms.length, 0) := by unfold dropF; rw [if_pos h]
theorem drop_no {x : Mx} {ms : List Mask} {ws : List ByteArray} (h : ¬ askF x ms ws 12 = 0) : dropF x ms ws = ([], askF x ms ws 12) := by unfold dropF; rw [if_neg h]
theorem drop_len (x : Mx) (ms : List Mask) (ws : List ByteArray) (h : ms.length ≤ 1048576) : (dropF x ms ws).1.length ≤ 1048576 := by
  unfold dropF
  split
  · exact Nat.le_trans (droppedL_len _ _ _) h
  · simp
theorem ask_masks {x : Mx} {ms : List Mask} {ws : List ByteArray} {most : Int} (h : ms.all isMaskB = false) : askF x ms ws most = 1 := ask_bad (by rw [h, Bool.and_false])
theorem ask_nil {x : Mx} {ms : List Mask} {ws : List ByteArray} {most : Int} (h : ms.all isMaskB = true) (h2 : ¬ askF x [] ws most = 0) : askF x ms ws most = askF x [] ws most := by
  cases hm : mixB x with
  | false => rw [ask_bad (by rw [hm]; rfl), ask_bad (by rw [hm]; rfl)]
  | true =>
    cases hw : wordsB ws most with
    | false => rw [ask_far (by rw [hm, h]; rfl) (by rw [hw, Bool.and_false]), ask_far (by rw [hm]; rfl) (by rw [hw, Bool.and_false])]
    | true => exact absurd (ask_ok (by rw [hm]; rfl) (by rw [hw]; rfl)) h2
theorem ask_long {x : Mx} {ms : List Mask} {ws : List ByteArray} {most : Int} (h : ms.all isMaskB = true) (h2 : askF x [] ws most = 0) (h3 : ¬ ms.length ≤ 60) : askF x ms ws most = 2 :=
  ask_far (by rw [(ask_zero h2).1, h]; rfl) (by rw [decide_eq_false h3]; rfl)
theorem ask_good {x : Mx} {ms : List Mask} {ws : List ByteArray} {most : Int} (h : ms.all isMaskB = true) (h2 : askF x [] ws most = 0) (h3 : ms.length ≤ 60) : askF x ms ws most = 0 := by
  obtain ⟨a1, _, _, a4, a5⟩ := ask_zero h2
  exact ask_ok (by rw [a1, h]; rfl) (by unfold wordsB; rw [decide_eq_true h3, decide_eq_true a4, a5]; rfl)
set_option maxHeartbeats 400000 in
theorem impl_DroppedOf1 (m : Mask) (w : World) : Calls Tryd.prog 53 #[.agg #[.int .u64 (lo m), .int .u64 (hi m)]] w fun e w' => e = .returned (.bool (!isMaskB m)) ∧ Ext w w' := by
  have hcall := fun W => impl_isMask m W
  generalize isMaskB m = q at hcall
  go_enter Tryd.func53, Tryd.ntmps53
  go_wp2_with fail
  refine Calls.mono (hcall _) ?_
  rintro e w1 ⟨rfl, hb1⟩
  go_wp2
  go_ret
  exact ⟨rfl, by ((repeat (first | with_reducible exact Ext.refl _ | with_reducible exact hw | with_reducible exact hb9 | with_reducible exact hb8 | with_reducible exact hb7 | with_reducible exact hb6 | with_reducible exact hb5 | with_reducible exact hb4 | with_reducible exact hb3 | with_reducible exact hb2 | with_reducible exact hb1 | with_reducible refine Ext.alloc ?_ _ | with_reducible refine Ext.drew ?_ | ((with_reducible refine Ext.set ?_ ?_ _); focus (dsimp only; omega)) | with_reducible refine Ext.trans ?_ hb9 | with_reducible refine Ext.trans ?_ hb8 | with_reducible refine Ext.trans ?_ hb7 | with_reducible refine Ext.trans ?_ hb6 | with_reducible refine Ext.trans ?_ hb5 | with_reducible refine Ext.trans ?_ hb4 | with_reducible refine Ext.trans ?_ hb3 | with_reducible refine Ext.trans ?_ hb2 | with_reducible refine Ext.trans ?_ hb1 | with_reducible refine Ext.trans ?_ hw)))⟩
set_option maxHeartbeats 400000 in
theorem slices_IndexFunc_DroppedOf (xs : List Mask) (A : Option Addr) (n cap : Nat) (w : World) (hnx : n = xs.length) (hR : Rd encMask w A xs) (hn : n ≤ 1048576)  :
    Calls Tryd.prog 83 #[.slice A n cap, .func (.func 53) #[] #[]] w fun e w' => e = .returned (.int .i64 (fidx (fun m : Mask => !isMaskB m) xs)) ∧ Ext w w' := by
  subst hnx
  go_enter Tryd.func83, Tryd.ntmps83
  go_wp2
  go_loopg [8] xs.length (fun g i wr => ∃ k : Nat, g = xs.length - k ∧ k ≤ xs.length ∧ i = .int .i64 k ∧ Ext w wr ∧ (xs.take k).any (fun m : Mask => !isMaskB m) = false)
  case atStart => exact ⟨0, by omega, by omega, rfl, Ext.refl _, by rw [List.take_zero]; rfl⟩
  case round =>
    obtain ⟨k, hg, hk, rfl, hw, hQ⟩ := hrel
    by_cases hkl : k < xs.length
    · obtain ⟨b, off, hA, hlt, _⟩ := hR k hkl
      subst hA
      obtain ⟨m0, m1, m2⟩ := (hR.ext hw).mask k hkl
      have hs := any_take (fun m : Mask => !isMaskB m) xs k hkl
      rw [hQ, Bool.false_or] at hs
      cases hq : (fun m : Mask => !isMaskB m) xs[k] with
      | true =>
        have hM := fidx_hit (fun m : Mask => !isMaskB m) xs k hkl hq hQ
        try dsimp only at hq
        clear hs hQ
        go_wp2_with fail
        refine Calls.mono (impl_DroppedOf1 xs[k] _) ?_
        rintro e w1 ⟨rfl, hb1⟩
        simp only [hq]
        go_wp2
        go_ret
        exact ⟨by rw [hM]; rfl, by ((repeat (first | with_reducible exact Ext.refl _ | with_reducible exact hw | with_reducible exact hb9 | with_reducible exact hb8 | with_reducible exact hb7 | with_reducible exact hb6 | with_reducible exact hb5 | with_reducible exact hb4 | with_reducible exact hb3 | with_reducible exact hb2 | with_reducible exact hb1 | with_reducible refine Ext.alloc ?_ _ | with_reducible refine Ext.drew ?_ | ((with_reducible refine Ext.set ?_ ?_ _); focus (dsimp only; omega)) | with_reducible refine Ext.trans ?_ hb9 | with_reducible refine Ext.trans ?_ hb8 | with_reducible refine Ext.trans ?_ hb7 | with_reducible refine Ext.trans ?_ hb6 | with_reducible refine Ext.trans ?_ hb5 | with_reducible refine Ext.trans ?_ hb4 | with_reducible refine Ext.trans ?_ hb3 | with_reducible refine Ext.trans ?_ hb2 | with_reducible refine Ext.trans ?_ hb1 | with_reducible refine Ext.trans ?_ hw)))⟩
      | false =>
        have hs2 := hd (hs.trans hq)
        try dsimp only at hq
        clear hs hQ
        go_wp2_with fail
        refine Calls.mono (impl_DroppedOf1 xs[k] _) ?_
        rintro e w1 ⟨rfl, hb1⟩
        simp only [hq]
        go_wp2
        go_roundg (xs.length - (k + 1))
        case rel => exact ⟨k + 1, rfl, hkl, rfl, by ((repeat (first | with_reducible exact Ext.refl _ | with_reducible exact hw | with_reducible exact hb9 | with_reducible exact hb8 | with_reducible exact hb7 | with_reducible exact hb6 | with_reducible exact hb5 | with_reducible exact hb4 | with_reducible exact hb3 | with_reducible exact hb2 | with_reducible exact hb1 | with_reducible refine Ext.alloc ?_ _ | with_reducible refine Ext.drew ?_ | ((with_reducible refine Ext.set ?_ ?_ _); focus (dsimp only; omega)) | with_reducible refine Ext.trans ?_ hb9 | with_reducible refine Ext.trans ?_ hb8 | with_reducible refine Ext.trans ?_ hb7 | with_reducible refine Ext.trans ?_ hb6 | with_reducible refine Ext.trans ?_ hb5 | with_reducible refine Ext.trans ?_ hb4 | with_reducible refine Ext.trans ?_ hb3 | with_reducible refine Ext.trans ?_ hb2 | with_reducible refine Ext.trans ?_ hb1 | with_reducible refine Ext.trans ?_ hw))), hs2.out⟩
        case measure => omega
    · obtain rfl : k = xs.length := by omega
      rw [List.take_length] at hQ
      have hM := fidx_none (fun m : Mask => !isMaskB m) xs hQ
      go_wp2
      go_ret
      exact ⟨by rw [hM]; rfl, hw⟩

set_option maxHeartbeats 400000 in
theorem slices_ContainsFunc_DroppedOf (ms : List Mask) (A : Option Addr) (cap : Nat) (w : World) (hR : Rd encMask w A ms) (hn : ms.length ≤ 1048576) :
    Calls Tryd.prog 52 #[.slice A ms.length cap, .func (.func 53) #[] #[]] w fun e w' => e = .returned (.bool (!ms.all isMaskB)) ∧ Ext w w' := by
  have hI := fun (W : World) (h : Rd encMask W A ms) => slices_IndexFunc_DroppedOf ms A _ cap W rfl h hn
  have hv := fidx_ge (fun m : Mask => !isMaskB m) ms
  have hm : (!ms.all isMaskB) = decide (fidx (fun m : Mask => !isMaskB m) ms ≥ 0) := by
    rw [List.not_all_eq_any_not, Bool.eq_iff_iff, decide_eq_true_iff]
    exact hv.symm
  generalize fidx (fun m : Mask => !isMaskB m) ms = q at hm hI
  rw [hm]
  clear hm hv
  go_enter Tryd.func52, Tryd.ntmps52
  go_wp2_with fail
  refine Calls.mono (hI _ hR) ?_
  rintro e w1 ⟨rfl, hb1⟩
  go_wp2
  go_ret
  exact ⟨rfl, hb1⟩
set_option maxHeartbeats 1000000 in
theorem spec_l03Dropped (h : Mask) (ms : List Mask) (A : Option Addr) (cap : Nat) (w : World) (hR : Rd encMask w A ms) (hn : ms.length ≤ 1048576) :
    Calls Tryd.prog 50 #[.slice A ms.length cap, .agg #[.int .u64 (lo h), .int .u64 (hi h)]] w fun e w' => ∃ v, e = .returned v ∧ Ow encI64 2 w' w.heap.size v (droppedL h ms ms.length) ∧ Ext w w' := by
  have hx := @ExtOf.cell
  have hlen := droppedL_len h ms
  go_enter Tryd.func50, Tryd.ntmps50
  go_wp2
  go_loopg [5, 6] ms.length (fun g v i wr => ∃ k : Nat, g = ms.length - k ∧ k ≤ ms.length ∧ i = .int .i64 k ∧ Ext w wr ∧ BoxAt wr w.heap.size #[.int .u64 (lo h), .int .u64 (hi h)] 53 ∧ Ow encI64 2 wr (w.heap.size + 1) v (droppedL h ms k))
  case atStart => exact ⟨0, by omega, by omega, rfl, by ((repeat (first | with_reducible exact Ext.refl _ | with_reducible exact hw | with_reducible exact hb9 | with_reducible exact hb8 | with_reducible exact hb7 | with_reducible exact hb6 | with_reducible exact hb5 | with_reducible exact hb4 | with_reducible exact hb3 | with_reducible exact hb2 | with_reducible exact hb1 | with_reducible refine Ext.alloc ?_ _ | with_reducible refine Ext.drew ?_ | ((with_reducible refine Ext.set ?_ ?_ _); focus (dsimp only; omega)) | with_reducible refine Ext.trans ?_ hb9 | with_reducible refine Ext.trans ?_ hb8 | with_reducible refine Ext.trans ?_ hb7 | with_reducible refine Ext.trans ?_ hb6 | with_reducible refine Ext.trans ?_ hb5 | with_reducible refine Ext.trans ?_ hb4 | with_reducible refine Ext.trans ?_ hb3 | with_reducible refine Ext.trans ?_ hb2 | with_reducible refine Ext.trans ?_ hb1 | with_reducible refine Ext.trans ?_ hw))), (BoxAt.new' rfl).alloc _, by rw [droppedL_zero]; exact Ow.made0 (by simp) (by simp)⟩
  case round =>
    obtain ⟨k, hg, hk, rfl, hw, hB, hO⟩ := hrel
    by_cases hkl : k < ms.length
    · obtain ⟨b, off, hA, hlt, _⟩ := hR k hkl
      subst hA
      obtain ⟨m0, m1, m2⟩ := (hR.ext hw).mask k hkl
      have c0 : wr.cell? ⟨w.heap.size, 0, none⟩ = some (.int .u64 (lo h)) := hB.cell 0
      have c1 : wr.cell? ⟨w.heap.size, 1, none⟩ = some (.int .u64 (hi h)) := hB.cell 1
      have lB := hB.lt
      have hl := hlen k
      have hcall := fun W => spec_IsWithin h ms[k] W
      have hhit := fun q => hd (droppedL_hit (h := h) hkl q)
      have hmiss := fun q => hd (droppedL_miss (h := h) hkl q)
      cases hq : mwin h ms[k] with
      | true =>
        rw [hq] at hcall
        have hv := hhit hq
        clear hhit hmiss hq
        go_wp2
        refine wp_region_ext (by kernel_rfl) (by kernel_rfl) ?_
        repeat (first | go_big_quiet_step ((go_at_call 81; with_reducible exact Calls.ext_all (fun W _ => hcall W))) | quiet_step ((go_at_call 81; with_reducible exact Calls.ext_all (fun W _ => hcall W))))
        refine wpQuiet_nil ?_
        intro w2 hq2
        have hb2 := ext_of_class hq2
        clear hq2
        obtain ⟨hc2, hf2, hz2⟩ := bcell3 hb2
        try simp at hz2
        have hB2 := hB.ext hb2
        have hO2 := hO.ext hb2
        have l2 := hB2.lt
        clear hc2 hf2 hz2
        go_wp2_with (at_builtin; refine wpList_push (w0 := w) (base := w.heap.size + 1) (xs := droppedL h ms k) encI64 (by rfl) _ _ 41 (.int .i64 0) 8 (by rfl) Tryd.underlying41 info_i64 (by rfl) (k : Int) (by rfl) (by rfl) hO2 (by omega) (by omega) (hw.trans hb2) (by omega) (by omega) ?_)
        intro v3 w3 hO3 hb3 hg3 _
        go_wp2
        go_roundg (ms.length - (k + 1))
        case rel => exact ⟨k + 1, rfl, hkl, rfl, hb3, (hg3.block _ hB2.lt (fun e => by have := (hO2.lt w.heap.size e.symm).1; omega)).trans hB2, by rw [hv.out]; exact hO3⟩
        case measure => omega
      | false =>
        rw [hq] at hcall
        have hv := hmiss hq
        clear hhit hmiss hq
        go_wp2
        refine wp_region_ext (by kernel_rfl) (by kernel_rfl) ?_
        repeat (first | go_big_quiet_step ((go_at_call 81; with_reducible exact Calls.ext_all (fun W _ => hcall W))) | quiet_step ((go_at_call 81; with_reducible exact Calls.ext_all (fun W _ => hcall W))))
        refine wpQuiet_nil ?_
        intro w2 hq2
        have hb2 := ext_of_class hq2
        clear hq2
        obtain ⟨hc2, hf2, hz2⟩ := bcell3 hb2
        try simp at hz2
        go_wp2
        go_roundg (ms.length - (k + 1))
        case rel => exact ⟨k + 1, rfl, hkl, rfl, by ((repeat (first | with_reducible exact Ext.refl _ | with_reducible exact hw | with_reducible exact hb9 | with_reducible exact hb8 | with_reducible exact hb7 | with_reducible exact hb6 | with_reducible exact hb5 | with_reducible exact hb4 | with_reducible exact hb3 | with_reducible exact hb2 | with_reducible exact hb1 | with_reducible refine Ext.alloc ?_ _ | with_reducible refine Ext.drew ?_ | ((with_reducible refine Ext.set ?_ ?_ _); focus (dsimp only; omega)) | with_reducible refine Ext.trans ?_ hb9 | with_reducible refine Ext.trans ?_ hb8 | with_reducible refine Ext.trans ?_ hb7 | with_reducible refine Ext.trans ?_ hb6 | with_reducible refine Ext.trans ?_ hb5 | with_reducible refine Ext.trans ?_ hb4 | with_reducible refine Ext.trans ?_ hb3 | with_reducible refine Ext.trans ?_ hb2 | with_reducible refine Ext.trans ?_ hb1 | with_reducible refine Ext.trans ?_ hw))), hB.ext hb2, by rw [hv.out]; exact hO.ext hb2⟩
        case measure => omega
    · obtain rfl : k = ms.length := by omega
      go_wp2
      go_ret
      exact ⟨_, rfl, hO.lower (by omega), hw⟩
set_option maxHeartbeats 1000000 in
theorem spec_DroppedOf (x : Mx) (hx : MxIn x) (ms : List Mask) (B : Option Addr) (cap' : Nat) (ws : List ByteArray) (A : Option Addr) (cap : Nat) (w : World) (hS : Rd encMask w B ms) (hm : ms.length ≤ 1048576) (hR : Rd encStr w A ws) (hn : ws.length ≤ 1048576) (hok : ∀ x ∈ ws, StrIn x) :
    Calls Tryd.prog 22 #[.agg #[.int .i16 x.st, .int .i16 x.sz, .int .i16 x.per], .slice B ms.length cap', .slice A ws.length cap] w fun e w' => ∃ v, e = .returned (.tuple #[v, .int .i64 (dropF x ms ws).2]) ∧ Ow encI64 2 w' w.heap.size v (dropF x ms ws).1 ∧ Ext w w' := by
  have hask := fun (W : World) (h : MixAt W w.heap.size 0 x) (hE : Ext w W) => spec_l03Asked x hx w.heap.size 0 ms B cap' ws A cap 12 W h (hS.ext hE) hm (hR.ext hE) hn hok
  have hall := fun (hq : mixB x = true) (W : World) (h : MixAt W w.heap.size 0 x) (hE : Ext w W) => spec_l03All x hq ws A cap w.heap.size 0 W h (hR.ext hE) hn hok
  have hok1 := drop_ok (x := x) (ms := ms) (ws := ws)
  have hno := drop_no (x := x) (ms := ms) (ws := ws)
  have hz := ask_zero (x := x) (ms := ms) (ws := ws) (most := 12)
  have hM0 : ∀ W, BoxAt W w.heap.size #[.int .i16 x.st, .int .i16 x.sz, .int .i16 x.per] 30 → MixAt W w.heap.size 0 x := fun W h => ⟨h.cell 0, h.cell 1, h.cell 2⟩
  generalize askF x ms ws 12 = c at hask hok1 hno hz
  by_cases hc : c = 0
  · subst hc
    have hmx := (hz rfl).1
    have hv := hd (hok1 rfl)
    have hall := hall hmx
    clear hok1 hno hz
    generalize wallM x ws = h at hall hv
    go_enter Tryd.func22, Tryd.ntmps22
    go_wp2_with fail
    refine Calls.mono (hask _ (hM0 _ (BoxAt.new' rfl)) (by ((repeat (first | with_reducible exact Ext.refl _ | with_reducible exact hw | with_reducible exact hb9 | with_reducible exact hb8 | with_reducible exact hb7 | with_reducible exact hb6 | with_reducible exact hb5 | with_reducible exact hb4 | with_reducible exact hb3 | with_reducible exact hb2 | with_reducible exact hb1 | with_reducible refine Ext.alloc ?_ _ | with_reducible refine Ext.drew ?_ | ((with_reducible refine Ext.set ?_ ?_ _); focus (dsimp only; omega)) | with_reducible refine Ext.trans ?_ hb9 | with_reducible refine Ext.trans ?_ hb8 | with_reducible refine Ext.trans ?_ hb7 | with_reducible refine Ext.trans ?_ hb6 | with_reducible refine Ext.trans ?_ hb5 | with_reducible refine Ext.trans ?_ hb4 | with_reducible refine Ext.trans ?_ hb3 | with_reducible refine Ext.trans ?_ hb2 | with_reducible refine Ext.trans ?_ hb1 | with_reducible refine Ext.trans ?_ hw))))) ?_
    rintro e w1 ⟨rfl, hb1⟩
    have hX := (BoxAt.new' (w := w) rfl : BoxAt _ w.heap.size #[.int .i16 x.st, .int .i16 x.sz, .int .i16 x.per] 30).ext hb1
    have hw1 : Ext w w1 := ((Ext.refl _).alloc _).trans hb1
    clear hb1
    go_wp2_with fail
    refine Calls.mono (hall _ (hM0 _ hX) hw1) ?_
    rintro e w2 ⟨rfl, hb2⟩
    have hw2 := hw1.trans hb2
    go_wp2_with fail
    refine Calls.mono (spec_l03Dropped h ms B cap' _ (hS.ext hw2) hm) ?_
    rintro e w3 ⟨v3, rfl, hO3, hb3⟩
    go_wp2
    refine bodyPost_ret (v := .tuple #[v3, .int .i64 0]) (by simp [results, Tryd.results22, go_sem]) rfl ⟨_, by rw [hv.out], by rw [hv.out]; exact hO3.lower hw2.size, hw2.trans hb3⟩
  · have hv := hd (hno hc)
    have hcb : (c != 0) = true := by simp [hc]
    clear hok1 hno hz
    go_enter Tryd.func22, Tryd.ntmps22
    go_wp2_with fail
    refine Calls.mono (hask _ (hM0 _ (BoxAt.new' rfl)) (by ((repeat (first | with_reducible exact Ext.refl _ | with_reducible exact hw | with_reducible exact hb9 | with_reducible exact hb8 | with_reducible exact hb7 | with_reducible exact hb6 | with_reducible exact hb5 | with_reducible exact hb4 | with_reducible exact hb3 | with_reducible exact hb2 | with_reducible exact hb1 | with_reducible refine Ext.alloc ?_ _ | with_reducible refine Ext.drew ?_ | ((with_reducible refine Ext.set ?_ ?_ _); focus (dsimp only; omega)) | with_reducible refine Ext.trans ?_ hb9 | with_reducible refine Ext.trans ?_ hb8 | with_reducible refine Ext.trans ?_ hb7 | with_reducible refine Ext.trans ?_ hb6 | with_reducible refine Ext.trans ?_ hb5 | with_reducible refine Ext.trans ?_ hb4 | with_reducible refine Ext.trans ?_ hb3 | with_reducible refine Ext.trans ?_ hb2 | with_reducible refine Ext.trans ?_ hb1 | with_reducible refine Ext.trans ?_ hw))))) ?_
    rintro e w1 ⟨rfl, hb1⟩
    have hw1 : Ext w w1 := ((Ext.refl _).alloc _).trans hb1
    go_wp2
    refine bodyPost_ret (v := .tuple #[.slice (some ⟨w1.heap.size, 0, none⟩) 0 0, .int .i64 c]) (by simp [results, Tryd.results22, go_sem]) rfl ⟨_, by rw [hv.out], by rw [hv.out]; exact Ow.made0 rfl hw1.size, hw1.alloc _⟩
set_option maxHeartbeats 1000000 in
theorem impl_DroppedOf (x : Mx) (hx : MxIn x) (ms : List Mask) (B : Option Addr) (cap' : Nat) (ws : List ByteArray) (A : Option Addr) (cap : Nat) (w : World) (hS : Rd encMask w B ms) (hm : ms.length ≤ 1048576) (hR : Rd encStr w A ws) (hn : ws.length ≤ 1048576) (hok : ∀ x ∈ ws, StrIn x) :
    Calls Tryd.prog 25 #[.agg #[.int .i16 x.st, .int .i16 x.sz, .int .i16 x.per], .slice B ms.length cap', .slice A ws.length cap] w fun e w' => ∃ v, e = .returned (.tuple #[v, .int .i64 (dropF x ms ws).2]) ∧ Ow encI64 2 w' w.heap.size v (dropF x ms ws).1 ∧ Ext w w' := by
  have hcf := fun (W : World) (hE : Ext w W) => slices_ContainsFunc_DroppedOf ms B cap' W (hS.ext hE) hm
  have hcw := fun (W : World) (hE : Ext w W) => impl_checkWords x hx ws A cap W (hR.ext hE) hn hok
  have hho := fun (hq : mixB x = true) (W : World) (hE : Ext w W) => impl_holesOf x hq ws A cap W (hR.ext hE) hn hok
  have hok1 := drop_ok (x := x) (ms := ms) (ws := ws)
  have hno := drop_no (x := x) (ms := ms) (ws := ws)
  have k1 := ask_masks (x := x) (ms := ms) (ws := ws) (most := 12)
  have k2 := ask_nil (x := x) (ms := ms) (ws := ws) (most := 12)
  have k3 := ask_long (x := x) (ms := ms) (ws := ws) (most := 12)
  have k4 := ask_good (x := x) (ms := ms) (ws := ws) (most := 12)
  have hz := ask_zero (x := x) (ms := []) (ws := ws) (most := 12)
  obtain ⟨st, sz, per⟩ := x
  dsimp only at hcw hho
  clear hx
  have hx := @ExtOf.cell
  cases ha : ms.all isMaskB with
  | false =>
    rw [ha] at hcf
    have e1 := k1 ha
    have hv := hd (hno (by rw [e1]; decide))
    rw [e1] at hv
    clear k1 k2 k3 k4 hok1 hno hz e1
    go_enter Tryd.func25, Tryd.ntmps25
    go_wp2_with fail
    refine Calls.mono (hcf _ (by ((repeat (first | with_reducible exact Ext.refl _ | with_reducible exact hw | with_reducible exact hb9 | with_reducible exact hb8 | with_reducible exact hb7 | with_reducible exact hb6 | with_reducible exact hb5 | with_reducible exact hb4 | with_reducible exact hb3 | with_reducible exact hb2 | with_reducible exact hb1 | with_reducible refine Ext.alloc ?_ _ | with_reducible refine Ext.drew ?_ | ((with_reducible refine Ext.set ?_ ?_ _); focus (dsimp only; omega)) | with_reducible refine Ext.trans ?_ hb9 | with_reducible refine Ext.trans ?_ hb8 | with_reducible refine Ext.trans ?_ hb7 | with_reducible refine Ext.trans ?_ hb6 | with_reducible refine Ext.trans ?_ hb5 | with_reducible refine Ext.trans ?_ hb4 | with_reducible refine Ext.trans ?_ hb3 | with_reducible refine Ext.trans ?_ hb2 | with_reducible refine Ext.trans ?_ hb1 | with_reducible refine Ext.trans ?_ hw))))) ?_
    rintro e w1 ⟨rfl, hb1⟩
    have hw1 : Ext w w1 := ((Ext.refl _).alloc _).trans hb1
    go_wp2
    refine bodyPost_ret (v := .tuple #[.slice none 0 0, .int .i64 1]) (by simp [results, Tryd.results25, go_sem]) rfl ⟨_, by rw [hv.out], by rw [hv.out]; exact Ow.nil _ _ _ _, hw1⟩
  | true =>
    rw [ha] at hcf
    have k2 := k2 ha
    have k3 := k3 ha
    have k4 := k4 ha
    generalize askF ⟨st, sz, per⟩ [] ws 12 = c at hcw k2 k3 k4 hz
    by_cases hc : c = 0
    · subst hc
      have hmx := (hz rfl).1
      have hho := hho hmx
      by_cases h60 : ms.length ≤ 60
      · have hv := hd (hok1 (k4 rfl h60))
        have hlen := droppedL_len (wallM ⟨st, sz, per⟩ ws) ms
        have hhit := fun k (h : k < ms.length) => droppedL_hit (h := wallM ⟨st, sz, per⟩ ws) h
        have hmiss := fun k (h : k < ms.length) => droppedL_miss (h := wallM ⟨st, sz, per⟩ ws) h
        clear k1 k2 k3 k4 hok1 hno hz
        generalize wallM ⟨st, sz, per⟩ ws = h at hho hv hlen hhit hmiss
        go_enter Tryd.func25, Tryd.ntmps25
        go_wp2_with fail
        refine Calls.mono (hcf _ (by ((repeat (first | with_reducible exact Ext.refl _ | with_reducible exact hw | with_reducible exact hb9 | with_reducible exact hb8 | with_reducible exact hb7 | with_reducible exact hb6 | with_reducible exact hb5 | with_reducible exact hb4 | with_reducible exact hb3 | with_reducible exact hb2 | with_reducible exact hb1 | with_reducible refine Ext.alloc ?_ _ | with_reducible refine Ext.drew ?_ | ((with_reducible refine Ext.set ?_ ?_ _); focus (dsimp only; omega)) | with_reducible refine Ext.trans ?_ hb9 | with_reducible refine Ext.trans ?_ hb8 | with_reducible refine Ext.trans ?_ hb7 | with_reducible refine Ext.trans ?_ hb6 | with_reducible refine Ext.trans ?_ hb5 | with_reducible refine Ext.trans ?_ hb4 | with_reducible refine Ext.trans ?_ hb3 | with_reducible refine Ext.trans ?_ hb2 | with_reducible refine Ext.trans ?_ hb1 | with_reducible refine Ext.trans ?_ hw))))) ?_
        rintro e w1 ⟨rfl, hb1⟩
        have hX : BoxAt w1 w.heap.size #[.int .i16 st, .int .i16 sz, .int .i16 per] 30 := (BoxAt.new' rfl).ext hb1
        have hw1 : Ext w w1 := ((Ext.refl _).alloc _).trans hb1
        clear hb1
        have x0 : w1.cell? ⟨w.heap.size, 0, none⟩ = some (.int .i16 st) := hX.cell 0
        have x1 : w1.cell? ⟨w.heap.size, 1, none⟩ = some (.int .i16 sz) := hX.cell 1
        have x2 : w1.cell? ⟨w.heap.size, 2, none⟩ = some (.int .i16 per) := hX.cell 2
        have lX := hX.lt
        go_wp2_with fail
        refine Calls.mono (hcw _ hw1) ?_
        rintro e w2 ⟨rfl, hb2⟩
        have hw2 := hw1.trans hb2
        have hX := hX.ext hb2
        clear x0 x1 x2 lX hb2 hw1
        go_wp2
        go_loopg [9, 26] ms.length (fun g v i wr => ∃ k : Nat, g = ms.length - k ∧ k ≤ ms.length ∧ i = .int .i64 k ∧ Ext w2 wr ∧ Ow encI64 2 wr w2.heap.size v (droppedL h ms k))
        case atStart => exact ⟨0, by omega, by omega, rfl, (Ext.refl _).alloc _, by rw [droppedL_zero]; exact Ow.made0 rfl (Nat.le_refl _)⟩
        case round =>
          obtain ⟨k, hg, hk, rfl, hw, hO⟩ := hrel
          by_cases hkl : k < ms.length
          · obtain ⟨b, off, hA, hlt, _⟩ := hS k hkl
            subst hA
            obtain ⟨m0, m1, m2⟩ := ((hS.ext hw2).ext hw).mask k hkl
            have hX := hX.ext hw
            have x0 : wr.cell? ⟨w.heap.size, 0, none⟩ = some (.int .i16 st) := hX.cell 0
            have x1 : wr.cell? ⟨w.heap.size, 1, none⟩ = some (.int .i16 sz) := hX.cell 1
            have x2 : wr.cell? ⟨w.heap.size, 2, none⟩ = some (.int .i16 per) := hX.cell 2
            have lX := hX.lt
            have hl := hlen k
            have hcall := fun W => impl_IsWithin h ms[k] W
            have hhit := fun q => hd (hhit k hkl q)
            have hmiss := fun q => hd (hmiss k hkl q)
            have hwr := hw2.trans hw
            cases hq : mwin h ms[k] with
            | true =>
              rw [hq] at hcall
              have hv := hhit hq
              clear hhit hmiss hq
              go_wp2
              refine wp_region_ext (by kernel_rfl) (by kernel_rfl) ?_
              repeat (first | go_big_quiet_step ((first | (go_at_call 47; with_reducible exact Calls.ext_all (fun W hE => hho W (Ext.trans (by (first | exact hwr | exact hwr.alloc _ | ((repeat (first | with_reducible exact Ext.refl _ | with_reducible exact hw | with_reducible exact hb9 | with_reducible exact hb8 | with_reducible exact hb7 | with_reducible exact hb6 | with_reducible exact hb5 | with_reducible exact hb4 | with_reducible exact hb3 | with_reducible exact hb2 | with_reducible exact hb1 | with_reducible refine Ext.alloc ?_ _ | with_reducible refine Ext.drew ?_ | ((with_reducible refine Ext.set ?_ ?_ _); focus (dsimp only; omega)) | with_reducible refine Ext.trans ?_ hb9 | with_reducible refine Ext.trans ?_ hb8 | with_reducible refine Ext.trans ?_ hb7 | with_reducible refine Ext.trans ?_ hb6 | with_reducible refine Ext.trans ?_ hb5 | with_reducible refine Ext.trans ?_ hb4 | with_reducible refine Ext.trans ?_ hb3 | with_reducible refine Ext.trans ?_ hb2 | with_reducible refine Ext.trans ?_ hb1 | with_reducible refine Ext.trans ?_ hw))))) hE))) | (go_at_call 56; with_reducible exact Calls.ext_all (fun W _ => hcall W)))) | quiet_step ((first | (go_at_call 47; with_reducible exact Calls.ext_all (fun W hE => hho W (Ext.trans (by (first | exact hwr | exact hwr.alloc _ | ((repeat (first | with_reducible exact Ext.refl _ | with_reducible exact hw | with_reducible exact hb9 | with_reducible exact hb8 | with_reducible exact hb7 | with_reducible exact hb6 | with_reducible exact hb5 | with_reducible exact hb4 | with_reducible exact hb3 | with_reducible exact hb2 | with_reducible exact hb1 | with_reducible refine Ext.alloc ?_ _ | with_reducible refine Ext.drew ?_ | ((with_reducible refine Ext.set ?_ ?_ _); focus (dsimp only; omega)) | with_reducible refine Ext.trans ?_ hb9 | with_reducible refine Ext.trans ?_ hb8 | with_reducible refine Ext.trans ?_ hb7 | with_reducible refine Ext.trans ?_ hb6 | with_reducible refine Ext.trans ?_ hb5 | with_reducible refine Ext.trans ?_ hb4 | with_reducible refine Ext.trans ?_ hb3 | with_reducible refine Ext.trans ?_ hb2 | with_reducible refine Ext.trans ?_ hb1 | with_reducible refine Ext.trans ?_ hw))))) hE))) | (go_at_call 56; with_reducible exact Calls.ext_all (fun W _ => hcall W)))))
              refine wpQuiet_nil ?_
              intro w5 hq5
              have hb5 := ext_of_class hq5
              clear hq5
              obtain ⟨hc5, hf5, hz5⟩ := bcell3 hb5
              try simp at hz5
              have hb5 : Ext wr w5 := ((Ext.refl _).alloc (.cells #[.int .u64 (lo ms[k]), .int .u64 (hi ms[k])] 53)).trans hb5
              have hO5 := hO.ext hb5
              have hW5 := hw.trans hb5
              clear hc5 hf5 hz5 hb5 hO
              go_wp2_with (at_builtin; refine wpList_push2 (w0 := w2) (base := w2.heap.size) (xs := droppedL h ms k) encI64 (by rfl) _ _ 41 (.int .i64 0) 8 (by rfl) Tryd.underlying41 info_i64 (by rfl) ((k : Int)) (by rfl) (by rfl) (by simp) (hO5) ((hW5 : Ext w2 _).size) (Nat.le_refl _) (hW5) (by omega) (by omega) ?_)
              intro v6 w6 hO6 hb6 hg6 _
              go_wp2
              go_roundg (ms.length - (k + 1))
              case rel => exact ⟨k + 1, rfl, hkl, by simp, hb6, by rw [hv.out]; exact hO6⟩
              case measure => omega
            | false =>
              rw [hq] at hcall
              have hv := hmiss hq
              clear hhit hmiss hq
              go_wp2
              refine wp_region_ext (by kernel_rfl) (by kernel_rfl) ?_
              repeat (first | go_big_quiet_step ((first | (go_at_call 47; with_reducible exact Calls.ext_all (fun W hE => hho W (Ext.trans (by (first | exact hwr | exact hwr.alloc _ | ((repeat (first | with_reducible exact Ext.refl _ | with_reducible exact hw | with_reducible exact hb9 | with_reducible exact hb8 | with_reducible exact hb7 | with_reducible exact hb6 | with_reducible exact hb5 | with_reducible exact hb4 | with_reducible exact hb3 | with_reducible exact hb2 | with_reducible exact hb1 | with_reducible refine Ext.alloc ?_ _ | with_reducible refine Ext.drew ?_ | ((with_reducible refine Ext.set ?_ ?_ _); focus (dsimp only; omega)) | with_reducible refine Ext.trans ?_ hb9 | with_reducible refine Ext.trans ?_ hb8 | with_reducible refine Ext.trans ?_ hb7 | with_reducible refine Ext.trans ?_ hb6 | with_reducible refine Ext.trans ?_ hb5 | with_reducible refine Ext.trans ?_ hb4 | with_reducible refine Ext.trans ?_ hb3 | with_reducible refine Ext.trans ?_ hb2 | with_reducible refine Ext.trans ?_ hb1 | with_reducible refine Ext.trans ?_ hw))))) hE))) | (go_at_call 56; with_reducible exact Calls.ext_all (fun W _ => hcall W)))) | quiet_step ((first | (go_at_call 47; with_reducible exact Calls.ext_all (fun W hE => hho W (Ext.trans (by (first | exact hwr | exact hwr.alloc _ | ((repeat (first | with_reducible exact Ext.refl _ | with_reducible exact hw | with_reducible exact hb9 | with_reducible exact hb8 | with_reducible exact hb7 | with_reducible exact hb6 | with_reducible exact hb5 | with_reducible exact hb4 | with_reducible exact hb3 | with_reducible exact hb2 | with_reducible exact hb1 | with_reducible refine Ext.alloc ?_ _ | with_reducible refine Ext.drew ?_ | ((with_reducible refine Ext.set ?_ ?_ _); focus (dsimp only; omega)) | with_reducible refine Ext.trans ?_ hb9 | with_reducible refine Ext.trans ?_ hb8 | with_reducible refine Ext.trans ?_ hb7 | with_reducible refine Ext.trans ?_ hb6 | with_reducible refine Ext.trans ?_ hb5 | with_reducible refine Ext.trans ?_ hb4 | with_reducible refine Ext.trans ?_ hb3 | with_reducible refine Ext.trans ?_ hb2 | with_reducible refine Ext.trans ?_ hb1 | with_reducible refine Ext.trans ?_ hw))))) hE))) | (go_at_call 56; with_reducible exact Calls.ext_all (fun W _ => hcall W)))))
              refine wpQuiet_nil ?_
              intro w5 hq5
              have hb5 := ext_of_class hq5
              clear hq5
              obtain ⟨hc5, hf5, hz5⟩ := bcell3 hb5
              try simp at hz5
              have hb5 : Ext wr w5 := ((Ext.refl _).alloc (.cells #[.int .u64 (lo ms[k]), .int .u64 (hi ms[k])] 53)).trans hb5
              go_wp2
              go_roundg (ms.length - (k + 1))
              case rel => exact ⟨k + 1, rfl, hkl, by simp, hw.trans hb5, by rw [hv.out]; exact hO.ext hb5⟩
              case measure => omega
          · obtain rfl : k = ms.length := by omega
            go_wp2
            refine bodyPost_ret (v := .tuple #[_, .int .i64 0]) (by simp [results, Tryd.results25, go_sem]; rfl) rfl ⟨_, by rw [hv.out], by rw [hv.out]; exact hO.lower hw2.size, hw2.trans hw⟩
      · have hv := hd (hno (by rw [k3 rfl h60]; decide))
        rw [k3 rfl h60] at hv
        clear k1 k2 k3 k4 hok1 hno hz
        go_enter Tryd.func25, Tryd.ntmps25
        go_wp2_with fail
        refine Calls.mono (hcf _ (by ((repeat (first | with_reducible exact Ext.refl _ | with_reducible exact hw | with_reducible exact hb9 | with_reducible exact hb8 | with_reducible exact hb7 | with_reducible exact hb6 | with_reducible exact hb5 | with_reducible exact hb4 | with_reducible exact hb3 | with_reducible exact hb2 | with_reducible exact hb1 | with_reducible refine Ext.alloc ?_ _ | with_reducible refine Ext.drew ?_ | ((with_reducible refine Ext.set ?_ ?_ _); focus (dsimp only; omega)) | with_reducible refine Ext.trans ?_ hb9 | with_reducible refine Ext.trans ?_ hb8 | with_reducible refine Ext.trans ?_ hb7 | with_reducible refine Ext.trans ?_ hb6 | with_reducible refine Ext.trans ?_ hb5 | with_reducible refine Ext.trans ?_ hb4 | with_reducible refine Ext.trans ?_ hb3 | with_reducible refine Ext.trans ?_ hb2 | with_reducible refine Ext.trans ?_ hb1 | with_reducible refine Ext.trans ?_ hw))))) ?_
        rintro e w1 ⟨rfl, hb1⟩
        have hX : BoxAt w1 w.heap.size #[.int .i16 st, .int .i16 sz, .int .i16 per] 30 := (BoxAt.new' rfl).ext hb1
        have hw1 : Ext w w1 := ((Ext.refl _).alloc _).trans hb1
        clear hb1
        have x0 : w1.cell? ⟨w.heap.size, 0, none⟩ = some (.int .i16 st) := hX.cell 0
        have x1 : w1.cell? ⟨w.heap.size, 1, none⟩ = some (.int .i16 sz) := hX.cell 1
        have x2 : w1.cell? ⟨w.heap.size, 2, none⟩ = some (.int .i16 per) := hX.cell 2
        have lX := hX.lt
        go_wp2_with fail
        refine Calls.mono (hcw _ hw1) ?_
        rintro e w2 ⟨rfl, hb2⟩
        go_wp2
        refine bodyPost_ret (v := .tuple #[.slice none 0 0, .int .i64 2]) (by simp [results, Tryd.results25, go_sem]) rfl ⟨_, by rw [hv.out], by rw [hv.out]; exact Ow.nil _ _ _ _, hw1.trans hb2⟩
    · have hv := hd (hno (by rw [k2 hc]; exact hc))
      rw [k2 hc] at hv
      have hcb : (c != 0) = true := by simp [hc]
      clear k1 k2 k3 k4 hok1 hno hz
      go_enter Tryd.func25, Tryd.ntmps25
      go_wp2_with fail
      refine Calls.mono (hcf _ (by ((repeat (first | with_reducible exact Ext.refl _ | with_reducible exact hw | with_reducible exact hb9 | with_reducible exact hb8 | with_reducible exact hb7 | with_reducible exact hb6 | with_reducible exact hb5 | with_reducible exact hb4 | with_reducible exact hb3 | with_reducible exact hb2 | with_reducible exact hb1 | with_reducible refine Ext.alloc ?_ _ | with_reducible refine Ext.drew ?_ | ((with_reducible refine Ext.set ?_ ?_ _); focus (dsimp only; omega)) | with_reducible refine Ext.trans ?_ hb9 | with_reducible refine Ext.trans ?_ hb8 | with_reducible refine Ext.trans ?_ hb7 | with_reducible refine Ext.trans ?_ hb6 | with_reducible refine Ext.trans ?_ hb5 | with_reducible refine Ext.trans ?_ hb4 | with_reducible refine Ext.trans ?_ hb3 | with_reducible refine Ext.trans ?_ hb2 | with_reducible refine Ext.trans ?_ hb1 | with_reducible refine Ext.trans ?_ hw))))) ?_
      rintro e w1 ⟨rfl, hb1⟩
      have hX : BoxAt w1 w.heap.size #[.int .i16 st, .int .i16 sz, .int .i16 per] 30 := (BoxAt.new' rfl).ext hb1
      have hw1 : Ext w w1 := ((Ext.refl _).alloc _).trans hb1
      clear hb1
      have x0 : w1.cell? ⟨w.heap.size, 0, none⟩ = some (.int .i16 st) := hX.cell 0
      have x1 : w1.cell? ⟨w.heap.size, 1, none⟩ = some (.int .i16 sz) := hX.cell 1
      have x2 : w1.cell? ⟨w.heap.size, 2, none⟩ = some (.int .i16 per) := hX.cell 2
      have lX := hX.lt
      go_wp2_with fail
      refine Calls.mono (hcw _ hw1) ?_
      rintro e w2 ⟨rfl, hb2⟩
      go_wp2
      refine bodyPost_ret (v := .tuple #[.slice none 0 0, .int .i64 c]) (by simp [results, Tryd.results25, go_sem]) rfl ⟨_, by rw [hv.out], by rw [hv.out]; exact Ow.nil _ _ _ _, hw1.trans hb2⟩
end Go.Proofs.YtbmompanhigmnaaDoor
