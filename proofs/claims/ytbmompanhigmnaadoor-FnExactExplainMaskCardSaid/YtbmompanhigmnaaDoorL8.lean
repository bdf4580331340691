/-
  Slices of texts: how they lie, and contracts of the laws' functions on them.
-/
import Derived.Test.YtbmompanhigmnaaDoorMI
import Derived.Test.YtbmompanhigmnaaDoorL5
set_option linter.unusedVariables false
set_option linter.unusedSimpArgs false
set_option maxRecDepth 100000
namespace Go.Proofs.YtbmompanhigmnaaDoor
open Go.RowKit
/-- Texts as elements. -/
def encStr : Enc ByteArray where
  enc x := [.string x]
  sz := 1
  len _ := rfl
  one m u hu := by
    simp only [List.mem_cons, List.not_mem_nil, or_false] at hu
    subst hu
    rfl
  pos := by decide
theorem Rd.str {w : World} {b off : Nat} {xs : List ByteArray} (h : Rd encStr w (some ⟨b, off, none⟩) xs) (k : Nat) (hk : k < xs.length) :
    w.cell? ⟨b, off + k, none⟩ = some (.string xs[k]) := by
  obtain ⟨b', off', e1, hlt, hc⟩ := h k hk
  simp only [Option.some.injEq, Addr.mk.injEq, and_true] at e1
  obtain ⟨rfl, rfl⟩ := e1
  have := hc 0 _ rfl
  simpa [encStr] using this
def strB (x y : ByteArray) : Bool := x.toList == y.toList
theorem strB_refl (x : ByteArray) : strB x x = true := by simp [strB]
theorem strB_iff (x y : ByteArray) : strB x y = true ↔ x = y := by
  unfold strB
  rw [beq_iff_eq]
  constructor
  · intro h
    rw [ByteArray.toList_eq, ByteArray.toList_eq] at h
    cases x; cases y
    simp at h
    rw [h]
  · intro h; rw [h]
theorem info_str : (Tryd.prog.info? 9).map (fun i => (i.zero, i.size, i.bytes)) = some (some (.string ⟨#[]⟩), encStr.sz, 16) := by kernel_rfl
theorem info_str2 : (Tryd.prog.info? 9).map (·.size) = some encStr.sz := by kernel_rfl
set_option maxHeartbeats 400000 in
theorem laws_toStringS (xs : List ByteArray) (A : Option Addr) (cap : Nat) (w : World) (hR : Rd encStr w A xs) (hn : xs.length ≤ 1048576) :
    Calls Tryd.prog 24 #[.slice A xs.length cap] w fun e w' => ∃ v, e = .returned v ∧ Ow encStr 9 w' w.heap.size v xs ∧ Ext w w' := by
  go_enter Tryd.func24, Tryd.ntmps24
  go_wp2_with (at_make; refine wpList_made encStr (by rfl) _ _ 38 (by rfl) (⟨#[]⟩ : ByteArray) (.string ⟨#[]⟩) 16 Tryd.underlying38 info_str (by rfl) .i64 .i64 xs.length (by rfl) (by rfl) (by omega) (by omega) (Nat.le_refl _) (Nat.le_refl _) (Ext.refl w) ?_)
  intro w1 hO hb1 hg1
  go_wp2
  go_loopg [4] xs.length (fun g i wr => ∃ k : Nat, g = xs.length - k ∧ k ≤ xs.length ∧ i = .int .i64 k ∧ Ext w wr ∧ Ow encStr 9 wr w.heap.size (.slice (some ⟨w.heap.size, 0, none⟩) xs.length xs.length) (fill xs ⟨#[]⟩ k))
  case atStart => exact ⟨0, by omega, by omega, rfl, hb1, by rw [fill_zero]; exact hO⟩
  case round =>
    obtain ⟨k, hg, hk, rfl, hw, hO⟩ := hrel
    by_cases hkl : k < xs.length
    · obtain ⟨b, off, hA, hlt, _⟩ := hR k hkl
      subst hA
      have m0 := (hR.ext hw).str k hkl
      have hfl : k < (fill xs (⟨#[]⟩ : ByteArray) k).length := by unfold fill; rw [List.length_append, List.length_take, List.length_replicate]; omega
      have c0 := hO.rd.str k hfl
      rw [Nat.zero_add] at c0
      have f0 := hO.frozen k
      have hbl := World.block_lt_of_cell? _ _ c0
      dsimp only at hbl
      have z0 := hO.set1 k 0 (.string xs[k]) xs[k] hfl (by decide) rfl
      rw [show k * encStr.sz + 0 = k from Nat.mul_one k, fill_set xs ⟨#[]⟩ k hkl] at z0
      clear hO
      go_wp2
      go_roundg (xs.length - (k + 1))
      case rel => exact ⟨k + 1, rfl, hkl, rfl, by ((repeat (first | with_reducible exact Ext.refl _ | with_reducible exact hw | with_reducible exact hb9 | with_reducible exact hb8 | with_reducible exact hb7 | with_reducible exact hb6 | with_reducible exact hb5 | with_reducible exact hb4 | with_reducible exact hb3 | with_reducible exact hb2 | with_reducible exact hb1 | with_reducible refine Ext.alloc ?_ _ | with_reducible refine Ext.drew ?_ | ((with_reducible refine Ext.set ?_ ?_ _); focus (dsimp only; omega)) | with_reducible refine Ext.trans ?_ hb9 | with_reducible refine Ext.trans ?_ hb8 | with_reducible refine Ext.trans ?_ hb7 | with_reducible refine Ext.trans ?_ hb6 | with_reducible refine Ext.trans ?_ hb5 | with_reducible refine Ext.trans ?_ hb4 | with_reducible refine Ext.trans ?_ hb3 | with_reducible refine Ext.trans ?_ hb2 | with_reducible refine Ext.trans ?_ hb1 | with_reducible refine Ext.trans ?_ hw))), z0⟩
      case measure => omega
    · obtain rfl : k = xs.length := by omega
      go_wp2
      go_ret
      rw [fill_full] at hO
      exact ⟨_, rfl, hO, hw⟩
set_option maxHeartbeats 400000 in
theorem laws_eqStringS (xs ys : List ByteArray) (A B : Option Addr) (cap cap' : Nat) (w : World) (hR : Rd encStr w A xs) (hS : Rd encStr w B ys) (hn : xs.length ≤ 1048576) (hm : ys.length ≤ 1048576) :
    Calls Tryd.prog 27 #[.slice A xs.length cap, .slice B ys.length cap'] w fun e w' => e = .returned (.bool (eqL strB xs ys)) ∧ Ext w w' := by
  have hx := @ExtOf.cell
  by_cases hl : xs.length = ys.length
  · go_enter Tryd.func27, Tryd.ntmps27
    go_wp2
    go_loopg [5] xs.length (fun g i wr => ∃ k : Nat, g = xs.length - k ∧ k ≤ xs.length ∧ i = .int .i64 k ∧ Ext w wr ∧ eqL strB xs ys = eqL strB (xs.drop k) (ys.drop k))
    case atStart => exact ⟨0, by omega, by omega, rfl, Ext.refl _, rfl⟩
    case round =>
      obtain ⟨k, hg, hk, rfl, hw, hQ⟩ := hrel
      by_cases hkl : k < xs.length
      · have hky : k < ys.length := by omega
        rw [eqL_drop strB xs ys k hkl hky] at hQ
        obtain ⟨b, off, hA, hlt, _⟩ := hR k hkl
        subst hA
        obtain ⟨b', off', hB, hlt', _⟩ := hS k hky
        subst hB
        have m0 := (hR.ext hw).str k hkl
        have n0 := (hS.ext hw).str k hky
        have hs := hw.size
        have hlt1 : b < wr.heap.size := by omega
        have hlt2 : b' < wr.heap.size := by omega
        cases hq : strB xs[k] ys[k] with
        | true =>
          rw [hq, Bool.true_and] at hQ
          have hq2 : (xs[k].toList == ys[k].toList) = true := hq
          have hq3 : (xs[k].toList != ys[k].toList) = false := by rw [bne, hq2]; rfl
          clear hq
          go_wp2
          refine wp_region_ext (by kernel_rfl) (by kernel_rfl) ?_
          repeat (first | go_big_quiet_step (fail) | quiet_step (fail))
          refine wpQuiet_nil ?_
          intro w1 hq1
          have hb1 := ext_of_class hq1
          clear hq1
          obtain ⟨hc1, hf1, hz1⟩ := bcell3 hb1
          try simp at hz1
          go_wp2
          go_roundg (xs.length - (k + 1))
          case rel => exact ⟨k + 1, rfl, hkl, rfl, by ((repeat (first | with_reducible exact Ext.refl _ | with_reducible exact hw | with_reducible exact hb9 | with_reducible exact hb8 | with_reducible exact hb7 | with_reducible exact hb6 | with_reducible exact hb5 | with_reducible exact hb4 | with_reducible exact hb3 | with_reducible exact hb2 | with_reducible exact hb1 | with_reducible refine Ext.alloc ?_ _ | with_reducible refine Ext.drew ?_ | ((with_reducible refine Ext.set ?_ ?_ _); focus (dsimp only; omega)) | with_reducible refine Ext.trans ?_ hb9 | with_reducible refine Ext.trans ?_ hb8 | with_reducible refine Ext.trans ?_ hb7 | with_reducible refine Ext.trans ?_ hb6 | with_reducible refine Ext.trans ?_ hb5 | with_reducible refine Ext.trans ?_ hb4 | with_reducible refine Ext.trans ?_ hb3 | with_reducible refine Ext.trans ?_ hb2 | with_reducible refine Ext.trans ?_ hb1 | with_reducible refine Ext.trans ?_ hw))), hQ⟩
          case measure => omega
        | false =>
          rw [hq, Bool.false_and] at hQ
          have hq2 : (xs[k].toList == ys[k].toList) = false := hq
          have hq3 : (xs[k].toList != ys[k].toList) = true := by rw [bne, hq2]; rfl
          clear hq
          go_wp2
          refine wp_region_ext (by kernel_rfl) (by kernel_rfl) ?_
          repeat (first | go_big_quiet_step (fail) | quiet_step (fail))
          refine wpQuiet_nil ?_
          intro w1 hq1
          have hb1 := ext_of_class hq1
          clear hq1
          obtain ⟨hc1, hf1, hz1⟩ := bcell3 hb1
          try simp at hz1
          go_wp2
          go_ret
          exact ⟨by rw [hQ]; rfl, by ((repeat (first | with_reducible exact Ext.refl _ | with_reducible exact hw | with_reducible exact hb9 | with_reducible exact hb8 | with_reducible exact hb7 | with_reducible exact hb6 | with_reducible exact hb5 | with_reducible exact hb4 | with_reducible exact hb3 | with_reducible exact hb2 | with_reducible exact hb1 | with_reducible refine Ext.alloc ?_ _ | with_reducible refine Ext.drew ?_ | ((with_reducible refine Ext.set ?_ ?_ _); focus (dsimp only; omega)) | with_reducible refine Ext.trans ?_ hb9 | with_reducible refine Ext.trans ?_ hb8 | with_reducible refine Ext.trans ?_ hb7 | with_reducible refine Ext.trans ?_ hb6 | with_reducible refine Ext.trans ?_ hb5 | with_reducible refine Ext.trans ?_ hb4 | with_reducible refine Ext.trans ?_ hb3 | with_reducible refine Ext.trans ?_ hb2 | with_reducible refine Ext.trans ?_ hb1 | with_reducible refine Ext.trans ?_ hw)))⟩
      · rw [eqL_end strB xs ys k (by omega) (by omega)] at hQ
        go_wp2
        go_ret
        exact ⟨by rw [hQ]; rfl, hw⟩
  · rw [eqL_len strB xs ys hl]
    go_enter Tryd.func27, Tryd.ntmps27
    go_wp2
    go_ret
    exact ⟨rfl, Ext.refl _⟩
set_option maxHeartbeats 400000 in
theorem laws_szStringS (xs : List ByteArray) (A : Option Addr) (cap : Nat) (left : Int) (h0 : 0 ≤ left) (h1 : left ≤ 1048576) (hn : xs.length ≤ 9223372036854775807) (w : World) (hR : Rd encStr w A xs) (hok : ∀ x ∈ xs, x.size ≤ 9223372036854775807) :
    Calls Tryd.prog 21 #[.slice A xs.length cap, .int .i64 left] w fun e w' => ∃ r : Int, e = .returned (.int .i64 r) ∧ (r < 0 ∨ (0 ≤ r ∧ r ≤ left ∧ (xs.length : Int) ≤ left)) ∧ Ext w w' := by
  by_cases hl : (xs.length : Int) ≤ left
  · go_enter Tryd.func21, Tryd.ntmps21
    go_wp2
    go_loopg [5, 1] xs.length (fun g i l wr => ∃ k : Nat, ∃ c : Int, g = xs.length - k ∧ k ≤ xs.length ∧ i = .int .i64 k ∧ l = .int .i64 c ∧ 0 ≤ c ∧ c ≤ left ∧ Ext w wr)
    case atStart => exact ⟨0, left - xs.length, by omega, by omega, rfl, rfl, by omega, by omega, Ext.refl _⟩
    case round =>
      obtain ⟨k, c, hg, hk, rfl, rfl, hc0, hc1, hw⟩ := hrel
      by_cases hkl : k < xs.length
      · obtain ⟨b, off, hA, hlt, _⟩ := hR k hkl
        subst hA
        have m0 := (hR.ext hw).str k hkl
        have hok1 := hok xs[k] (List.getElem_mem hkl)
        by_cases hr : c - xs[k].size < 0
        · go_wp2
          go_ret
          exact ⟨_, rfl, .inl (by omega), by ((repeat (first | with_reducible exact Ext.refl _ | with_reducible exact hw | with_reducible exact hb9 | with_reducible exact hb8 | with_reducible exact hb7 | with_reducible exact hb6 | with_reducible exact hb5 | with_reducible exact hb4 | with_reducible exact hb3 | with_reducible exact hb2 | with_reducible exact hb1 | with_reducible refine Ext.alloc ?_ _ | with_reducible refine Ext.drew ?_ | ((with_reducible refine Ext.set ?_ ?_ _); focus (dsimp only; omega)) | with_reducible refine Ext.trans ?_ hb9 | with_reducible refine Ext.trans ?_ hb8 | with_reducible refine Ext.trans ?_ hb7 | with_reducible refine Ext.trans ?_ hb6 | with_reducible refine Ext.trans ?_ hb5 | with_reducible refine Ext.trans ?_ hb4 | with_reducible refine Ext.trans ?_ hb3 | with_reducible refine Ext.trans ?_ hb2 | with_reducible refine Ext.trans ?_ hb1 | with_reducible refine Ext.trans ?_ hw)))⟩
        · go_wp2
          go_roundg (xs.length - (k + 1))
          case rel => exact ⟨k + 1, c - xs[k].size, rfl, hkl, rfl, rfl, by omega, by omega, by ((repeat (first | with_reducible exact Ext.refl _ | with_reducible exact hw | with_reducible exact hb9 | with_reducible exact hb8 | with_reducible exact hb7 | with_reducible exact hb6 | with_reducible exact hb5 | with_reducible exact hb4 | with_reducible exact hb3 | with_reducible exact hb2 | with_reducible exact hb1 | with_reducible refine Ext.alloc ?_ _ | with_reducible refine Ext.drew ?_ | ((with_reducible refine Ext.set ?_ ?_ _); focus (dsimp only; omega)) | with_reducible refine Ext.trans ?_ hb9 | with_reducible refine Ext.trans ?_ hb8 | with_reducible refine Ext.trans ?_ hb7 | with_reducible refine Ext.trans ?_ hb6 | with_reducible refine Ext.trans ?_ hb5 | with_reducible refine Ext.trans ?_ hb4 | with_reducible refine Ext.trans ?_ hb3 | with_reducible refine Ext.trans ?_ hb2 | with_reducible refine Ext.trans ?_ hb1 | with_reducible refine Ext.trans ?_ hw)))⟩
          case measure => omega
      · go_wp2
        go_ret
        exact ⟨c, rfl, .inr ⟨hc0, hc1, hl⟩, hw⟩
  · go_enter Tryd.func21, Tryd.ntmps21
    go_wp2
    go_ret
    exact ⟨-1, rfl, .inl (by omega), Ext.refl _⟩
set_option maxHeartbeats 400000 in
theorem laws_markStringS (xs : List ByteArray) (v : Value) (k base : Nat) (w : World) (hO : Ow encStr 9 w base v xs) (hn : xs.length ≤ 1048576) (hk : k ≤ 100000000) :
    Calls Tryd.prog 28 #[v, .int .i64 k] w fun e w' => e = .returned (.int .i64 ((k : Int) + xs.length)) ∧ w.grownBy w' v.ownBlock := by
  rcases hO.shape with ⟨rfl, rfl⟩ | ⟨g, cap, rfl, hg, hgl⟩
  · go_enter Tryd.func28, Tryd.ntmps28
    go_wp2
    refine wp_loop_rounds 1 ?_
    rw [rounds_succ]
    go_wp2
    go_ret
    exact ⟨by simp, grownBy_refl _ _⟩
  · go_enter Tryd.func28, Tryd.ntmps28
    go_wp2
    go_loopg [5, 1] xs.length (fun g' i m wr => ∃ (j q : Nat) (ys : List ByteArray), g' = xs.length - j ∧ j ≤ xs.length ∧ i = .int .i64 j ∧ m = .int .i64 q ∧ q = k + j ∧ ys.length = xs.length ∧ Ow encStr 9 wr base (.slice (some ⟨g, 0, none⟩) xs.length cap) ys ∧ w.grownBy wr (some g))
    case atStart => exact ⟨0, k, xs, by omega, by omega, rfl, rfl, rfl, rfl, hO, grownBy_refl _ _⟩
    case round =>
      obtain ⟨j, q, ys, hg', hj, rfl, rfl, hq, hys, hO', hgr⟩ := hrel
      have hq2 := hd hq
      have hqb : q ≤ 1000000000 := by omega
      have hys2 := hd hys
      by_cases hjl : j < xs.length
      · have hjy : j < ys.length := by omega
        clear hq hys
        go_wp2_with fail
        refine Calls.mono (laws_markText q (by omega) _) ?_
        rintro e w1 ⟨rfl, hb1⟩
        have hO1 := hO'.ext hb1
        have hgr1 := grownBy_ext hgr hb1
        clear hO' hgr hb1
        have c0 := hO1.rd.str j hjy
        simp only [Nat.zero_add] at c0
        have hbl := World.block_lt_of_cell? _ _ c0
        dsimp only at hbl
        have f0 := hO1.frozen j
        have z0 := hO1.set1 j 0 (.string (markS q)) (markS q) hjy (by decide) rfl
        rw [show j * encStr.sz + 0 = j from Nat.mul_one j] at z0
        have g2 := grownBy_set hgr1 j (.string (markS q))
        clear hO1 hgr1
        go_wp2
        go_roundg (xs.length - (j + 1))
        case rel => exact ⟨j + 1, q + 1, _, rfl, hjl, rfl, by rw [show ((q + 1 : Nat) : Int) = (q : Int) + 1 by omega], by rw [hq2.out]; omega, by simp only [List.length_set]; exact hys2.out, z0, g2⟩
        case measure => omega
      · obtain rfl : j = xs.length := by omega
        subst hq
        go_wp2
        go_ret
        exact ⟨by simp, hgr⟩
end Go.Proofs.YtbmompanhigmnaaDoor
