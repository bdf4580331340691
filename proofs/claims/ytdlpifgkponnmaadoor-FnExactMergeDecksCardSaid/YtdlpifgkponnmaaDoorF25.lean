/-
  Doubts as data; contracts of the functions on slices of cards and of doubts.
-/
import Derived.Test.YtdlpifgkponnmaaDoorF23
import Derived.Test.YtdlpifgkponnmaaDoorK1
import Derived.Test.YtdlpifgkponnmaaDoorMA
set_option linter.unusedVariables false
set_option linter.unusedSimpArgs false
set_option maxRecDepth 100000
namespace Go.Proofs.YtdlpifgkponnmaaDoor
open Go.RowKit
/-- The elements of a slice of doubts. -/
def encDbt : Enc (Int × Int) where
  enc d := [.int .i64 d.1, .int .i64 d.2]
  sz := 2
  len _ := rfl
  one d u hu := by
    simp only [List.mem_cons, List.not_mem_nil, or_false] at hu
    rcases hu with rfl | rfl <;> rfl
  pos := by decide
theorem Rd.dbt {w : World} {b off : Nat} {xs : List (Int × Int)} (h : Rd encDbt w (some ⟨b, off, none⟩) xs) (k : Nat) (hk : k < xs.length) :
    w.cell? ⟨b, off + k * 2, none⟩ = some (.int .i64 xs[k].1) ∧ w.cell? ⟨b, off + k * 2 + 1, none⟩ = some (.int .i64 xs[k].2) ∧ b < w.heap.size := by
  obtain ⟨b', off', e1, hlt, hc⟩ := h k hk
  simp only [Option.some.injEq, Addr.mk.injEq, and_true] at e1
  obtain ⟨rfl, rfl⟩ := e1
  exact ⟨hc 0 _ rfl, hc 1 _ rfl, hlt⟩
def dbtB (x y : Int × Int) : Bool := (x.1 == y.1) && (x.2 == y.2)
theorem dbtB_refl (x : Int × Int) : dbtB x x = true := by simp [dbtB]
/-- The doubts of the first fields of one card. -/
def rowTo (xs : List Fld) (m : Mask) (i : Nat) : Nat → List (Int × Int)
  | 0 => []
  | k + 1 => if (valueF xs[k]! m).2 = 8 then rowTo xs m i k ++ [((i : Int), (k : Int))] else rowTo xs m i k
theorem rowTo_zero (xs : List Fld) (m : Mask) (i : Nat) : rowTo xs m i 0 = [] := rfl
theorem rowTo_hit {xs : List Fld} {m : Mask} {i k : Nat} (hk : k < xs.length) (h : (valueF xs[k] m).2 = 8) : rowTo xs m i (k + 1) = rowTo xs m i k ++ [((i : Int), (k : Int))] := by rw [rowTo, getF xs k hk, if_pos h]
theorem rowTo_miss {xs : List Fld} {m : Mask} {i k : Nat} (hk : k < xs.length) (h : ¬ (valueF xs[k] m).2 = 8) : rowTo xs m i (k + 1) = rowTo xs m i k := by rw [rowTo, getF xs k hk, if_neg h]
theorem rowTo_len (xs : List Fld) (m : Mask) (i : Nat) : ∀ k, (rowTo xs m i k).length ≤ k
  | 0 => Nat.le_refl _
  | k + 1 => by
    have := rowTo_len xs m i k
    rw [rowTo]
    split
    · rw [List.length_append, List.length_singleton]; omega
    · omega
theorem getC (cs : List Crd) (k : Nat) (hk : k < cs.length) : cs[k]! = cs[k] := getElem!_pos cs k hk
/-- The doubts of the first cards. -/
def doubTo (xs : List Fld) (cs : List Crd) : Nat → List (Int × Int)
  | 0 => []
  | i + 1 => doubTo xs cs i ++ rowTo xs cs[i]!.m i xs.length
theorem doubTo_zero (xs : List Fld) (cs : List Crd) : doubTo xs cs 0 = [] := rfl
theorem doubTo_succ (xs : List Fld) (cs : List Crd) (i : Nat) (hi : i < cs.length) : doubTo xs cs (i + 1) = doubTo xs cs i ++ rowTo xs cs[i].m i xs.length := by rw [doubTo, getC cs i hi]
theorem doubTo_len (xs : List Fld) (cs : List Crd) : ∀ i, (doubTo xs cs i).length ≤ i * xs.length
  | 0 => by simp [doubTo]
  | i + 1 => by
    have h1 := doubTo_len xs cs i
    have h2 := rowTo_len xs cs[i]!.m i xs.length
    rw [doubTo, List.length_append, Nat.succ_mul]
    omega
/-- What DoubtsOf returns. -/
def doubtsF (xs : List Fld) (cs : List Crd) : List (Int × Int) × Int :=
  if (schB xs && cs.all isCardB) = true then (if 60 < cs.length then ([], 2) else (doubTo xs cs cs.length, 0)) else ([], 1)
theorem doubts_bad {xs : List Fld} {cs : List Crd} (h : (schB xs && cs.all isCardB) = false) : doubtsF xs cs = ([], 1) := by unfold doubtsF; rw [h]; rfl
theorem doubts_long {xs : List Fld} {cs : List Crd} (h : (schB xs && cs.all isCardB) = true) (h2 : 60 < cs.length) : doubtsF xs cs = ([], 2) := by unfold doubtsF; rw [if_pos h, if_pos h2]
theorem doubts_good {xs : List Fld} {cs : List Crd} (h : (schB xs && cs.all isCardB) = true) (h2 : ¬ 60 < cs.length) : doubtsF xs cs = (doubTo xs cs cs.length, 0) := by unfold doubtsF; rw [if_pos h, if_neg h2]
theorem doubts_len (xs : List Fld) (cs : List Crd) : (doubtsF xs cs).1.length ≤ 1048576 := by
  unfold doubtsF
  split
  · rename_i h
    rw [Bool.and_eq_true] at h
    split
    · simp
    · rename_i h2
      have h12 := (sch_all h.1).1
      have h3 := doubTo_len xs cs cs.length
      have h4 : cs.length * xs.length ≤ 60 * 12 := Nat.mul_le_mul (by omega) h12
      show (doubTo xs cs cs.length).length ≤ 1048576
      omega
  · simp
attribute [irreducible] doubtsF rowTo doubTo
theorem laws_toCardS_info : (Tryd.prog.info? 60).map (fun i => (i.zero, i.size, i.bytes)) = some (some (.agg #[.string ⟨#[]⟩, .int .u64 0, .int .u64 0]), (encCrd).sz, 32) := by kernel_rfl
theorem laws_toCardS_size : (Tryd.prog.info? 60).map (·.size) = some (encCrd).sz := by kernel_rfl
set_option maxHeartbeats 400000 in
theorem laws_toCardS (xs : List Crd) (A : Option Addr) (cap : Nat) (w : World) (hR : Rd encCrd w A xs) (hn : xs.length ≤ 1048576) :
    Calls Tryd.prog 10 #[.slice A xs.length cap] w fun e w' => ∃ v, e = .returned v ∧ Ow encCrd 60 w' w.heap.size v xs ∧ Ext w w' := by
  go_enter Tryd.func10, Tryd.ntmps10
  go_wp2_with (at_make; refine wpList_made encCrd (by rfl) _ _ 29 (by rfl) (Crd.z) (.agg #[.string ⟨#[]⟩, .int .u64 0, .int .u64 0]) 32 Tryd.underlying29 laws_toCardS_info (by rfl) .i64 .i64 xs.length (by rfl) (by rfl) (by omega) (by omega) (Nat.le_refl _) (Nat.le_refl _) (Ext.refl w) ?_)
  intro w1 hO hb1 hg1
  go_wp2
  go_loopg [4] xs.length (fun g i wr => ∃ k : Nat, g = xs.length - k ∧ k ≤ xs.length ∧ i = .int .i64 k ∧ Ext w wr ∧ Ow encCrd 60 wr w.heap.size (.slice (some ⟨w.heap.size, 0, none⟩) xs.length xs.length) (fill xs (Crd.z) k))
  case atStart => exact ⟨0, by omega, by omega, rfl, hb1, by rw [fill_zero]; exact hO⟩
  case round =>
    obtain ⟨k, hg, hk, rfl, hw, hO⟩ := hrel
    by_cases hkl : k < xs.length
    · obtain ⟨b, off, hA, hlt, _⟩ := hR k hkl
      subst hA
      obtain ⟨m0, m1, m2, m3⟩ := (hR.ext hw).crd k hkl
      go_wp2_with fail
      refine Calls.mono (laws_toCard xs[k] _) ?_
      rintro e w2 ⟨rfl, hb2⟩
      go_wp2_with (refine wpList_put encCrd (by rfl) _ _ _ (by rfl) laws_toCardS_size (hO.ext hb2) k hkl (by rfl) xs[k] (by rfl) (Nat.le_refl _) (hw.trans hb2) ?_)
      intro w3 hO3 hb3 hg3
      go_wp2
      go_roundg (xs.length - (k + 1))
      case rel => exact ⟨k + 1, rfl, hkl, rfl, hb3, by rw [← fill_set xs (Crd.z) k hkl]; exact hO3⟩
      case measure => omega
    · obtain rfl : k = xs.length := by omega
      go_wp2
      go_ret
      rw [fill_full] at hO
      exact ⟨_, rfl, hO, hw⟩

set_option maxHeartbeats 400000 in
theorem laws_eqCardS (xs ys : List Crd) (A B : Option Addr) (cap cap' : Nat) (w : World) (hR : Rd encCrd w A xs) (hS : Rd encCrd w B ys) (hn : xs.length ≤ 1048576) (hm : ys.length ≤ 1048576) :
    Calls Tryd.prog 13 #[.slice A xs.length cap, .slice B ys.length cap'] w fun e w' => e = .returned (.bool (eqL crdB xs ys)) ∧ Ext w w' := by
  have hx := @ExtOf.cell
  by_cases hl : xs.length = ys.length
  · go_enter Tryd.func13, Tryd.ntmps13
    go_wp2
    go_loopg [5] xs.length (fun g i wr => ∃ k : Nat, g = xs.length - k ∧ k ≤ xs.length ∧ i = .int .i64 k ∧ Ext w wr ∧ eqL crdB xs ys = eqL crdB (xs.drop k) (ys.drop k))
    case atStart => exact ⟨0, by omega, by omega, rfl, Ext.refl _, rfl⟩
    case round =>
      obtain ⟨k, hg, hk, rfl, hw, hQ⟩ := hrel
      by_cases hkl : k < xs.length
      · have hky : k < ys.length := by omega
        rw [eqL_drop crdB xs ys k hkl hky] at hQ
        obtain ⟨b, off, hA, hlt, _⟩ := hR k hkl
        subst hA
        obtain ⟨b', off', hB, hlt', _⟩ := hS k hky
        subst hB
        obtain ⟨m0, m1, m2, m3⟩ := (hR.ext hw).crd k hkl
        obtain ⟨n0, n1, n2, n3⟩ := (hS.ext hw).crd k hky
        cases hq : crdB xs[k] ys[k] with
        | true =>
          rw [hq, Bool.true_and] at hQ
          go_wp2
          refine wp_region_ext (by kernel_rfl) (by kernel_rfl) ?_
          repeat (first | go_big_quiet_step ((go_at_call 40; with_reducible exact Calls.ext_of (laws_eqCard xs[k] ys[k] _))) | quiet_step ((go_at_call 40; with_reducible exact Calls.ext_of (laws_eqCard xs[k] ys[k] _))))
          refine wpQuiet_nil ?_
          intro w1 hq1
          have hb1 := ext_of_class hq1
          clear hq1
          obtain ⟨hc1, hf1, hz1⟩ := bcell3 hb1
          try simp at hz1
          go_wp2
          go_roundg (xs.length - (k + 1))
          case rel => exact ⟨k + 1, rfl, hkl, rfl, by ((repeat (first | with_reducible exact Ext.refl _ | with_reducible exact hw | with_reducible exact hb9 | with_reducible exact hb8 | with_reducible exact hb7 | with_reducible exact hb6 | with_reducible exact hb5 | with_reducible exact hb4 | with_reducible exact hb3 | with_reducible exact hb2 | with_reducible exact hb1 | with_reducible refine Ext.alloc ?_ _ | with_reducible refine Ext.drew ?_ | ((with_reducible refine Ext.set ?_ ?_ _); focus (dsimp only; omega)) | with_reducible refine Ext.trans ?_ hb9 | with_reducible refine Ext.trans ?_ hb8 | with_reducible refine Ext.trans ?_ hb7 | with_reducible refine Ext.trans ?_ hb6 | with_reducible refine Ext.trans ?_ hb5 | with_reducible refine Ext.trans ?_ hb4 | with_reducible refine Ext.trans ?_ hb3 | with_reducible refine Ext.trans ?_ hb2 | with_reducible refine Ext.trans ?_ hb1 | with_reducible refine Ext.trans ?_ hw))), hQ⟩
          case measure => omega
        | false =>
          rw [hq, Bool.false_and] at hQ
          go_wp2
          refine wp_region_ext (by kernel_rfl) (by kernel_rfl) ?_
          repeat (first | go_big_quiet_step ((go_at_call 40; with_reducible exact Calls.ext_of (laws_eqCard xs[k] ys[k] _))) | quiet_step ((go_at_call 40; with_reducible exact Calls.ext_of (laws_eqCard xs[k] ys[k] _))))
          refine wpQuiet_nil ?_
          intro w1 hq1
          have hb1 := ext_of_class hq1
          clear hq1
          obtain ⟨hc1, hf1, hz1⟩ := bcell3 hb1
          try simp at hz1
          go_wp2
          go_ret
          exact ⟨by rw [hQ]; rfl, by ((repeat (first | with_reducible exact Ext.refl _ | with_reducible exact hw | with_reducible exact hb9 | with_reducible exact hb8 | with_reducible exact hb7 | with_reducible exact hb6 | with_reducible exact hb5 | with_reducible exact hb4 | with_reducible exact hb3 | with_reducible exact hb2 | with_reducible exact hb1 | with_reducible refine Ext.alloc ?_ _ | with_reducible refine Ext.drew ?_ | ((with_reducible refine Ext.set ?_ ?_ _); focus (dsimp only; omega)) | with_reducible refine Ext.trans ?_ hb9 | with_reducible refine Ext.trans ?_ hb8 | with_reducible refine Ext.trans ?_ hb7 | with_reducible refine Ext.trans ?_ hb6 | with_reducible refine Ext.trans ?_ hb5 | with_reducible refine Ext.trans ?_ hb4 | with_reducible refine Ext.trans ?_ hb3 | with_reducible refine Ext.trans ?_ hb2 | with_reducible refine Ext.trans ?_ hb1 | with_reducible refine Ext.trans ?_ hw)))⟩
      · rw [eqL_end crdB xs ys k (by omega) (by omega)] at hQ
        go_wp2
        go_ret
        exact ⟨by rw [hQ]; rfl, hw⟩
  · rw [eqL_len crdB xs ys hl]
    go_enter Tryd.func13, Tryd.ntmps13
    go_wp2
    go_ret
    exact ⟨rfl, Ext.refl _⟩

set_option maxHeartbeats 400000 in
theorem laws_szCardS (xs : List Crd) (A : Option Addr) (cap : Nat) (left : Int) (h0 : 0 ≤ left) (h1 : left ≤ 1048576) (hn : xs.length ≤ 9223372036854775807) (w : World) (hR : Rd encCrd w A xs) (hok : ∀ x ∈ xs, x.nm.size ≤ 9223372036854775807) :
    Calls Tryd.prog 7 #[.slice A xs.length cap, .int .i64 left] w fun e w' => ∃ r : Int, e = .returned (.int .i64 r) ∧ (r < 0 ∨ (0 ≤ r ∧ r ≤ left ∧ (xs.length : Int) ≤ left)) ∧ Ext w w' := by
  by_cases hl : (xs.length : Int) ≤ left
  · go_enter Tryd.func7, Tryd.ntmps7
    go_wp2
    go_loopg [5, 1] xs.length (fun g i l wr => ∃ k : Nat, ∃ c : Int, g = xs.length - k ∧ k ≤ xs.length ∧ i = .int .i64 k ∧ l = .int .i64 c ∧ 0 ≤ c ∧ c ≤ left ∧ Ext w wr)
    case atStart => exact ⟨0, left - xs.length, by omega, by omega, rfl, rfl, by omega, by omega, Ext.refl _⟩
    case round =>
      obtain ⟨k, c, hg, hk, rfl, rfl, hc0, hc1, hw⟩ := hrel
      by_cases hkl : k < xs.length
      · obtain ⟨b, off, hA, hlt, _⟩ := hR k hkl
        subst hA
        obtain ⟨m0, m1, m2, m3⟩ := (hR.ext hw).crd k hkl
        have hok1 := hok xs[k] (List.getElem_mem hkl)
        go_wp2_with fail
        refine Calls.mono (laws_szCard xs[k] c hc0 (by omega) hok1 _) ?_
        rintro e w1 ⟨rfl, hb1⟩
        by_cases hr : szF (xs[k].nm.size) c < 0
        · generalize szF (xs[k].nm.size) c = r at hr
          go_wp2
          go_ret
          exact ⟨_, rfl, .inl (by omega), by ((repeat (first | with_reducible exact Ext.refl _ | with_reducible exact hw | with_reducible exact hb9 | with_reducible exact hb8 | with_reducible exact hb7 | with_reducible exact hb6 | with_reducible exact hb5 | with_reducible exact hb4 | with_reducible exact hb3 | with_reducible exact hb2 | with_reducible exact hb1 | with_reducible refine Ext.alloc ?_ _ | with_reducible refine Ext.drew ?_ | ((with_reducible refine Ext.set ?_ ?_ _); focus (dsimp only; omega)) | with_reducible refine Ext.trans ?_ hb9 | with_reducible refine Ext.trans ?_ hb8 | with_reducible refine Ext.trans ?_ hb7 | with_reducible refine Ext.trans ?_ hb6 | with_reducible refine Ext.trans ?_ hb5 | with_reducible refine Ext.trans ?_ hb4 | with_reducible refine Ext.trans ?_ hb3 | with_reducible refine Ext.trans ?_ hb2 | with_reducible refine Ext.trans ?_ hb1 | with_reducible refine Ext.trans ?_ hw)))⟩
        · have hr2 : szF (xs[k].nm.size) c ≤ c := by unfold szF; split <;> omega
          generalize szF (xs[k].nm.size) c = r at hr hr2
          go_wp2
          go_roundg (xs.length - (k + 1))
          case rel => exact ⟨k + 1, r, rfl, hkl, rfl, rfl, by omega, by omega, by ((repeat (first | with_reducible exact Ext.refl _ | with_reducible exact hw | with_reducible exact hb9 | with_reducible exact hb8 | with_reducible exact hb7 | with_reducible exact hb6 | with_reducible exact hb5 | with_reducible exact hb4 | with_reducible exact hb3 | with_reducible exact hb2 | with_reducible exact hb1 | with_reducible refine Ext.alloc ?_ _ | with_reducible refine Ext.drew ?_ | ((with_reducible refine Ext.set ?_ ?_ _); focus (dsimp only; omega)) | with_reducible refine Ext.trans ?_ hb9 | with_reducible refine Ext.trans ?_ hb8 | with_reducible refine Ext.trans ?_ hb7 | with_reducible refine Ext.trans ?_ hb6 | with_reducible refine Ext.trans ?_ hb5 | with_reducible refine Ext.trans ?_ hb4 | with_reducible refine Ext.trans ?_ hb3 | with_reducible refine Ext.trans ?_ hb2 | with_reducible refine Ext.trans ?_ hb1 | with_reducible refine Ext.trans ?_ hw)))⟩
          case measure => omega
      · go_wp2
        go_ret
        exact ⟨c, rfl, .inr ⟨hc0, hc1, hl⟩, hw⟩
  · go_enter Tryd.func7, Tryd.ntmps7
    go_wp2
    go_ret
    exact ⟨-1, rfl, .inl (by omega), Ext.refl _⟩

def markD (k : Nat) : Int × Int := ((k : Int), (k : Int) + 1)
/-- The marked doubts from k on, n of them. -/
def upDb (k : Nat) : Nat → List (Int × Int)
  | 0 => []
  | n + 1 => markD k :: upDb (k + 2) n
theorem upDb_len : ∀ (n k : Nat), (upDb k n).length = n
  | 0, _ => rfl
  | n + 1, k => by rw [upDb, List.length_cons, upDb_len n]
theorem upDb_get : ∀ (n k i : Nat) (h : i < (upDb k n).length), (upDb k n)[i] = markD (k + 2 * i)
  | 0, _, _, h => by simp [upDb] at h
  | n + 1, k, 0, _ => rfl
  | n + 1, k, i + 1, h => by
    show (upDb (k + 2) n)[i]'_ = _
    rw [upDb_get n (k + 2) i, show k + 2 + 2 * i = k + 2 * (i + 1) by omega]
theorem upDb_snoc : ∀ (n k : Nat), upDb k (n + 1) = upDb k n ++ [markD (k + 2 * n)]
  | 0, _ => rfl
  | n + 1, k => by
    rw [upDb, upDb_snoc n (k + 2), show k + 2 + 2 * n = k + 2 * (n + 1) by omega]
    rfl
def markDTo (xs : List (Int × Int)) (k i : Nat) : List (Int × Int) := (upDb k i) ++ xs.drop i
theorem markDTo_len (xs : List (Int × Int)) (k i : Nat) (h : i ≤ xs.length) : (markDTo xs k i).length = xs.length := by
  unfold markDTo
  rw [List.length_append, upDb_len, List.length_drop]
  omega
theorem markDTo_set (xs : List (Int × Int)) (k i : Nat) (h : i < xs.length) : (markDTo xs k i).set i (markD (k + 2 * i)) = markDTo xs k (i + 1) := by
  unfold markDTo
  rw [List.set_append_right _ _ (by rw [upDb_len]; omega), upDb_len, Nat.sub_self, List.drop_eq_getElem_cons h, List.set_cons_zero, upDb_snoc, List.append_assoc]
  rfl
theorem markDTo_all (xs : List (Int × Int)) (k : Nat) : markDTo xs k xs.length = upDb k xs.length := by
  unfold markDTo
  rw [List.drop_length, List.append_nil]
set_option maxHeartbeats 1000000 in
theorem laws_markCardS (xs : List Crd) (v : Value) (k base : Nat) (w : World) (hO : Ow encCrd 60 w base v xs) (hn : xs.length ≤ 1048576) (hk : k ≤ 10000000) :
    Calls Tryd.prog 14 #[v, .int .i64 k] w fun e w' => e = .returned (.int .i64 ((k : Int) + 3 * xs.length)) ∧ w.grownBy w' v.ownBlock := by
  rcases hO.shape with ⟨rfl, rfl⟩ | ⟨g, cap, rfl, hg, hgl⟩
  · go_enter Tryd.func14, Tryd.ntmps14
    go_wp2
    refine wp_loop_rounds 1 ?_
    rw [rounds_succ]
    go_wp2
    go_ret
    exact ⟨by simp, grownBy_refl _ _⟩
  · go_enter Tryd.func14, Tryd.ntmps14
    go_wp2
    go_loopg [5, 1] xs.length (fun g' i m wr => ∃ (j q : Nat) (ys : List Crd), g' = xs.length - j ∧ j ≤ xs.length ∧ i = .int .i64 j ∧ m = .int .i64 q ∧ q = k + 3 * j ∧ ys.length = xs.length ∧ Ow encCrd 60 wr base (.slice (some ⟨g, 0, none⟩) xs.length cap) ys ∧ w.grownBy wr (some g))
    case atStart => exact ⟨0, k, xs, by omega, by omega, rfl, rfl, rfl, rfl, hO, grownBy_refl _ _⟩
    case round =>
      obtain ⟨j, q, ys, hg', hj, rfl, rfl, hq, hys, hO', hgr⟩ := hrel
      have hq2 := hd hq
      have hqb : q ≤ 100000000 := by omega
      have hys2 := hd hys
      by_cases hjl : j < xs.length
      · have hjy : j < ys.length := by omega
        clear hq hys
        go_wp2_with fail
        refine Calls.mono (laws_markText q (by omega) _) ?_
        rintro e w1 ⟨rfl, hb1⟩
        have hO1 := hO'.ext hb1
        have hgr1 := grownBy_ext hgr hb1
        clear hO' hgr hb1
        obtain ⟨c0, c1, c2, hbl⟩ := hO1.rd.crd j hjy
        simp only [Nat.zero_add] at c0 c1 c2
        have f0 := hO1.frozen (j * 3)
        have f1 := hO1.frozen (j * 3 + 1)
        have f2 := hO1.frozen (j * 3 + 2)
        have wq1 : IntKind.u64.wrap ((q : Int) + 1) = (q : Int) + 1 := IntWalk.u64_in _ (by omega)
        have wq2 : IntKind.u64.wrap ((q : Int) + 1 + 1) = (q : Int) + 1 + 1 := IntWalk.u64_in _ (by omega)
        have z0 := hO1.set1 j 0 (.string (markS q)) ⟨markS q, ys[j].m⟩ hjy (by decide) rfl
        have hm1 : lo (mof ((q : Int) + 1) (hi ys[j].m)) = (q : Int) + 1 := lo_mof (by omega) (by omega) (hi_ge _) (hi_lt _)
        have hm2 : hi (mof ((q : Int) + 1) (hi ys[j].m)) = hi ys[j].m := hi_mof (by omega) (by omega) (hi_ge _) (hi_lt _)
        have hm3 : lo (mof ((q : Int) + 1) ((q : Int) + 1 + 1)) = (q : Int) + 1 := lo_mof (by omega) (by omega) (by omega) (by omega)
        have hm4 : hi (mof ((q : Int) + 1) ((q : Int) + 1 + 1)) = (q : Int) + 1 + 1 := hi_mof (by omega) (by omega) (by omega) (by omega)
        have z1 := z0.set1 j 1 (.int .u64 ((q : Int) + 1)) ⟨markS q, mof ((q : Int) + 1) (hi ys[j].m)⟩ (by rw [List.length_set]; exact hjy) (by decide) (by rw [List.getElem_set_self]; simp only [encCrd]; rw [hm1, hm2]; rfl)
        have z2 := z1.set1 j 2 (.int .u64 ((q : Int) + 1 + 1)) ⟨markS q, mof ((q : Int) + 1) ((q : Int) + 1 + 1)⟩ (by rw [List.length_set, List.length_set]; exact hjy) (by decide) (by rw [List.getElem_set_self]; simp only [encCrd]; rw [hm1, hm2, hm3, hm4]; rfl)
        rw [show j * encCrd.sz + 0 = j * 3 from rfl, show j * encCrd.sz + 1 = j * 3 + 1 from rfl, show j * encCrd.sz + 2 = j * 3 + 2 from rfl] at z2
        have g2 := grownBy_set (grownBy_set (grownBy_set hgr1 (j * 3) (.string (markS q))) (j * 3 + 1) (.int .u64 ((q : Int) + 1))) (j * 3 + 2) (.int .u64 ((q : Int) + 1 + 1))
        clear z0 z1 hO1 hgr1 hm1 hm2 hm3 hm4
        go_wp2
        refine wp_loop_rounds 3 ?_
        rw [rounds_succ]
        go_wp2
        rw [rounds_succ]
        go_wp2
        rw [rounds_succ]
        go_wp2
        go_roundg (xs.length - (j + 1))
        case rel => exact ⟨j + 1, q + 3, _, rfl, hjl, rfl, by rw [show ((q + 3 : Nat) : Int) = (q : Int) + 1 + 1 + 1 by omega], by rw [hq2.out]; omega, by simp only [List.length_set]; exact hys2.out, z2, g2⟩
        case measure => omega
      · obtain rfl : j = xs.length := by omega
        subst hq
        go_wp2
        go_ret
        exact ⟨by simp, hgr⟩
end Go.Proofs.YtdlpifgkponnmaaDoor
