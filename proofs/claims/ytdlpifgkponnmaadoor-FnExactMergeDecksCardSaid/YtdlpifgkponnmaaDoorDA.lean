/-
  DA: the texts D2 D3 D4 D5 M4 in one (written by merge.py).
-/
import Derived.Test.YtdlpifgkponnmaaDoorK1
import Derived.Test.YtdlpifgkponnmaaDoorG8
import Derived.Test.YtdlpifgkponnmaaDoorF19
import Derived.Test.YtdlpifgkponnmaaDoorF26
import Derived.Test.YtdlpifgkponnmaaDoorG10
import Derived.Test.YtdlpifgkponnmaaDoorL9
import Derived.Test.YtdlpifgkponnmaaDoorF25
import Derived.Test.YtdlpifgkponnmaaDoorF6
import Derived.Test.YtdlpifgkponnmaaDoorShelf
import Derived.Lib.OwnBridge
set_option linter.unusedVariables false
set_option linter.unusedSimpArgs false
set_option maxRecDepth 100000
namespace Go.Proofs.YtdlpifgkponnmaaDoor
open Go.RowKit
def hasNm (ds : List Crd) (nm : ByteArray) : Bool := ds.any fun y => y.nm.toList == nm.toList
theorem txt_eq (x y : ByteArray) : (x.toList == y.toList) = decide (x = y) := by
  rw [Bool.eq_iff_iff, beq_iff_eq, decide_eq_true_iff]
  refine ⟨fun h => ?_, fun h => by rw [h]⟩
  rw [Go.ByteArray.toList_eq, Go.ByteArray.toList_eq] at h
  cases x; cases y
  exact congrArg ByteArray.mk (Array.toList_inj.1 h)
theorem okD_take (ds : List Crd) (k : Nat) (h : okD ds = true) : okD (ds.take k) = true := by
  simp only [okD, Bool.and_eq_true, List.all_eq_true, decide_eq_true_eq] at h ⊢
  exact ⟨fun x hx => h.1 x (List.mem_of_mem_take hx), h.2.sublist ((List.take_sublist k ds).map _)⟩
theorem okD_next (ds : List Crd) (k : Nat) (hk : k < ds.length) : okD (ds.take (k + 1)) = (okD (ds.take k) && (isCardB ds[k] && !hasNm (ds.take k) ds[k].nm)) := by
  rw [List.take_succ_eq_append_getElem hk, okD_snoc]
  congr 3
  unfold hasNm
  congr 1
  funext y
  exact (txt_eq _ _).symm
theorem hasNm_zero (ds : List Crd) (nm : ByteArray) : hasNm (ds.take 0) nm = false := by rw [List.take_zero]; rfl
theorem hasNm_next (ds : List Crd) (j : Nat) (nm : ByteArray) (h : j < ds.length) : hasNm (ds.take (j + 1)) nm = (hasNm (ds.take j) nm || (ds[j].nm.toList == nm.toList)) := by
  unfold hasNm; rw [List.take_succ_eq_append_getElem h, List.any_append, List.any_cons, List.any_nil, Bool.or_false]
theorem hasNm_hit (ds : List Crd) (j : Nat) (nm : ByteArray) (h : j < ds.length) (e : (ds[j].nm.toList == nm.toList) = true) : hasNm (ds.take (j + 1)) nm = true := by rw [hasNm_next ds j nm h, e, Bool.or_true]
theorem hasNm_miss (ds : List Crd) (j : Nat) (nm : ByteArray) (h : j < ds.length) (e : (ds[j].nm.toList == nm.toList) = false) : hasNm (ds.take (j + 1)) nm = hasNm (ds.take j) nm := by rw [hasNm_next ds j nm h, e, Bool.or_false]
theorem hasNm_up (ds : List Crd) (j k : Nat) (nm : ByteArray) (h : j ≤ k) (e : hasNm (ds.take j) nm = true) : hasNm (ds.take k) nm = true := by
  unfold hasNm at *
  rw [List.any_eq_true] at *
  obtain ⟨y, hy, e⟩ := e
  exact ⟨y, (List.take_sublist_take_left h).subset hy, e⟩
theorem deck_far {ds : List Crd} (h : ¬ ds.length ≤ 80) : deckB ds = false := by unfold deckB; rw [decide_eq_false h]; rfl
theorem deck_near {ds : List Crd} (h : ds.length ≤ 80) : deckB ds = okD (ds.take ds.length) := by unfold deckB; rw [decide_eq_true h, List.take_length]; rfl
theorem deck_miss {ds : List Crd} {k : Nat} (hk : k < ds.length) (h : okD (ds.take (k + 1)) = false) : deckB ds = false := by
  cases e : deckB ds with
  | false => rfl
  | true =>
    unfold deckB at e
    rw [Bool.and_eq_true] at e
    rw [okD_take ds (k + 1) e.2] at h
    cases h
set_option maxHeartbeats 400000 in
theorem impl_isDeck1 (y : Crd) (nm : ByteArray) (bx : Nat) (w : World) (hx : w.cell? ⟨bx, 0, none⟩ = some (.string nm)) (hlt : bx < w.heap.size) :
    Calls Tryd.prog 62 #[.agg #[.string y.nm, .int .u64 (lo y.m), .int .u64 (hi y.m)], .pointer (some ⟨bx, 0, none⟩)] w fun e w' => e = .returned (.bool (y.nm.toList == nm.toList)) ∧ Ext w w' := by
  cases h : (y.nm.toList == nm.toList)
  all_goals
    go_enter Tryd.func62, Tryd.ntmps62
    go_wp2
    go_ret
    exact ⟨by first | rfl | simp [h], by ((repeat (first | with_reducible exact Ext.refl _ | with_reducible exact hw | with_reducible exact hb9 | with_reducible exact hb8 | with_reducible exact hb7 | with_reducible exact hb6 | with_reducible exact hb5 | with_reducible exact hb4 | with_reducible exact hb3 | with_reducible exact hb2 | with_reducible exact hb1 | with_reducible refine Ext.alloc ?_ _ | with_reducible refine Ext.drew ?_ | ((with_reducible refine Ext.set ?_ ?_ _); focus (dsimp only; omega)) | with_reducible refine Ext.trans ?_ hb9 | with_reducible refine Ext.trans ?_ hb8 | with_reducible refine Ext.trans ?_ hb7 | with_reducible refine Ext.trans ?_ hb6 | with_reducible refine Ext.trans ?_ hb5 | with_reducible refine Ext.trans ?_ hb4 | with_reducible refine Ext.trans ?_ hb3 | with_reducible refine Ext.trans ?_ hb2 | with_reducible refine Ext.trans ?_ hb1 | with_reducible refine Ext.trans ?_ hw)))⟩
set_option maxHeartbeats 400000 in
theorem slices_IndexFunc_sameCrd (xs : List Crd) (A : Option Addr) (n cap : Nat) (w : World) (hnx : n = xs.length) (hR : Rd encCrd w A xs) (hn : n ≤ 1048576) (nm : ByteArray) (bx : Nat) (hx : w.cell? ⟨bx, 0, none⟩ = some (.string nm)) (hbx : bx < w.heap.size) :
    Calls Tryd.prog 86 #[.slice A n cap, .func (.func 62) #[] #[.pointer (some ⟨bx, 0, none⟩)]] w fun e w' => e = .returned (.int .i64 (fidx (fun y : Crd => y.nm.toList == nm.toList) xs)) ∧ Ext w w' := by
  subst hnx
  go_enter Tryd.func86, Tryd.ntmps86
  go_wp2
  go_loopg [8] xs.length (fun g i wr => ∃ k : Nat, g = xs.length - k ∧ k ≤ xs.length ∧ i = .int .i64 k ∧ Ext w wr ∧ (xs.take k).any (fun y : Crd => y.nm.toList == nm.toList) = false)
  case atStart => exact ⟨0, by omega, by omega, rfl, Ext.refl _, by rw [List.take_zero]; rfl⟩
  case round =>
    obtain ⟨k, hg, hk, rfl, hw, hQ⟩ := hrel
    by_cases hkl : k < xs.length
    · obtain ⟨b, off, hA, hlt, _⟩ := hR k hkl
      subst hA
      obtain ⟨m0, m1, m2, m3⟩ := (hR.ext hw).crd k hkl
      have hs := any_take (fun y : Crd => y.nm.toList == nm.toList) xs k hkl
      rw [hQ, Bool.false_or] at hs
      cases hq : (fun y : Crd => y.nm.toList == nm.toList) xs[k] with
      | true =>
        have hM := fidx_hit (fun y : Crd => y.nm.toList == nm.toList) xs k hkl hq hQ
        try dsimp only at hq
        clear hs hQ
        go_wp2_with fail
        refine Calls.mono (impl_isDeck1 xs[k] nm bx _ (hw.cell hx) (Nat.lt_of_lt_of_le hbx hw.size)) ?_
        rintro e w1 ⟨rfl, hb1⟩
        simp only [hq]
        go_wp2
        go_ret
        exact ⟨by rw [hM]; rfl, by ((repeat (first | with_reducible exact Ext.refl _ | with_reducible exact hw | with_reducible exact hb9 | with_reducible exact hb8 | with_reducible exact hb7 | with_reducible exact hb6 | with_reducible exact hb5 | with_reducible exact hb4 | with_reducible exact hb3 | with_reducible exact hb2 | with_reducible exact hb1 | with_reducible refine Ext.alloc ?_ _ | with_reducible refine Ext.drew ?_ | ((with_reducible refine Ext.set ?_ ?_ _); focus (dsimp only; omega)) | with_reducible refine Ext.trans ?_ hb9 | with_reducible refine Ext.trans ?_ hb8 | with_reducible refine Ext.trans ?_ hb7 | with_reducible refine Ext.trans ?_ hb6 | with_reducible refine Ext.trans ?_ hb5 | with_reducible refine Ext.trans ?_ hb4 | with_reducible refine Ext.trans ?_ hb3 | with_reducible refine Ext.trans ?_ hb2 | with_reducible refine Ext.trans ?_ hb1 | with_reducible refine Ext.trans ?_ hw)))⟩
      | false =>
        have hs2 := hd (hs.trans hq)
        try dsimp only at hq
        clear hs hQ
        go_wp2_with fail
        refine Calls.mono (impl_isDeck1 xs[k] nm bx _ (hw.cell hx) (Nat.lt_of_lt_of_le hbx hw.size)) ?_
        rintro e w1 ⟨rfl, hb1⟩
        simp only [hq]
        go_wp2
        go_roundg (xs.length - (k + 1))
        case rel => exact ⟨k + 1, rfl, hkl, rfl, by ((repeat (first | with_reducible exact Ext.refl _ | with_reducible exact hw | with_reducible exact hb9 | with_reducible exact hb8 | with_reducible exact hb7 | with_reducible exact hb6 | with_reducible exact hb5 | with_reducible exact hb4 | with_reducible exact hb3 | with_reducible exact hb2 | with_reducible exact hb1 | with_reducible refine Ext.alloc ?_ _ | with_reducible refine Ext.drew ?_ | ((with_reducible refine Ext.set ?_ ?_ _); focus (dsimp only; omega)) | with_reducible refine Ext.trans ?_ hb9 | with_reducible refine Ext.trans ?_ hb8 | with_reducible refine Ext.trans ?_ hb7 | with_reducible refine Ext.trans ?_ hb6 | with_reducible refine Ext.trans ?_ hb5 | with_reducible refine Ext.trans ?_ hb4 | with_reducible refine Ext.trans ?_ hb3 | with_reducible refine Ext.trans ?_ hb2 | with_reducible refine Ext.trans ?_ hb1 | with_reducible refine Ext.trans ?_ hw))), hs2.out⟩
        case measure => omega
    · obtain rfl : k = xs.length := by omega
      rw [List.take_length] at hQ
      have hM := fidx_none (fun y : Crd => y.nm.toList == nm.toList) xs hQ
      go_wp2
      go_ret
      exact ⟨by rw [hM]; rfl, hw⟩

theorem hasNm_fidx (xs : List Crd) (nm : ByteArray) : hasNm xs nm = decide (fidx (fun y : Crd => y.nm.toList == nm.toList) xs ≥ 0) := by
  rw [Bool.eq_iff_iff, decide_eq_true_iff]
  exact (fidx_ge _ xs).symm
set_option maxHeartbeats 400000 in
theorem slices_ContainsFunc_sameCrd (xs : List Crd) (A : Option Addr) (n cap : Nat) (w : World) (hnx : n = xs.length) (hR : Rd encCrd w A xs) (hn : n ≤ 1048576) (nm : ByteArray) (bx : Nat) (hx : w.cell? ⟨bx, 0, none⟩ = some (.string nm)) (hbx : bx < w.heap.size) :
    Calls Tryd.prog 61 #[.slice A n cap, .func (.func 62) #[] #[.pointer (some ⟨bx, 0, none⟩)]] w fun e w' => e = .returned (.bool (hasNm xs nm)) ∧ Ext w w' := by
  subst hnx
  have hI := slices_IndexFunc_sameCrd xs A _ cap w rfl hR hn nm bx hx hbx
  have hm := hasNm_fidx xs nm
  generalize fidx (fun y : Crd => y.nm.toList == nm.toList) xs = q at hm hI
  rw [hm]
  clear hm
  go_enter Tryd.func61, Tryd.ntmps61
  go_wp2_with fail
  refine Calls.mono (hI) ?_
  rintro e w1 ⟨rfl, hb1⟩
  go_wp2
  go_ret
  exact ⟨rfl, by ((repeat (first | with_reducible exact Ext.refl _ | with_reducible exact hw | with_reducible exact hb9 | with_reducible exact hb8 | with_reducible exact hb7 | with_reducible exact hb6 | with_reducible exact hb5 | with_reducible exact hb4 | with_reducible exact hb3 | with_reducible exact hb2 | with_reducible exact hb1 | with_reducible refine Ext.alloc ?_ _ | with_reducible refine Ext.drew ?_ | ((with_reducible refine Ext.set ?_ ?_ _); focus (dsimp only; omega)) | with_reducible refine Ext.trans ?_ hb9 | with_reducible refine Ext.trans ?_ hb8 | with_reducible refine Ext.trans ?_ hb7 | with_reducible refine Ext.trans ?_ hb6 | with_reducible refine Ext.trans ?_ hb5 | with_reducible refine Ext.trans ?_ hb4 | with_reducible refine Ext.trans ?_ hb3 | with_reducible refine Ext.trans ?_ hb2 | with_reducible refine Ext.trans ?_ hb1 | with_reducible refine Ext.trans ?_ hw)))⟩
set_option maxHeartbeats 2000000 in
theorem impl_isDeck (ds : List Crd) (A : Option Addr) (cap : Nat) (w : World) (hR : Rd encCrd w A ds) (hcap : ds.length ≤ cap) (hn : ds.length ≤ 1048576) (hok : ∀ c ∈ ds, CrdIn c) :
    Calls Tryd.prog 36 #[.slice A ds.length cap] w fun e w' => e = .returned (.bool (deckB ds)) ∧ Ext w w' := by
  by_cases h80 : ds.length ≤ 80
  · have hv := hd (deck_near h80)
    have hnx := fun k h => okD_next ds k h
    have hmi := fun k h => deck_miss (ds := ds) (k := k) h
    have hQ0 : okD (ds.take 0) = true := by rw [List.take_zero]; exact okD_nil
    go_enter Tryd.func36, Tryd.ntmps36
    go_wp2
    go_loopg [10] ds.length (fun g i wr => ∃ k : Nat, g = ds.length - k ∧ k ≤ ds.length ∧ i = .int .i64 k ∧ Ext w wr ∧ Hd (okD (ds.take k) = true))
    case atStart => exact ⟨0, by omega, by omega, rfl, Ext.refl _, hd hQ0⟩
    case round =>
      obtain ⟨k, hg, hk, rfl, hw, hQ⟩ := hrel
      by_cases hkl : k < ds.length
      · obtain ⟨b, off, hA, hlt, _⟩ := hR k hkl
        subst hA
        have hRr := hR.ext hw
        obtain ⟨m0, m1, m2, m3⟩ := hRr.crd k hkl
        have hic := impl_isCard ds[k] (hok _ (List.getElem_mem hkl))
        have hnx := hnx k hkl
        rw [hQ.out, Bool.true_and] at hnx
        have hmi := hmi k hkl
        have hco := fun (W : World) (hE : Ext wr W) => slices_ContainsFunc_sameCrd (ds.take k) (some ⟨b, off, none⟩) k cap W (by rw [List.length_take]; omega) ((hRr.ext hE).take k) (by omega) ds[k].nm wr.heap.size
        have lw : wr.heap.size < wr.heap.size + 1 := Nat.lt_succ_self _
        generalize hasNm (ds.take k) ds[k].nm = hh at hnx hco
        generalize isCardB ds[k] = hc at hnx hic
        generalize ds[k] = c at m0 m1 m2 hic hco
        cases hc with
        | false =>
          have hv2 := hd (hmi hnx)
          clear hnx hmi
          go_wp2_with fail
          refine Calls.mono (hic _) ?_
          rintro e w2 ⟨rfl, hb2⟩
          go_wp2
          go_ret
          exact ⟨by rw [hv2.out]; rfl, (hw.alloc _).trans hb2⟩
        | true =>
          have hbx : BoxAt (wr.alloc (.cells #[.string c.nm, .int .u64 (lo c.m), .int .u64 (hi c.m)] 60)) wr.heap.size #[.string c.nm, .int .u64 (lo c.m), .int .u64 (hi c.m)] 60 := BoxAt.new' rfl
          go_wp2_with fail
          refine Calls.mono (hic _) ?_
          rintro e w2 ⟨rfl, hb2⟩
          have hbx := hbx.ext hb2
          have hE2 := ((Ext.refl wr).alloc _).trans hb2
          have hco := hco w2 hE2 (hbx.cell 0) hbx.lt
          have hkk : (0 : Int) ≤ k ∧ (k : Int) ≤ cap := ⟨by omega, by omega⟩
          cases hh with
          | true =>
            have hv2 := hd (hmi hnx)
            clear hnx hmi
            go_wp2_with fail
            refine Calls.mono hco ?_
            rintro e w3 ⟨rfl, hb3⟩
            go_wp2
            go_ret
            exact ⟨by rw [hv2.out]; rfl, (hw.trans hE2).trans hb3⟩
          | false =>
            have hQ2 := hd hnx
            clear hnx hmi
            go_wp2_with fail
            refine Calls.mono hco ?_
            rintro e w3 ⟨rfl, hb3⟩
            go_wp2
            go_roundg (ds.length - (k + 1))
            case rel => exact ⟨k + 1, rfl, hkl, by simp, (hw.trans hE2).trans hb3, hQ2⟩
            case measure => omega
      · obtain rfl : k = ds.length := by omega
        go_wp2
        go_ret
        exact ⟨by rw [hv.out, hQ.out]; rfl, hw⟩
  · have hv := hd (deck_far h80)
    go_enter Tryd.func36, Tryd.ntmps36
    go_wp2
    go_ret
    exact ⟨by rw [hv.out]; rfl, Ext.refl _⟩
set_option maxHeartbeats 2000000 in
theorem spec_l02Ok (ds : List Crd) (A : Option Addr) (cap : Nat) (w : World) (hR : Rd encCrd w A ds) (hn : ds.length ≤ 1048576) (hok : ∀ c ∈ ds, CrdIn c) :
    Calls Tryd.prog 31 #[.slice A ds.length cap] w fun e w' => e = .returned (.bool (deckB ds)) ∧ Ext w w' := by
  have hx := @ExtOf.cell
  by_cases h80 : ds.length ≤ 80
  · have hv := hd (deck_near h80)
    have hnx := fun k h => okD_next ds k h
    have hmi := fun k h => deck_miss (ds := ds) (k := k) h
    have hQ0 : okD (ds.take 0) = true := by rw [List.take_zero]; exact okD_nil
    have hz := fun nm => hasNm_zero ds nm
    have hh1 := fun j nm h e => hasNm_hit ds j nm h e
    have hh2 := fun j nm h e => hasNm_miss ds j nm h e
    have hup := fun j k nm (h : j ≤ k) (e : hasNm (ds.take j) nm = true) => hasNm_up ds j k nm h e
    go_enter Tryd.func31, Tryd.ntmps31
    go_wp2
    go_loopg [3] ds.length (fun g i wr => ∃ k : Nat, g = ds.length - k ∧ k ≤ ds.length ∧ i = .int .i64 k ∧ Ext w wr ∧ Hd (okD (ds.take k) = true))
    case atStart => exact ⟨0, by omega, by omega, rfl, Ext.refl _, hd hQ0⟩
    case round =>
      obtain ⟨k, hg, hk, rfl, hw, hQ⟩ := hrel
      obtain ⟨wo, hwo⟩ : ∃ x, x = wr := ⟨_, rfl⟩
      subst hwo
      by_cases hkl : k < ds.length
      · obtain ⟨b, off, hA, hlt, _⟩ := hR k hkl
        subst hA
        have hRr := hR.ext hw
        obtain ⟨m0, m1, m2, m3⟩ := hRr.crd k hkl
        have hic := spec_l01Ok ds[k] (hok _ (List.getElem_mem hkl)) b (off + k * 3) wo m3 m0 m1 m2
        have hnx := hnx k hkl
        rw [hQ.out, Bool.true_and] at hnx
        have hmi := hmi k hkl
        have hk0 : (0 : Int) ≤ k ∧ (k : Int) < ds.length := ⟨by omega, by omega⟩
        generalize hcc : isCardB ds[k] = hc at hnx hic
        cases hc with
        | false =>
          have hv2 := hd (hmi hnx)
          clear hnx hmi hh1 hh2 hup hz
          go_wp2_with fail
          refine Calls.mono hic ?_
          rintro e w2 ⟨rfl, hb2⟩
          go_wp2
          go_ret
          exact ⟨by rw [hv2.out]; rfl, hw.trans hb2⟩
        | true =>
          go_wp2_with fail
          refine Calls.mono hic ?_
          rintro e w2 ⟨rfl, hb2⟩
          have hup := fun j (h : j ≤ k) => hup j k ds[k].nm h
          have hw2 := hw.trans hb2
          have hz := hd (hz ds[k].nm)
          clear m0 m1 m2 m3 hic hb2 hcc
          go_wp2
          go_loopg [4] k (fun g i wr => ∃ j : Nat, g = k - j ∧ j ≤ k ∧ i = .int .i64 j ∧ Ext w2 wr ∧ Hd (hasNm (ds.take j) ds[k].nm = false))
          case atStart => exact ⟨0, by omega, by omega, rfl, Ext.refl _, hz⟩
          case round =>
            obtain ⟨j, hg2, hj, rfl, hE, hN⟩ := hrel
            have hR2 := hR.ext (hw2.trans hE)
            by_cases hjk : j < k
            · obtain ⟨m0, m1, m2, m3⟩ := hR2.crd k hkl
              obtain ⟨n0, n1, n2, n3⟩ := hR2.crd j (by omega)
              have hh1 := hh1 j ds[k].nm (by omega)
              have hh2 := hh2 j ds[k].nm (by omega)
              have hup := hup (j + 1) (by omega)
              have hjl : (j : Int) < ds.length := by omega
              rw [hN.out] at hh2
              generalize ds[j]'(by omega) = y at n0 n1 n2 hh1 hh2
              generalize hck : ds[k] = c at m0 m1 m2 hh1 hh2 hup hnx hN
              have hck := hd hck
              cases he : (y.nm.toList == c.nm.toList) with
              | true =>
                rw [hup (hh1 he)] at hnx
                have hv2 := hd (hmi hnx)
                clear hnx hmi hh1 hh2 hup hz
                go_wp2
                refine wp_region_ext (by kernel_rfl) (by kernel_rfl) ?_
                repeat (first | go_big_quiet_step (fail) | quiet_step (fail))
                refine wpQuiet_nil ?_
                intro w7 hq7
                have hb7 := ext_of_class hq7
                clear hq7
                obtain ⟨hc7, hf7, hz7⟩ := bcell3 hb7
                try simp at hz7
                go_wp2
                go_ret
                exact ⟨by rw [hv2.out]; rfl, (hw2.trans hE).trans hb7⟩
              | false =>
                have hN2 := hd (hh2 he)
                clear hnx hmi hh1 hh2 hup hz
                go_wp2
                refine wp_region_ext (by kernel_rfl) (by kernel_rfl) ?_
                repeat (first | go_big_quiet_step (fail) | quiet_step (fail))
                refine wpQuiet_nil ?_
                intro w7 hq7
                have hb7 := ext_of_class hq7
                clear hq7
                obtain ⟨hc7, hf7, hz7⟩ := bcell3 hb7
                try simp at hz7
                go_wp2
                go_roundg (k - (j + 1))
                case rel => exact ⟨j + 1, rfl, hjk, by simp, hE.trans hb7, by rw [hck.out]; exact hN2⟩
                case measure => omega
            · obtain rfl : j = k := by omega
              rw [hN.out] at hnx
              have hQ2 := hd hnx
              clear hnx hmi hh1 hh2 hup hz
              go_wp2
              go_roundg (ds.length - (j + 1))
              case rel => exact ⟨j + 1, rfl, hkl, by simp, hw2.trans hE, hQ2⟩
              case measure => omega
      · obtain rfl : k = ds.length := by omega
        go_wp2
        go_ret
        exact ⟨by rw [hv.out, hQ.out]; rfl, hw⟩
  · have hv := hd (deck_far h80)
    go_enter Tryd.func31, Tryd.ntmps31
    go_wp2
    go_ret
    exact ⟨by rw [hv.out]; rfl, Ext.refl _⟩
end Go.Proofs.YtdlpifgkponnmaaDoor
set_option linter.unusedVariables false
set_option linter.unusedSimpArgs false
set_option maxRecDepth 100000
namespace Go.Proofs.YtdlpifgkponnmaaDoor
open Go.RowKit
def stayTo (ds : List Crd) (h : Int) (k : Nat) : List Crd := (ds.take k).filter fun c => !mhas c.m h
def dropTo (ds : List Crd) (h : Int) (k : Nat) : List Crd := (ds.take k).filter fun c => mhas c.m h
theorem stay_zero (ds : List Crd) (h : Int) : stayTo ds h 0 = [] := by unfold stayTo; rw [List.take_zero]; rfl
theorem drop_zero (ds : List Crd) (h : Int) : dropTo ds h 0 = [] := by unfold dropTo; rw [List.take_zero]; rfl
theorem stay_hit {ds : List Crd} {h : Int} {k : Nat} (hk : k < ds.length) (e : mhas ds[k].m h = true) : stayTo ds h (k + 1) = stayTo ds h k ∧ dropTo ds h (k + 1) = dropTo ds h k ++ [ds[k]] := by
  unfold stayTo dropTo; rw [List.take_succ_eq_append_getElem hk, List.filter_append, List.filter_append]; simp [e]
theorem stay_miss {ds : List Crd} {h : Int} {k : Nat} (hk : k < ds.length) (e : mhas ds[k].m h = false) : stayTo ds h (k + 1) = stayTo ds h k ++ [ds[k]] ∧ dropTo ds h (k + 1) = dropTo ds h k := by
  unfold stayTo dropTo; rw [List.take_succ_eq_append_getElem hk, List.filter_append, List.filter_append]; simp [e]
theorem stay_len (ds : List Crd) (h : Int) (k : Nat) : (stayTo ds h k).length ≤ k ∧ (dropTo ds h k).length ≤ k := by
  unfold stayTo dropTo
  have h1 := List.length_filter_le (fun c : Crd => !mhas c.m h) (ds.take k)
  have h2 := List.length_filter_le (fun c : Crd => mhas c.m h) (ds.take k)
  rw [List.length_take] at h1 h2
  omega
theorem stay_all (ds : List Crd) (h : Int) : stayTo ds h ds.length ++ dropTo ds h ds.length = passF ds h := by unfold stayTo dropTo passF; rw [List.take_length]
attribute [irreducible] stayTo dropTo
theorem passes_len (ds : List Crd) (hs : List Int) (k : Nat) : (passesF ds (hs.take k)).length = ds.length := by
  unfold passesF
  generalize hs.take k = l
  induction l generalizing ds with
  | nil => rfl
  | cons h l ih => rw [List.foldl_cons, ih, passF_len]
theorem info_Crd : (Tryd.prog.info? 60).map (fun i => (i.zero, i.size, i.bytes)) = some (some (.agg #[.string ⟨#[]⟩, .int .u64 0, .int .u64 0]), encCrd.sz, 32) := by kernel_rfl
theorem run_append_nilL {P : Program} (W : World) (t ty e : TypeId) (i : TypeInfo) (ht : P.underlying t = some (.slice e)) (hi : P.info? e = some i) (A : Option Addr) (n cap c : Nat) (hle : n ≤ cap) :
    (Builtin.append_ #[t, t] ty #[.slice A n cap, .slice none 0 c]).run P W = .ok (.slice A n cap) W := by
  cases A with
  | none => simp [Builtin.append_, run_underlying ht, sizeOf, typeInfo, hi, Builtin.lenOf, Builtin.firstCells, hle]
  | some a => simp [Builtin.append_, run_underlying ht, sizeOf, typeInfo, hi, Builtin.lenOf, Builtin.firstCells, hle, storeCells]
theorem wpList_addAny {α : Type} {w0 : World} {xs : List α} {T : TypeId} {base : Nat} {v : Value} {P : Program} {ops : Array Oper} {rest : List Oper} {o : Oper} {a : Act} {Q : Exit → Act → World → Prop} (e : Enc α) {W : World} (hgd : o.guard = none) (s y : Operand) (t : TypeId) (z : Value) (bytes : Nat)
    (ho : o.op = .call { callee := .builtin .append, args := #[s, y], argTypes := #[t, t] })
    (ht : P.underlying t = some (.slice T)) (hinfo : (P.info? T).map (fun i => (i.zero, i.size, i.bytes)) = some (some z, e.sz, bytes)) (hz : z.cells.size = e.sz)
    (ys : List α) (B : Option Addr) (c : Nat) (hs : a.eval s = v) (hy : a.eval y = .slice B ys.length c) (HR : Rd e W B ys) (HO : Ow e T W base v xs) (hbase : base ≤ W.heap.size) (hw0 : w0.heap.size ≤ base) (HE : Ext w0 W)
    (hl : (xs.length + ys.length) * bytes ≤ 140737488355328) (hl2 : xs.length + ys.length ≤ 9223372036854775807)
    (h : ∀ v1 w1, Ow e T w1 base v1 (xs ++ ys) → Ext w0 w1 → wpList P ops Q rest (a.put o.dst v1) w1) :
    wpList P ops Q (o :: rest) a W := by
  cases B with
  | some B => exact wpList_addAll e hgd s y t z bytes ho ht hinfo hz ys B c hs hy HR HO hbase hw0 HE hl hl2 (fun v1 w1 h1 h2 _ => h v1 w1 h1 h2)
  | none =>
    have hys : ys = [] := by
      cases ys with
      | nil => rfl
      | cons y ys => obtain ⟨b, off, hb, _⟩ := HR 0 (Nat.zero_lt_succ _); cases hb
    subst hys
    obtain ⟨i, hi, hz0, hz1, hz2⟩ := info_parts hinfo
    obtain ⟨A, cap, rfl, hle, _⟩ := HO.slice
    refine wpList_plain hgd fun K hK => ?_
    have hr := run_append_nilL (P := P) W t o.type T i ht hi A xs.length cap c hle
    unfold Oper.wp execOp
    simp only [ho, resolve, invoke, builtin, Sem.run_bind, Sem.run_pure, Result.andThen_ok, List.map_toArray, List.map_cons, List.map_nil, hs, hy, List.length_nil, hr]
    exact hK _ _ (h _ _ (by rw [List.append_nil]; exact HO) HE)
set_option maxHeartbeats 2000000 in
theorem impl_split (ds : List Crd) (A : Option Addr) (cap : Nat) (h : Int) (h0 : 0 ≤ h) (h1 : h < 128) (w : World) (hR : Rd encCrd w A ds) (hn : ds.length ≤ 1048576) :
    Calls Tryd.prog 65 #[.slice A ds.length cap, .int .i64 h] w fun e w' => ∃ v u, e = .returned (.tuple #[v, u]) ∧ Ow encCrd 60 w' w.heap.size v (stayTo ds h ds.length) ∧ Ow encCrd 60 w' w.heap.size u (dropTo ds h ds.length) ∧ Ext w w' := by
  have hz1 := stay_zero ds h
  have hz2 := drop_zero ds h
  have hhit := fun k hk => stay_hit (ds := ds) (h := h) (k := k) hk
  have hmiss := fun k hk => stay_miss (ds := ds) (h := h) (k := k) hk
  have hlen := stay_len ds h
  go_enter Tryd.func65, Tryd.ntmps65
  go_wp2
  go_loopg [6, 7, 14] ds.length (fun g v u i wr => ∃ k : Nat, g = ds.length - k ∧ k ≤ ds.length ∧ i = .int .i64 k ∧ Ext w wr ∧ Ow encCrd 60 wr w.heap.size v (stayTo ds h k) ∧ Ow encCrd 60 wr w.heap.size u (dropTo ds h k) ∧ ∀ b, v.ownBlock = some b → u.ownBlock ≠ some b)
  case atStart => exact ⟨0, by omega, by omega, rfl, ((Ext.refl _).alloc _).alloc _, by rw [hz1]; exact (Ow.made0 rfl (Nat.le_refl _)).ext ((Ext.refl _).alloc _), by rw [hz2]; exact Ow.made0 (by simp) (by omega), fun b hb e => by have h1 : w.heap.size = b := Option.some.inj hb; have h2 : w.heap.size + 1 = b := Option.some.inj e; omega⟩
  case round =>
    obtain ⟨k, hg, hk, rfl, hw, hV, hU, hne⟩ := hrel
    by_cases hkl : k < ds.length
    · obtain ⟨b, off, hA, hlt, _⟩ := hR k hkl
      subst hA
      obtain ⟨m0, m1, m2, m3⟩ := (hR.ext hw).crd k hkl
      have hhit := hhit k hkl
      have hmiss := hmiss k hkl
      obtain ⟨l1, l2⟩ := hlen k
      have hca := impl_has ds[k].m h h0 h1
      generalize ds[k] = c at m0 m1 m2 hca hhit hmiss
      generalize stayTo ds h k = ss at hV hhit hmiss l1
      generalize dropTo ds h k = dd at hU hhit hmiss l2
      have hbx : BoxAt (wr.alloc (.cells #[.string c.nm, .int .u64 (lo c.m), .int .u64 (hi c.m)] 60)) wr.heap.size #[.string c.nm, .int .u64 (lo c.m), .int .u64 (hi c.m)] 60 := BoxAt.new' rfl
      have hwA := hw.alloc (.cells #[.string c.nm, .int .u64 (lo c.m), .int .u64 (hi c.m)] 60)
      have hVA := hV.ext ((Ext.refl wr).alloc (.cells #[.string c.nm, .int .u64 (lo c.m), .int .u64 (hi c.m)] 60))
      have hUA := hU.ext ((Ext.refl wr).alloc (.cells #[.string c.nm, .int .u64 (lo c.m), .int .u64 (hi c.m)] 60))
      go_wp2_with fail
      refine Calls.mono (hca _) ?_
      rintro e w2 ⟨rfl, hb2⟩
      replace hbx := hbx.ext hb2
      have hw2 := hwA.trans hb2
      have hV2 := hVA.ext hb2
      have hU2 := hUA.ext hb2
      have hltV := hV2.lt
      have hltU := hU2.lt
      clear hV hU hw hVA hUA hwA hb2 hca m0 m1 m2 m3 hlen
      have x0 : w2.cell? ⟨wr.heap.size, 0, none⟩ = some (.string c.nm) := hbx.cell 0
      have x1 : w2.cell? ⟨wr.heap.size, 1, none⟩ = some (.int .u64 (lo c.m)) := hbx.cell 1
      have x2 : w2.cell? ⟨wr.heap.size, 2, none⟩ = some (.int .u64 (hi c.m)) := hbx.cell 2
      have lB := hbx.lt
      have hs2 := hw2.size
      cases hh : mhas c.m h with
      | true =>
        obtain ⟨e1, e2⟩ := hhit hh
        have e1 := hd e1
        have e2 := hd e2
        clear hhit hmiss hh
        go_wp2_with (at_builtin; refine wpList_push2 (w0 := w) (base := w.heap.size) (xs := dd) encCrd (by rfl) _ _ 29 (.agg #[.string ⟨#[]⟩, .int .u64 0, .int .u64 0]) 32 (by rfl) Tryd.underlying29 info_Crd (by rfl) (c) (by rfl) (by rfl) (by simp) (hU2) (by have := (hw2 : Ext w _).size; simp at this ⊢; omega) (by omega) (hw2) (by omega) (by omega) ?_)
        intro v3 w3 hO3 hb3 hg3 ho3
        have hV3 := hV2.grown hg3 (by
          cases hv : u6.ownBlock with
          | none => exact .inl rfl
          | some b => exact .inr fun e => hne b hv e.symm)
        have hne3 : ∀ b, u6.ownBlock = some b → v3.ownBlock ≠ some b := fun b hb e => by
          rcases ho3 with h1 | ⟨bb, h1, h2⟩
          · exact hne b hb (h1.symm.trans e)
          · rw [h1] at e
            have := (hltV _ hb).2
            have := Option.some.inj e
            omega
        go_wp2
        go_roundg (ds.length - (k + 1))
        case rel => exact ⟨k + 1, rfl, hkl, by simp, hb3, by rw [e1.out]; exact hV3, by rw [e2.out]; exact hO3, hne3⟩
        case measure => omega
      | false =>
        obtain ⟨e1, e2⟩ := hmiss hh
        have e1 := hd e1
        have e2 := hd e2
        clear hhit hmiss hh
        go_wp2_with (at_builtin; refine wpList_push2 (w0 := w) (base := w.heap.size) (xs := ss) encCrd (by rfl) _ _ 29 (.agg #[.string ⟨#[]⟩, .int .u64 0, .int .u64 0]) 32 (by rfl) Tryd.underlying29 info_Crd (by rfl) (c) (by rfl) (by rfl) (by simp) (hV2) (by have := (hw2 : Ext w _).size; simp at this ⊢; omega) (by omega) (hw2) (by omega) (by omega) ?_)
        intro v3 w3 hO3 hb3 hg3 ho3
        have hU3 := hU2.grown hg3 (by
          cases hv : u7.ownBlock with
          | none => exact .inl rfl
          | some b => exact .inr fun e => hne b e.symm hv)
        have hne3 : ∀ b, v3.ownBlock = some b → u7.ownBlock ≠ some b := fun b hb e => by
          rcases ho3 with h1 | ⟨bb, h1, h2⟩
          · exact hne b (h1.symm.trans hb) e
          · rw [h1] at hb
            have := (hltU _ e).2
            have := Option.some.inj hb
            omega
        go_wp2
        go_roundg (ds.length - (k + 1))
        case rel => exact ⟨k + 1, rfl, hkl, by simp, hb3, by rw [e1.out]; exact hO3, by rw [e2.out]; exact hU3, hne3⟩
        case measure => omega
    · obtain rfl : k = ds.length := by omega
      go_wp2
      refine bodyPost_ret (v := .tuple #[u6, u7]) (by simp [results, Tryd.results65, go_sem]) rfl ⟨u6, u7, rfl, hV, hU, hw⟩
set_option maxHeartbeats 2000000 in
theorem spec_l02Split (ds : List Crd) (A : Option Addr) (cap : Nat) (h : Int) (h0 : 0 ≤ h) (h1 : h < 128) (w : World) (hR : Rd encCrd w A ds) (hn : ds.length ≤ 1048576) :
    Calls Tryd.prog 58 #[.slice A ds.length cap, .int .i64 h] w fun e w' => ∃ v u, e = .returned (.tuple #[v, u]) ∧ Ow encCrd 60 w' w.heap.size v (stayTo ds h ds.length) ∧ Ow encCrd 60 w' w.heap.size u (dropTo ds h ds.length) ∧ Ext w w' := by
  have hz1 := stay_zero ds h
  have hz2 := drop_zero ds h
  have hhit := fun k hk => stay_hit (ds := ds) (h := h) (k := k) hk
  have hmiss := fun k hk => stay_miss (ds := ds) (h := h) (k := k) hk
  have hlen := stay_len ds h
  go_enter Tryd.func58, Tryd.ntmps58
  go_wp2
  go_loopg [6, 7, 8] ds.length (fun g v u i wr => ∃ k : Nat, g = ds.length - k ∧ k ≤ ds.length ∧ i = .int .i64 k ∧ Ext w wr ∧ Ow encCrd 60 wr w.heap.size v (stayTo ds h k) ∧ Ow encCrd 60 wr w.heap.size u (dropTo ds h k) ∧ ∀ b, v.ownBlock = some b → u.ownBlock ≠ some b)
  case atStart => exact ⟨0, by omega, by omega, rfl, ((Ext.refl _).alloc _).alloc _, by rw [hz1]; exact (Ow.made0 rfl (Nat.le_refl _)).ext ((Ext.refl _).alloc _), by rw [hz2]; exact Ow.made0 (by simp) (by omega), fun b hb e => by have h1 : w.heap.size = b := Option.some.inj hb; have h2 : w.heap.size + 1 = b := Option.some.inj e; omega⟩
  case round =>
    obtain ⟨k, hg, hk, rfl, hw, hV, hU, hne⟩ := hrel
    by_cases hkl : k < ds.length
    · obtain ⟨b, off, hA, hlt, _⟩ := hR k hkl
      subst hA
      obtain ⟨m0, m1, m2, m3⟩ := (hR.ext hw).crd k hkl
      have hhit := hhit k hkl
      have hmiss := hmiss k hkl
      obtain ⟨l1, l2⟩ := hlen k
      have hca := spec_l01Has ds[k].m h h0 h1
      generalize ds[k] = c at m0 m1 m2 hca hhit hmiss
      generalize stayTo ds h k = ss at hV hhit hmiss l1
      generalize dropTo ds h k = dd at hU hhit hmiss l2
      have hk0 : (0 : Int) ≤ k ∧ (k : Int) < ds.length := ⟨by omega, by omega⟩
      go_wp2_with fail
      refine Calls.mono (hca _) ?_
      rintro e w2 ⟨rfl, hb2⟩
      have hw2 := hw.trans hb2
      have hV2 := hV.ext hb2
      have hU2 := hU.ext hb2
      have hltV := hV2.lt
      have hltU := hU2.lt
      have x0 := hb2.cell m0
      have x1 := hb2.cell m1
      have x2 := hb2.cell m2
      have x3 := Nat.lt_of_lt_of_le m3 hb2.size
      clear hV hU hw hb2 hca m0 m1 m2 m3 hlen
      have hs2 := hw2.size
      cases hh : mhas c.m h with
      | true =>
        obtain ⟨e1, e2⟩ := hhit hh
        have e1 := hd e1
        have e2 := hd e2
        clear hhit hmiss hh
        go_wp2_with (at_builtin; refine wpList_push2 (w0 := w) (base := w.heap.size) (xs := dd) encCrd (by rfl) _ _ 29 (.agg #[.string ⟨#[]⟩, .int .u64 0, .int .u64 0]) 32 (by rfl) Tryd.underlying29 info_Crd (by rfl) (c) (by rfl) (by rfl) (by simp) (hU2) (by have := (hw2 : Ext w _).size; simp at this ⊢; omega) (by omega) (hw2) (by omega) (by omega) ?_)
        intro v3 w3 hO3 hb3 hg3 ho3
        have hV3 := hV2.grown hg3 (by
          cases hv : u6.ownBlock with
          | none => exact .inl rfl
          | some b => exact .inr fun e => hne b hv e.symm)
        have hne3 : ∀ b, u6.ownBlock = some b → v3.ownBlock ≠ some b := fun b hb e => by
          rcases ho3 with h1 | ⟨bb, h1, h2⟩
          · exact hne b hb (h1.symm.trans e)
          · rw [h1] at e
            have := (hltV _ hb).2
            have := Option.some.inj e
            omega
        go_wp2
        go_roundg (ds.length - (k + 1))
        case rel => exact ⟨k + 1, rfl, hkl, by simp, hb3, by rw [e1.out]; exact hV3, by rw [e2.out]; exact hO3, hne3⟩
        case measure => omega
      | false =>
        obtain ⟨e1, e2⟩ := hmiss hh
        have e1 := hd e1
        have e2 := hd e2
        clear hhit hmiss hh
        go_wp2_with (at_builtin; refine wpList_push2 (w0 := w) (base := w.heap.size) (xs := ss) encCrd (by rfl) _ _ 29 (.agg #[.string ⟨#[]⟩, .int .u64 0, .int .u64 0]) 32 (by rfl) Tryd.underlying29 info_Crd (by rfl) (c) (by rfl) (by rfl) (by simp) (hV2) (by have := (hw2 : Ext w _).size; simp at this ⊢; omega) (by omega) (hw2) (by omega) (by omega) ?_)
        intro v3 w3 hO3 hb3 hg3 ho3
        have hU3 := hU2.grown hg3 (by
          cases hv : u7.ownBlock with
          | none => exact .inl rfl
          | some b => exact .inr fun e => hne b e.symm hv)
        have hne3 : ∀ b, v3.ownBlock = some b → u7.ownBlock ≠ some b := fun b hb e => by
          rcases ho3 with h1 | ⟨bb, h1, h2⟩
          · exact hne b (h1.symm.trans hb) e
          · rw [h1] at hb
            have := (hltU _ e).2
            have := Option.some.inj hb
            omega
        go_wp2
        go_roundg (ds.length - (k + 1))
        case rel => exact ⟨k + 1, rfl, hkl, by simp, hb3, by rw [e1.out]; exact hO3, by rw [e2.out]; exact hU3, hne3⟩
        case measure => omega
    · obtain rfl : k = ds.length := by omega
      go_wp2
      refine bodyPost_ret (v := .tuple #[u6, u7]) (by simp [results, Tryd.results58, go_sem]) rfl ⟨u6, u7, rfl, hV, hU, hw⟩
set_option maxHeartbeats 2000000 in
theorem impl_passMany (ds : List Crd) (A : Option Addr) (cap : Nat) (hs : List Int) (B : Option Addr) (cap' : Nat) (w : World) (hR : Rd encCrd w A ds) (hn : ds.length ≤ 1048576) (hS : Rd encI64 w B hs) (hm : hs.length ≤ 1048576) (hin : ∀ h ∈ hs, 0 ≤ h ∧ h < 128) :
    Calls Tryd.prog 38 #[.slice A ds.length cap, .slice B hs.length cap'] w fun e w' => ∃ v, e = .returned v ∧ Ow encCrd 60 w' w.heap.size v (passesF ds hs) ∧ Ext w w' := by
  have htk := fun k hk => passesF_take ds hs k hk
  have hlen := fun k => passes_len ds hs k
  have hz : passesF ds (hs.take 0) = ds := by rw [List.take_zero]; rfl
  have hall : passesF ds (hs.take hs.length) = passesF ds hs := by rw [List.take_length]
  have hst := stay_all
  have hsl := stay_len
  go_enter Tryd.func38, Tryd.ntmps38
  go_wp2_with (at_builtin; refine wpList_addAny (w0 := w) (base := w.heap.size) (xs := []) encCrd (by rfl) _ _ 29 (.agg #[.string ⟨#[]⟩, .int .u64 0, .int .u64 0]) 32 (by rfl) Tryd.underlying29 info_Crd (by rfl) ds A cap (by rfl) (by rfl) (hR.ext ((Ext.refl _).alloc _)) (Ow.made0 rfl (Nat.le_refl _)) (by simp) (Nat.le_refl _) ((Ext.refl _).alloc _) (by simp only [List.length_nil]; omega) (by simp only [List.length_nil]; omega) ?_)
  intro v1 w1 hO1 hb1
  have hO1 : Ow encCrd 60 w1 w.heap.size v1 ds := hO1
  go_wp2
  go_loopg [5, 15] hs.length (fun g v i wr => ∃ k : Nat, g = hs.length - k ∧ k ≤ hs.length ∧ i = .int .i64 k ∧ Ext w wr ∧ Ow encCrd 60 wr w.heap.size v (passesF ds (hs.take k)))
  case atStart => exact ⟨0, by omega, by omega, rfl, hb1, by rw [hz]; exact hO1⟩
  case round =>
    obtain ⟨k, hg, hk, rfl, hw, hO⟩ := hrel
    by_cases hkl : k < hs.length
    · obtain ⟨b, off, hB, hlt, _⟩ := hS k hkl
      subst hB
      have l0 := (hS.ext hw).i64 k hkl
      have l1 := World.block_lt_of_cell? _ _ l0
      dsimp only at l1
      have htk := htk k hkl
      have hl := hlen k
      obtain ⟨g0, g1⟩ := hin _ (List.getElem_mem hkl)
      generalize hs[k] = z at l0 htk g0 g1
      have hk0 : (0 : Int) ≤ k ∧ (k : Int) < hs.length := ⟨by omega, by omega⟩
      obtain ⟨C, c, rfl, hle, _⟩ := hO.slice
      rw [hl] at hO ⊢
      have hcall := fun W (hE : Ext wr W) => impl_split (passesF ds (hs.take k)) C c z g0 g1 W (hO.rdA.ext hE) (by omega)
      rw [hl] at hcall
      obtain ⟨q1, q2⟩ := hsl (passesF ds (hs.take k)) z ds.length
      have hst := hst (passesF ds (hs.take k)) z
      rw [← htk, hl] at hst
      have hst := hd hst
      clear htk hsl hlen hle
      generalize passesF ds (hs.take k) = ps at hcall hO q1 q2 hst
      go_wp2_with fail
      refine Calls.mono (hcall _ (Ext.refl _)) ?_
      rintro e w2 ⟨v2, u2, rfl, hV, hU, hb2⟩
      have hw2 := hw.trans hb2
      obtain ⟨C2, c2, rfl, _, _⟩ := hU.slice
      have hs2 := hw.size
      have hs3 := hb2.size
      go_wp2_with (at_builtin; refine wpList_addAny (w0 := w) (base := w.heap.size) (xs := stayTo ps z ds.length) encCrd (by rfl) _ _ 29 (.agg #[.string ⟨#[]⟩, .int .u64 0, .int .u64 0]) 32 (by rfl) Tryd.underlying29 info_Crd (by rfl) (dropTo ps z ds.length) C2 c2 (by rfl) (by rfl) hU.rdA (hV.lower hs2) (by omega) (Nat.le_refl _) hw2 (by omega) (by omega) ?_)
      intro v3 w3 hO3 hb3
      go_wp2
      go_roundg (hs.length - (k + 1))
      case rel => exact ⟨k + 1, rfl, hkl, by simp, hb3, by rw [← hst.out]; exact hO3⟩
      case measure => omega
    · obtain rfl : k = hs.length := by omega
      rw [hall] at hO
      go_wp2
      go_ret
      exact ⟨_, rfl, hO, hw⟩
set_option maxHeartbeats 2000000 in
theorem spec_l02Many (ds : List Crd) (A : Option Addr) (cap : Nat) (hs : List Int) (B : Option Addr) (cap' : Nat) (w : World) (hR : Rd encCrd w A ds) (hn : ds.length ≤ 1048576) (hS : Rd encI64 w B hs) (hm : hs.length ≤ 1048576) (hin : ∀ h ∈ hs, 0 ≤ h ∧ h < 128) :
    Calls Tryd.prog 33 #[.slice A ds.length cap, .slice B hs.length cap'] w fun e w' => ∃ v, e = .returned v ∧ Ow encCrd 60 w' w.heap.size v (passesF ds hs) ∧ Ext w w' := by
  have htk := fun k hk => passesF_take ds hs k hk
  have hlen := fun k => passes_len ds hs k
  have hz : passesF ds (hs.take 0) = ds := by rw [List.take_zero]; rfl
  have hall : passesF ds (hs.take hs.length) = passesF ds hs := by rw [List.take_length]
  have hst := stay_all
  have hsl := stay_len
  go_enter Tryd.func33, Tryd.ntmps33
  go_wp2_with (at_builtin; refine wpList_addAny (w0 := w) (base := w.heap.size) (xs := []) encCrd (by rfl) _ _ 29 (.agg #[.string ⟨#[]⟩, .int .u64 0, .int .u64 0]) 32 (by rfl) Tryd.underlying29 info_Crd (by rfl) ds A cap (by rfl) (by rfl) (hR.ext ((Ext.refl _).alloc _)) (Ow.made0 rfl (Nat.le_refl _)) (by simp) (Nat.le_refl _) ((Ext.refl _).alloc _) (by simp only [List.length_nil]; omega) (by simp only [List.length_nil]; omega) ?_)
  intro v1 w1 hO1 hb1
  have hO1 : Ow encCrd 60 w1 w.heap.size v1 ds := hO1
  go_wp2
  go_loopg [5, 6] hs.length (fun g v i wr => ∃ k : Nat, g = hs.length - k ∧ k ≤ hs.length ∧ i = .int .i64 k ∧ Ext w wr ∧ Ow encCrd 60 wr w.heap.size v (passesF ds (hs.take k)))
  case atStart => exact ⟨0, by omega, by omega, rfl, hb1, by rw [hz]; exact hO1⟩
  case round =>
    obtain ⟨k, hg, hk, rfl, hw, hO⟩ := hrel
    by_cases hkl : k < hs.length
    · obtain ⟨b, off, hB, hlt, _⟩ := hS k hkl
      subst hB
      have l0 := (hS.ext hw).i64 k hkl
      have l1 := World.block_lt_of_cell? _ _ l0
      dsimp only at l1
      have htk := htk k hkl
      have hl := hlen k
      obtain ⟨g0, g1⟩ := hin _ (List.getElem_mem hkl)
      generalize hs[k] = z at l0 htk g0 g1
      have hk0 : (0 : Int) ≤ k ∧ (k : Int) < hs.length := ⟨by omega, by omega⟩
      obtain ⟨C, c, rfl, hle, _⟩ := hO.slice
      rw [hl] at hO ⊢
      have hcall := fun W (hE : Ext wr W) => spec_l02Split (passesF ds (hs.take k)) C c z g0 g1 W (hO.rdA.ext hE) (by omega)
      rw [hl] at hcall
      obtain ⟨q1, q2⟩ := hsl (passesF ds (hs.take k)) z ds.length
      have hst := hst (passesF ds (hs.take k)) z
      rw [← htk, hl] at hst
      have hst := hd hst
      clear htk hsl hlen hle
      generalize passesF ds (hs.take k) = ps at hcall hO q1 q2 hst
      go_wp2_with fail
      refine Calls.mono (hcall _ (Ext.refl _)) ?_
      rintro e w2 ⟨v2, u2, rfl, hV, hU, hb2⟩
      have hw2 := hw.trans hb2
      obtain ⟨C2, c2, rfl, _, _⟩ := hU.slice
      have hs2 := hw.size
      have hs3 := hb2.size
      go_wp2_with (at_builtin; refine wpList_addAny (w0 := w) (base := w.heap.size) (xs := stayTo ps z ds.length) encCrd (by rfl) _ _ 29 (.agg #[.string ⟨#[]⟩, .int .u64 0, .int .u64 0]) 32 (by rfl) Tryd.underlying29 info_Crd (by rfl) (dropTo ps z ds.length) C2 c2 (by rfl) (by rfl) hU.rdA (hV.lower hs2) (by omega) (Nat.le_refl _) hw2 (by omega) (by omega) ?_)
      intro v3 w3 hO3 hb3
      go_wp2
      go_roundg (hs.length - (k + 1))
      case rel => exact ⟨k + 1, rfl, hkl, by simp, hb3, by rw [← hst.out]; exact hO3⟩
      case measure => omega
    · obtain rfl : k = hs.length := by omega
      rw [hall] at hO
      go_wp2
      go_ret
      exact ⟨_, rfl, hO, hw⟩
end Go.Proofs.YtdlpifgkponnmaaDoor
set_option linter.unusedVariables false
set_option linter.unusedSimpArgs false
set_option maxRecDepth 100000
namespace Go.Proofs.YtdlpifgkponnmaaDoor
open Go.RowKit
def upF (st : Int) (n : Nat) : List Int := (List.range n).map fun j : Nat => st + (j : Int)
def downF (st : Int) (n : Nat) : List Int := (List.range n).map fun j : Nat => st + (n : Int) - 1 - (j : Int)
theorem upF_len (st : Int) (n : Nat) : (upF st n).length = n := by unfold upF; rw [List.length_map, List.length_range]
theorem downF_len (st : Int) (n : Nat) : (downF st n).length = n := by unfold downF; rw [List.length_map, List.length_range]
theorem upF_at (st : Int) (n k : Nat) (h : k < (upF st n).length) : (upF st n)[k] = st + (k : Int) := by simp only [upF, List.getElem_map, List.getElem_range]
theorem downF_at (st : Int) (n k : Nat) (h : k < (downF st n).length) : (downF st n)[k] = st + (n : Int) - 1 - (k : Int) := by simp only [downF, List.getElem_map, List.getElem_range]
theorem upF_take (st : Int) (n k : Nat) (h : k ≤ n) : (upF st n).take k = upF st k := by unfold upF; rw [← List.map_take, List.take_range, Nat.min_eq_left h]
theorem upF_rev (st : Int) (n : Nat) : (upF st n).reverse = downF st n := by
  refine List.ext_getElem (by rw [List.length_reverse, upF_len, downF_len]) (fun k h1 h2 => ?_)
  rw [List.getElem_reverse, upF_at, downF_at, upF_len]
  rw [downF_len] at h2
  omega
def wideF (f : Fld) : Nat := (manyF f.kd f.sz).toNat
def sortN (f : Fld) : Nat := if f.kd = 3 then wideF f - 1 else wideF f
def sortF (f : Fld) : List Int := if f.kd = 0 then upF f.st (sortN f) else downF f.st (sortN f)
theorem wide_bd {f : Fld} (h : fldB f = true) : (wideF f : Int) = manyF f.kd f.sz ∧ 1 ≤ wideF f ∧ 0 ≤ f.st ∧ f.st + (wideF f : Int) ≤ 96 := by
  obtain ⟨_, k0, k3, s0, z0, z1, z2⟩ := fldB_parts h
  have hm : 1 ≤ manyF f.kd f.sz := by unfold manyF; split <;> (try split) <;> (try split) <;> omega
  unfold wideF
  omega
theorem holes_part {f : Fld} (h : fldB f = true) : holesTo (partF f) 96 = upF f.st (wideF f) := by
  obtain ⟨h1, h2, h3, h4⟩ := wide_bd h
  obtain ⟨s, hs⟩ : ∃ s : Nat, f.st = s := ⟨f.st.toNat, by omega⟩
  unfold partF
  rw [← h1, hs, holesTo_range s (wideF f) (by omega) 96, show min (wideF f) (96 - s) = wideF f by omega]
  unfold upF
  refine List.map_congr_left (fun j _ => by omega)
theorem sort_in {f : Fld} (h : fldB f = true) : ∀ z ∈ sortF f, 0 ≤ z ∧ z < 128 := by
  obtain ⟨h1, h2, h3, h4⟩ := wide_bd h
  have hn : sortN f ≤ wideF f := by unfold sortN; split <;> omega
  intro z hz
  unfold sortF at hz
  split at hz
  · obtain ⟨j, hj, rfl⟩ := List.mem_map.1 hz
    have := List.mem_range.1 hj
    omega
  · obtain ⟨j, hj, rfl⟩ := List.mem_map.1 hz
    have := List.mem_range.1 hj
    omega
theorem sort_len {f : Fld} (h : fldB f = true) : (sortF f).length ≤ 96 := by
  obtain ⟨h1, h2, h3, h4⟩ := wide_bd h
  have hn : sortN f ≤ wideF f := by unfold sortN; split <;> omega
  unfold sortF
  split
  · rw [upF_len]; omega
  · rw [downF_len]; omega
theorem all_i64 (xs : List Int) : encI64.all xs = xs.map (Value.int .i64) := by
  unfold Enc.all
  induction xs with
  | nil => rfl
  | cons x xs ih => rw [List.flatMap_cons, ih]; rfl
theorem slices_Reverse1 (xs : List Int) (n : Nat) (hn : n ≤ xs.length) (hx : xs.length ≤ 1048576) (h0 : 0 < xs.length) (A : Option Addr) (cap base : Nat) (w : World) (hO : Ow encI64 2 w base (.slice A xs.length cap) xs) :
    Calls Tryd.prog 68 #[.slice A n cap] w fun e w' => e = .returned (.tuple #[]) ∧ Rd encI64 w' A (xs.take n).reverse ∧ (∀ w0 : World, Ext w0 w → w0.heap.size ≤ base → Ext w0 w') := by
  have hv : Value.slice A xs.length cap ≠ .slice none 0 0 := fun h => by
    have h2 : xs.length = 0 := by injection h
    omega
  have hO2 : w.ownsRow base 2 1 (.slice A xs.length cap) xs.length (xs.map (Value.int .i64)) := by rw [← all_i64]; exact hO
  obtain ⟨g, cap', he, hbg, hgl, hle, hm, _, hH⟩ := Go.Lib.holds_of_ownsRow hO2 hv
  injection he with he1 _ he3
  subst he1
  have hP : Go.Sort.Holds (Value.int .i64) w g 0 (xs.take n).toArray := fun j hj => by
    have hj2 : j < n := by simp at hj; omega
    have := hH j (by simp; omega)
    simpa [hj2, getElem!_pos, show j < xs.length by omega, show j < min n xs.length by omega] using this
  have hD := Tryd.slices_Reverse_int g 0 cap (xs.take n) w hP (by rw [List.length_take]; omega)
  rw [List.length_take, Nat.min_eq_left hn] at hD
  refine hD.mono ?_
  rintro e w' ⟨rfl, q, rfl⟩
  refine ⟨rfl, ?_, fun w0 h0 hb => Go.Lib.below_putRow h0 (Nat.le_trans hb hbg)⟩
  have hP2 : Go.Sort.Holds (Value.int .i64) (Go.Sort.ahead w q) g 0 (xs.take n).toArray := fun j hj => hP j hj
  have hQ := Go.Sort.holds_putRow (Value.int .i64) (Go.Sort.ahead w q) g 0 _ (xs.take n).reverse.toArray hP2 (by simp)
  intro k hk
  have hk2 := hQ k (by simpa using hk)
  refine ⟨g, 0, rfl, World.block_lt_of_cell? _ _ hk2.1, fun j u hu => ?_⟩
  have hj : j = 0 := by
    have := (List.getElem?_eq_some_iff.1 hu).1
    have e1 : (encI64.enc ((xs.take n).reverse[k])).length = 1 := rfl
    omega
  subst hj
  have hu2 : Value.int .i64 ((xs.take n).reverse[k]) = u := by simpa [encI64] using hu
  rw [← hu2]
  have := hk2.1
  simp only [List.getElem!_toArray, getElem!_pos, hk] at this
  simpa [encI64] using this
theorem sort_0 {nm : ByteArray} {st sz : Int} : sortF ⟨nm, 0, st, sz⟩ = upF st (wideF ⟨nm, 0, st, sz⟩) := by unfold sortF sortN; rw [if_pos rfl, if_neg (fun h => by cases h)]
theorem sort_3 {nm : ByteArray} {st sz : Int} : sortF ⟨nm, 3, st, sz⟩ = ((upF st (wideF ⟨nm, 3, st, sz⟩)).take (wideF ⟨nm, 3, st, sz⟩ - 1)).reverse := by
  rw [upF_take _ _ _ (Nat.sub_le _ _), upF_rev]; unfold sortF sortN; rw [if_neg (fun h => by cases h), if_pos rfl]
theorem sort_m {nm : ByteArray} {kd st sz : Int} (h0 : kd ≠ 0) (h3 : kd ≠ 3) : sortF ⟨nm, kd, st, sz⟩ = ((upF st (wideF ⟨nm, kd, st, sz⟩)).take (wideF ⟨nm, kd, st, sz⟩)).reverse := by
  rw [upF_take _ _ _ (Nat.le_refl _), upF_rev]; unfold sortF sortN; rw [if_neg h0, if_neg h3]
set_option maxHeartbeats 2000000 in
theorem impl_sorting (f : Fld) (hf : fldB f = true) (w : World) :
    Calls Tryd.prog 39 #[.agg #[.string f.nm, .int .i8 f.kd, .int .i16 f.st, .int .i16 f.sz]] w fun e w' => ∃ B c, e = .returned (.slice B (sortF f).length c) ∧ Rd encI64 w' B (sortF f) ∧ Ext w w' := by
  have hpa := impl_part f.nm f.kd f.st f.sz hf
  have hho := impl_holes (partF f)
  rw [holes_part hf] at hho
  obtain ⟨h1, h2, h3, h4⟩ := wide_bd hf
  obtain ⟨_, k0, k3, _⟩ := fldB_parts hf
  obtain ⟨nm, kd, st, sz⟩ := f
  dsimp only at hpa k0 k3 h3 h4
  have s0 := sort_0 (nm := nm) (st := st) (sz := sz)
  have s3 := sort_3 (nm := nm) (st := st) (sz := sz)
  have sm := sort_m (nm := nm) (kd := kd) (st := st) (sz := sz)
  have hul := upF_len st (wideF ⟨nm, kd, st, sz⟩)
  have hX : BoxAt (w.alloc (.cells #[.string nm, .int .i8 kd, .int .i16 st, .int .i16 sz] 33)) w.heap.size #[.string nm, .int .i8 kd, .int .i16 st, .int .i16 sz] 33 := BoxAt.new' rfl
  generalize partF ⟨nm, kd, st, sz⟩ = pm at hpa hho
  have hsl : (sortF ⟨nm, kd, st, sz⟩).length = sortN ⟨nm, kd, st, sz⟩ := by unfold sortF; split; exact upF_len _ _; exact downF_len _ _
  have hsn : sortN ⟨nm, kd, st, sz⟩ = if kd = 3 then wideF ⟨nm, kd, st, sz⟩ - 1 else wideF ⟨nm, kd, st, sz⟩ := rfl
  rw [hsl]
  clear hsl
  by_cases e0 : kd = 0
  · subst e0
    rw [s0]
    rw [hsn, if_neg (by decide)]
    clear s0 s3 sm hsn
    generalize wideF ⟨nm, 0, st, sz⟩ = n at *
    go_enter Tryd.func39, Tryd.ntmps39
    go_wp2_with fail
    refine Calls.mono (hpa _) ?_
    rintro e w1 ⟨rfl, hb1⟩
    go_wp2_with fail
    refine Calls.mono (hho _) ?_
    rintro e w2 ⟨v2, rfl, hO2, hb2⟩
    have hw2 := ((Ext.refl w).alloc _).trans (hb1.trans hb2)
    have hX2 := hX.ext (hb1.trans hb2)
    obtain ⟨B, c, rfl, _, hRB⟩ := hO2.slice
    rw [hul]
    have x1 : w2.cell? ⟨w.heap.size, 1, none⟩ = some (.int .i8 0) := hX2.cell 1
    have lX := hX2.lt
    go_wp2
    go_ret
    exact ⟨B, c, rfl, hRB, hw2⟩
  · by_cases e3 : kd = 3
    · subst e3
      rw [s3]
      rw [hsn, if_pos rfl]
      clear s0 s3 sm hsn
      generalize wideF ⟨nm, 3, st, sz⟩ = n at *
      obtain ⟨p, rfl⟩ : ∃ p, n = p + 1 := ⟨n - 1, by omega⟩
      rw [Nat.add_sub_cancel]
      have hrv := fun A c base W => slices_Reverse1 (upF st (p + 1)) p (by omega) (by omega) (by omega) A c base W
      rw [hul] at hrv
      have hp : p ≤ 95 := by omega
      go_enter Tryd.func39, Tryd.ntmps39
      go_wp2_with fail
      refine Calls.mono (hpa _) ?_
      rintro e w1 ⟨rfl, hb1⟩
      go_wp2_with fail
      refine Calls.mono (hho _) ?_
      rintro e w2 ⟨v2, rfl, hO2, hb2⟩
      have hw2 := ((Ext.refl w).alloc _).trans (hb1.trans hb2)
      have hX2 := hX.ext (hb1.trans hb2)
      have hs1 : w.heap.size ≤ w1.heap.size := (((Ext.refl w).alloc _).trans hb1).size
      obtain ⟨B, c, rfl, hlc, _⟩ := hO2.slice
      rw [hul] at hO2 hlc ⊢
      obtain ⟨bB, oB, rfl, _, _⟩ := hO2.rdA 0 (by omega)
      have x1 : w2.cell? ⟨w.heap.size, 1, none⟩ = some (.int .i8 3) := hX2.cell 1
      have lX := hX2.lt
      have hn1 : (p : Int) ≤ c := by omega
      clear h1 h2 k0 k3 hlc hpa hho hX hX2 hb1 hb2
      go_wp2_with fail
      refine Calls.mono (hrv _ _ _ _ hO2) ?_
      rintro e w3 ⟨rfl, hR3, hE3⟩
      have hw3 := hE3 w hw2 hs1
      go_wp2
      go_ret
      exact ⟨_, _, rfl, hR3, hw3⟩
    · rw [sm e0 e3]
      rw [hsn, if_neg e3]
      have g0 : (kd == 0) = false := beq_eq_false_iff_ne.2 e0
      have g3 : (kd == 3) = false := beq_eq_false_iff_ne.2 e3
      clear s0 s3 sm hsn
      generalize wideF ⟨nm, kd, st, sz⟩ = n at *
      have hrv := fun A c base W => slices_Reverse1 (upF st n) n (by omega) (by omega) (by omega) A c base W
      rw [hul] at hrv
      go_enter Tryd.func39, Tryd.ntmps39
      go_wp2_with fail
      refine Calls.mono (hpa _) ?_
      rintro e w1 ⟨rfl, hb1⟩
      go_wp2_with fail
      refine Calls.mono (hho _) ?_
      rintro e w2 ⟨v2, rfl, hO2, hb2⟩
      have hw2 := ((Ext.refl w).alloc _).trans (hb1.trans hb2)
      have hX2 := hX.ext (hb1.trans hb2)
      have hs1 : w.heap.size ≤ w1.heap.size := (((Ext.refl w).alloc _).trans hb1).size
      obtain ⟨B, c, rfl, hlc, _⟩ := hO2.slice
      rw [hul] at hO2 hlc ⊢
      have x1 : w2.cell? ⟨w.heap.size, 1, none⟩ = some (.int .i8 kd) := hX2.cell 1
      have lX := hX2.lt
      go_wp2_with fail
      refine Calls.mono (hrv _ _ _ _ hO2) ?_
      rintro e w3 ⟨rfl, hR3, hE3⟩
      have hw3 := hE3 w hw2 hs1
      go_wp2
      go_ret
      exact ⟨_, _, rfl, hR3, hw3⟩
theorem sort_at {nm : ByteArray} {kd st sz : Int} (k : Nat) (h : k < (sortF ⟨nm, kd, st, sz⟩).length) : (kd = 0 → (sortF ⟨nm, kd, st, sz⟩)[k] = st + (k : Int)) ∧ (kd ≠ 0 → (sortF ⟨nm, kd, st, sz⟩)[k] = st + (sortN ⟨nm, kd, st, sz⟩ : Int) - 1 - (k : Int)) := by
  constructor
  · intro e; simp only [sortF, e, if_true]; exact upF_at _ _ _ _
  · intro e; simp only [sortF, e, if_false]; exact downF_at _ _ _ _
set_option maxHeartbeats 2000000 in
theorem spec_l02Holes (f : Fld) (hf : fldB f = true) (hz0 : -32768 ≤ f.sz) (hz1 : f.sz < 32768) (b o : Nat) (w : World) (hF : FldAt w b o f) :
    Calls Tryd.prog 34 #[.pointer (some ⟨b, o, none⟩)] w fun e w' => ∃ v, e = .returned v ∧ Ow encI64 2 w' w.heap.size v (sortF f) ∧ Ext w w' := by
  have hwi := fun (W : World) (h : FldAt W b o f) => spec_l01Width b o f hz0 hz1 W h
  obtain ⟨h1, h2, h3, h4⟩ := wide_bd hf
  obtain ⟨_, k0, k3, _⟩ := fldB_parts hf
  have hsl : (sortF f).length = sortN f := by unfold sortF; split; exact upF_len _ _; exact downF_len _ _
  have hsn : sortN f = if f.kd = 3 then wideF f - 1 else wideF f := rfl
  have hat : ∀ k (h : k < (sortF f).length), (f.kd = 0 → (sortF f)[k] = f.st + (k : Int)) ∧ (f.kd ≠ 0 → (sortF f)[k] = f.st + (sortN f : Int) - 1 - (k : Int)) := by
    obtain ⟨nm, kd, st, sz⟩ := f
    exact fun k h => sort_at k h
  rw [← h1] at hwi
  have htk : ∀ k (h : k < (sortF f).length), (sortF f).take (k + 1) = (sortF f).take k ++ [(sortF f)[k]] := fun k h => List.take_succ_eq_append_getElem h
  have hall : (sortF f).take (sortF f).length = sortF f := List.take_length
  have hln : ∀ k, ((sortF f).take k).length ≤ k := fun k => by rw [List.length_take]; omega
  generalize hs : sortF f = xs at hat htk hall hsl hln
  generalize hnn : sortN f = n at hat hsl hsn
  generalize wideF f = W0 at *
  obtain ⟨nm, kd, st, sz⟩ := f
  dsimp only at hat hsn k0 k3 h3 h4
  clear hs hnn h1 hf
  obtain ⟨g0, g1, g2, g3⟩ := hF
  dsimp only at g0 g1 g2 g3
  have lS := World.block_lt_of_cell? _ _ g0
  dsimp only at lS
  have hnb : n ≤ 96 := by rw [hsn]; split <;> omega
  go_enter Tryd.func34, Tryd.ntmps34
  go_wp2_with fail
  refine Calls.mono (hwi _ ⟨((Ext.refl w).alloc _).cell g0, ((Ext.refl w).alloc _).cell g1, ((Ext.refl w).alloc _).cell g2, ((Ext.refl w).alloc _).cell g3⟩) ?_
  rintro e w1 ⟨rfl, hb1⟩
  have hw1 := ((Ext.refl w).alloc _).trans hb1
  have hO1 : Ow encI64 2 w1 w.heap.size (.slice (some ⟨w.heap.size, 0, none⟩) 0 0) [] := (Ow.made0 rfl (Nat.le_refl _)).ext hb1
  have c1 := hw1.cell g1
  have l1 := Nat.lt_of_lt_of_le lS hw1.size
  have hn3 : IntKind.i64.wrap ((W0 : Int) - 1) = (W0 : Int) - 1 := IntWalk.i64_in _ (by omega)
  by_cases e3 : kd = 3
  · have q3 : (kd == 3) = true := beq_iff_eq.2 e3
    have q0 : (kd == 0) = false := beq_eq_false_iff_ne.2 (by omega)
    rw [if_pos e3] at hsn
    have hWn : (W0 : Int) - 1 = n := by omega
    have e0 : kd ≠ 0 := by omega
    clear hsn h2 k0 k3 e3 hb1
    go_wp2
    go_loopg [3, 5] n (fun g v i wr => ∃ k : Nat, g = n - k ∧ k ≤ n ∧ i = .int .i64 k ∧ Ext w wr ∧ Ow encI64 2 wr w.heap.size v (xs.take k))
    case atStart => exact ⟨0, by omega, by omega, rfl, hw1, by rw [List.take_zero]; exact hO1⟩
    case round =>
      obtain ⟨k, hg, hk, rfl, hw, hO⟩ := hrel
      by_cases hkl : k < n
      · have d1 := hw.cell g1
        have d2 := hw.cell g2
        have ld := Nat.lt_of_lt_of_le lS hw.size
        have hx := (hat k (by omega)).2 e0
        have htk := htk k (by omega)
        rw [hx] at htk
        have htk := hd htk
        have hl := hln k
        generalize xs.take k = ys at hO htk hl
        clear hx hat hln
        go_wp2_with (at_builtin; refine wpList_push2 (w0 := w) (base := w.heap.size) (xs := ys) encI64 (by rfl) _ _ 49 (.int .i64 0) 8 (by rfl) Tryd.underlying49 info_i64 (by rfl) ((st + (n : Int) - 1 - (k : Int))) (by rfl) (by rfl) (by simp) (hO) (by have := (hw : Ext w _).size; simp at this ⊢; omega) (by omega) (hw) (by omega) (by omega) ?_)
        intro v3 w3 hO3 hb3 hg3 ho3
        go_wp2
        go_roundg (n - (k + 1))
        case rel => exact ⟨k + 1, rfl, hkl, by simp, hb3, by rw [htk.out]; exact hO3⟩
        case measure => omega
      · obtain rfl : k = n := by omega
        rw [← hsl, hall] at hO
        go_wp2
        go_ret
        exact ⟨_, rfl, hO, hw⟩
  · have q3 : (kd == 3) = false := beq_eq_false_iff_ne.2 e3
    rw [if_neg e3] at hsn
    subst hsn
    by_cases e0 : kd = 0
    · have q0 : (kd == 0) = true := beq_iff_eq.2 e0
      clear h2 k0 k3 e3 hb1
      go_wp2
      go_loopg [3, 5] n (fun g v i wr => ∃ k : Nat, g = n - k ∧ k ≤ n ∧ i = .int .i64 k ∧ Ext w wr ∧ Ow encI64 2 wr w.heap.size v (xs.take k))
      case atStart => exact ⟨0, by omega, by omega, rfl, hw1, by rw [List.take_zero]; exact hO1⟩
      case round =>
        obtain ⟨k, hg, hk, rfl, hw, hO⟩ := hrel
        by_cases hkl : k < n
        · have d1 := hw.cell g1
          have d2 := hw.cell g2
          have ld := Nat.lt_of_lt_of_le lS hw.size
          have hx := (hat k (by omega)).1 e0
          have htk := htk k (by omega)
          rw [hx] at htk
          have htk := hd htk
          have hl := hln k
          generalize xs.take k = ys at hO htk hl
          clear hx hat hln
          go_wp2_with (at_builtin; refine wpList_push2 (w0 := w) (base := w.heap.size) (xs := ys) encI64 (by rfl) _ _ 49 (.int .i64 0) 8 (by rfl) Tryd.underlying49 info_i64 (by rfl) ((st + (k : Int))) (by rfl) (by rfl) (by simp) (hO) (by have := (hw : Ext w _).size; simp at this ⊢; omega) (by omega) (hw) (by omega) (by omega) ?_)
          intro v3 w3 hO3 hb3 hg3 ho3
          go_wp2
          go_roundg (n - (k + 1))
          case rel => exact ⟨k + 1, rfl, hkl, by simp, hb3, by rw [htk.out]; exact hO3⟩
          case measure => omega
        · obtain rfl : k = n := by omega
          rw [← hsl, hall] at hO
          go_wp2
          go_ret
          exact ⟨_, rfl, hO, hw⟩
    · have q0 : (kd == 0) = false := beq_eq_false_iff_ne.2 e0
      clear h2 k0 k3 e3 hb1
      go_wp2
      go_loopg [3, 5] n (fun g v i wr => ∃ k : Nat, g = n - k ∧ k ≤ n ∧ i = .int .i64 k ∧ Ext w wr ∧ Ow encI64 2 wr w.heap.size v (xs.take k))
      case atStart => exact ⟨0, by omega, by omega, rfl, hw1, by rw [List.take_zero]; exact hO1⟩
      case round =>
        obtain ⟨k, hg, hk, rfl, hw, hO⟩ := hrel
        by_cases hkl : k < n
        · have d1 := hw.cell g1
          have d2 := hw.cell g2
          have ld := Nat.lt_of_lt_of_le lS hw.size
          have hx := (hat k (by omega)).2 e0
          have htk := htk k (by omega)
          rw [hx] at htk
          have htk := hd htk
          have hl := hln k
          generalize xs.take k = ys at hO htk hl
          clear hx hat hln
          go_wp2_with (at_builtin; refine wpList_push2 (w0 := w) (base := w.heap.size) (xs := ys) encI64 (by rfl) _ _ 49 (.int .i64 0) 8 (by rfl) Tryd.underlying49 info_i64 (by rfl) ((st + (n : Int) - 1 - (k : Int))) (by rfl) (by rfl) (by simp) (hO) (by have := (hw : Ext w _).size; simp at this ⊢; omega) (by omega) (hw) (by omega) (by omega) ?_)
          intro v3 w3 hO3 hb3 hg3 ho3
          go_wp2
          go_roundg (n - (k + 1))
          case rel => exact ⟨k + 1, rfl, hkl, by simp, hb3, by rw [htk.out]; exact hO3⟩
          case measure => omega
        · obtain rfl : k = n := by omega
          rw [← hsl, hall] at hO
          go_wp2
          go_ret
          exact ⟨_, rfl, hO, hw⟩
end Go.Proofs.YtdlpifgkponnmaaDoor
set_option linter.unusedVariables false
set_option linter.unusedSimpArgs false
set_option maxRecDepth 100000
namespace Go.Proofs.YtdlpifgkponnmaaDoor
open Go.RowKit
def sdF (ds : List Crd) (f : Fld) : List Crd × Int := if deckB ds = true ∧ fldB f = true then (passesF ds (sortF f), 0) else ([], 1)
theorem sd_ok {ds : List Crd} {f : Fld} (h : deckB ds = true) (h2 : fldB f = true) : sdF ds f = (passesF ds (sortF f), 0) := by unfold sdF; rw [if_pos ⟨h, h2⟩]
theorem sd_no {ds : List Crd} {f : Fld} (h : deckB ds = false) : sdF ds f = ([], 1) := by unfold sdF; rw [if_neg (fun e => by rw [h] at e; exact absurd e.1 (by decide))]
theorem sd_no2 {ds : List Crd} {f : Fld} (h : fldB f = false) : sdF ds f = ([], 1) := by unfold sdF; rw [if_neg (fun e => by rw [h] at e; exact absurd e.2 (by decide))]
theorem sd_len (ds : List Crd) (f : Fld) (h : ds.length ≤ 1048576) : (sdF ds f).1.length ≤ 1048576 := by
  unfold sdF
  split
  · have := passes_len ds (sortF f) (sortF f).length
    rw [List.take_length] at this
    show (passesF ds (sortF f)).length ≤ _
    omega
  · exact Nat.zero_le _
set_option maxHeartbeats 1000000 in
theorem impl_SortDeck (ds : List Crd) (A : Option Addr) (cap : Nat) (f : Fld) (w : World) (hR : Rd encCrd w A ds) (hcap : ds.length ≤ cap) (hn : ds.length ≤ 1048576) (hok : ∀ c ∈ ds, CrdIn c) (hf : FldIn f) :
    Calls Tryd.prog 12 #[.slice A ds.length cap, .agg #[.string f.nm, .int .i8 f.kd, .int .i16 f.st, .int .i16 f.sz]] w fun e w' => ∃ v, e = .returned (.tuple #[v, .int .i64 (sdF ds f).2]) ∧ Ow encCrd 60 w' w.heap.size v (sdF ds f).1 ∧ Ext w w' := by
  have h1 := fun (W : World) (hE : Ext w W) => impl_isDeck ds A cap W (hR.ext hE) hcap hn hok
  have h2 := fun (W : World) => isField_in f hf W
  have h3 := fun (h : fldB f = true) (W : World) => impl_sorting f h W
  have h4 := fun (h : fldB f = true) (B : Option Addr) (c : Nat) (W : World) (hE : Ext w W) (hS : Rd encI64 W B (sortF f)) => impl_passMany ds A cap (sortF f) B c W (hR.ext hE) hn hS (Nat.le_trans (sort_len h) (by omega)) (sort_in h)
  have k1 := sd_no (ds := ds) (f := f)
  have k2 := sd_no2 (ds := ds) (f := f)
  have k3 := sd_ok (ds := ds) (f := f)
  have hX0 : BoxAt (w.alloc (.cells #[.string f.nm, .int .i8 f.kd, .int .i16 f.st, .int .i16 f.sz] 33)) w.heap.size #[.string f.nm, .int .i8 f.kd, .int .i16 f.st, .int .i16 f.sz] 33 := BoxAt.new' rfl
  have hE0 : Ext w (w.alloc (.cells #[.string f.nm, .int .i8 f.kd, .int .i16 f.st, .int .i16 f.sz] 33)) := (Ext.refl _).alloc _
  obtain ⟨nm, kd, st, sz⟩ := f
  dsimp only at h2 h3 hX0 hE0 ⊢
  cases hd1 : deckB ds with
  | false =>
    have hv := hd (k1 hd1)
    rw [hd1] at h1
    clear k1 k2 k3 h4 h3
    go_enter Tryd.func12, Tryd.ntmps12
    go_wp2_with fail
    refine Calls.mono (h1 _ hE0) ?_
    rintro e w1 ⟨rfl, hb1⟩
    go_wp2
    refine bodyPost_ret (v := .tuple #[.slice none 0 0, .int .i64 1]) (by simp [results, Tryd.results12, go_sem]) rfl ⟨_, by rw [hv.out], by rw [hv.out]; exact Ow.nil _ _ _ _, hE0.trans hb1⟩
  | true =>
    rw [hd1] at h1
    cases hd2 : fldB ⟨nm, kd, st, sz⟩ with
    | false =>
      have hv := hd (k2 hd2)
      rw [hd2] at h2
      clear k1 k2 k3 h4 h3
      go_enter Tryd.func12, Tryd.ntmps12
      go_wp2_with fail
      refine Calls.mono (h1 _ hE0) ?_
      rintro e w1 ⟨rfl, hb1⟩
      have hX := hX0.ext hb1
      have x0 : w1.cell? ⟨w.heap.size, 0, none⟩ = some (.string nm) := hX.cell 0
      have x1 : w1.cell? ⟨w.heap.size, 1, none⟩ = some (.int .i8 kd) := hX.cell 1
      have x2 : w1.cell? ⟨w.heap.size, 2, none⟩ = some (.int .i16 st) := hX.cell 2
      have x3 : w1.cell? ⟨w.heap.size, 3, none⟩ = some (.int .i16 sz) := hX.cell 3
      have lX := hX.lt
      go_wp2_with fail
      refine Calls.mono (h2 _) ?_
      rintro e w2 ⟨rfl, hb2⟩
      go_wp2
      refine bodyPost_ret (v := .tuple #[.slice none 0 0, .int .i64 1]) (by simp [results, Tryd.results12, go_sem]) rfl ⟨_, by rw [hv.out], by rw [hv.out]; exact Ow.nil _ _ _ _, (hE0.trans hb1).trans hb2⟩
    | true =>
      have hv := hd (k3 hd1 hd2)
      rw [hd2] at h2
      replace h3 := h3 hd2
      replace h4 := h4 hd2
      clear k1 k2 k3
      go_enter Tryd.func12, Tryd.ntmps12
      go_wp2_with fail
      refine Calls.mono (h1 _ hE0) ?_
      rintro e w1 ⟨rfl, hb1⟩
      have hX := hX0.ext hb1
      have x0 : w1.cell? ⟨w.heap.size, 0, none⟩ = some (.string nm) := hX.cell 0
      have x1 : w1.cell? ⟨w.heap.size, 1, none⟩ = some (.int .i8 kd) := hX.cell 1
      have x2 : w1.cell? ⟨w.heap.size, 2, none⟩ = some (.int .i16 st) := hX.cell 2
      have x3 : w1.cell? ⟨w.heap.size, 3, none⟩ = some (.int .i16 sz) := hX.cell 3
      have lX := hX.lt
      go_wp2_with fail
      refine Calls.mono (h2 _) ?_
      rintro e w2 ⟨rfl, hb2⟩
      have hw2 := (hE0.trans hb1).trans hb2
      replace hX := hX.ext hb2
      clear x0 x1 x2 x3 lX
      have x0 : w2.cell? ⟨w.heap.size, 0, none⟩ = some (.string nm) := hX.cell 0
      have x1 : w2.cell? ⟨w.heap.size, 1, none⟩ = some (.int .i8 kd) := hX.cell 1
      have x2 : w2.cell? ⟨w.heap.size, 2, none⟩ = some (.int .i16 st) := hX.cell 2
      have x3 : w2.cell? ⟨w.heap.size, 3, none⟩ = some (.int .i16 sz) := hX.cell 3
      have lX := hX.lt
      go_wp2_with fail
      refine Calls.mono (h3 _) ?_
      rintro e w3 ⟨B, c, rfl, hRB, hb3⟩
      have hw3 := hw2.trans hb3
      go_wp2_with fail
      refine Calls.mono (h4 B c _ hw3 hRB) ?_
      rintro e w4 ⟨v4, rfl, hO4, hb4⟩
      have hs3 := hw3.size
      go_wp2
      refine bodyPost_ret (v := .tuple #[v4, .int .i64 0]) (by simp [results, Tryd.results12, go_sem]) rfl ⟨_, by rw [hv.out], by rw [hv.out]; exact hO4.lower hs3, hw3.trans hb4⟩
set_option maxHeartbeats 1000000 in
theorem spec_SortDeck (ds : List Crd) (A : Option Addr) (cap : Nat) (f : Fld) (w : World) (hR : Rd encCrd w A ds) (hn : ds.length ≤ 1048576) (hok : ∀ c ∈ ds, CrdIn c) (hf : FldIn f) :
    Calls Tryd.prog 9 #[.slice A ds.length cap, .agg #[.string f.nm, .int .i8 f.kd, .int .i16 f.st, .int .i16 f.sz]] w fun e w' => ∃ v, e = .returned (.tuple #[v, .int .i64 (sdF ds f).2]) ∧ Ow encCrd 60 w' w.heap.size v (sdF ds f).1 ∧ Ext w w' := by
  have hF0 : ∀ W, BoxAt W w.heap.size #[.string f.nm, .int .i8 f.kd, .int .i16 f.st, .int .i16 f.sz] 33 → FldAt W w.heap.size 0 f := fun W h => ⟨h.cell 0, h.cell 1, h.cell 2, h.cell 3⟩
  have h1 := fun (W : World) (hE : Ext w W) => spec_l02Ok ds A cap W (hR.ext hE) hn hok
  have h2 := fun (W : World) (h : FldAt W w.heap.size 0 f) => l01Field_in f hf w.heap.size 0 W h
  have h3 := fun (h : fldB f = true) (W : World) (hF : FldAt W w.heap.size 0 f) => spec_l02Holes f h hf.1.2.2.1 hf.1.2.2.2 w.heap.size 0 W hF
  have h4 := fun (h : fldB f = true) (B : Option Addr) (c : Nat) (W : World) (hE : Ext w W) (hS : Rd encI64 W B (sortF f)) => spec_l02Many ds A cap (sortF f) B c W (hR.ext hE) hn hS (Nat.le_trans (sort_len h) (by omega)) (sort_in h)
  have k1 := sd_no (ds := ds) (f := f)
  have k2 := sd_no2 (ds := ds) (f := f)
  have k3 := sd_ok (ds := ds) (f := f)
  have hX0 : BoxAt (w.alloc (.cells #[.string f.nm, .int .i8 f.kd, .int .i16 f.st, .int .i16 f.sz] 33)) w.heap.size #[.string f.nm, .int .i8 f.kd, .int .i16 f.st, .int .i16 f.sz] 33 := BoxAt.new' rfl
  have hE0 : Ext w (w.alloc (.cells #[.string f.nm, .int .i8 f.kd, .int .i16 f.st, .int .i16 f.sz] 33)) := (Ext.refl _).alloc _
  cases hd1 : deckB ds with
  | false =>
    have hv := hd (k1 hd1)
    rw [hd1] at h1
    clear k1 k2 k3 h4 h3
    go_enter Tryd.func9, Tryd.ntmps9
    go_wp2_with fail
    refine Calls.mono (h1 _ hE0) ?_
    rintro e w1 ⟨rfl, hb1⟩
    go_wp2
    refine bodyPost_ret (v := .tuple #[.slice (some ⟨w1.heap.size, 0, none⟩) 0 0, .int .i64 1]) (by simp [results, Tryd.results9, go_sem]) rfl ⟨_, by rw [hv.out], by rw [hv.out]; exact Ow.made0 rfl (hE0.trans hb1).size, (hE0.trans hb1).alloc _⟩
  | true =>
    rw [hd1] at h1
    cases hd2 : fldB f with
    | false =>
      have hv := hd (k2 hd2)
      rw [hd2] at h2
      clear k1 k2 k3 h4 h3
      go_enter Tryd.func9, Tryd.ntmps9
      go_wp2_with fail
      refine Calls.mono (h1 _ hE0) ?_
      rintro e w1 ⟨rfl, hb1⟩
      go_wp2_with fail
      refine Calls.mono (h2 _ (hF0 _ (hX0.ext hb1))) ?_
      rintro e w2 ⟨rfl, hb2⟩
      go_wp2
      refine bodyPost_ret (v := .tuple #[.slice (some ⟨w2.heap.size, 0, none⟩) 0 0, .int .i64 1]) (by simp [results, Tryd.results9, go_sem]) rfl ⟨_, by rw [hv.out], by rw [hv.out]; exact Ow.made0 rfl ((hE0.trans hb1).trans hb2).size, ((hE0.trans hb1).trans hb2).alloc _⟩
    | true =>
      have hv := hd (k3 hd1 hd2)
      rw [hd2] at h2
      replace h3 := h3 hd2
      replace h4 := h4 hd2
      clear k1 k2 k3
      go_enter Tryd.func9, Tryd.ntmps9
      go_wp2_with fail
      refine Calls.mono (h1 _ hE0) ?_
      rintro e w1 ⟨rfl, hb1⟩
      go_wp2_with fail
      refine Calls.mono (h2 _ (hF0 _ (hX0.ext hb1))) ?_
      rintro e w2 ⟨rfl, hb2⟩
      have hw2 := (hE0.trans hb1).trans hb2
      go_wp2_with fail
      refine Calls.mono (h3 _ (hF0 _ ((hX0.ext hb1).ext hb2))) ?_
      rintro e w3 ⟨v3, rfl, hO3, hb3⟩
      obtain ⟨B, c, rfl, _, hRB⟩ := hO3.slice
      have hw3 := hw2.trans hb3
      have hs3 := hw3.size
      go_wp2_with fail
      refine Calls.mono (h4 B c _ hw3 hRB) ?_
      rintro e w4 ⟨v4, rfl, hO4, hb4⟩
      go_wp2
      refine bodyPost_ret (v := .tuple #[v4, .int .i64 0]) (by simp [results, Tryd.results9, go_sem]) rfl ⟨_, by rw [hv.out], by rw [hv.out]; exact hO4.lower hs3, hw3.trans hb4⟩
end Go.Proofs.YtdlpifgkponnmaaDoor
set_option linter.unusedVariables false
set_option linter.unusedSimpArgs false
set_option maxRecDepth 100000
namespace Go.Proofs.YtdlpifgkponnmaaDoor
open Go.RowKit
def markC (k : Nat) : Crd := ⟨markS k, mof ((k : Int) + 1) ((k : Int) + 1 + 1)⟩
/-- The marked cards from k on, n of them. -/
def upCr (k : Nat) : Nat → List Crd
  | 0 => []
  | n + 1 => markC k :: upCr (k + 3) n
theorem upCr_len : ∀ (n k : Nat), (upCr k n).length = n
  | 0, _ => rfl
  | n + 1, k => by rw [upCr, List.length_cons, upCr_len n]
theorem upCr_get : ∀ (n k i : Nat) (h : i < (upCr k n).length), (upCr k n)[i] = markC (k + 3 * i)
  | 0, _, _, h => by simp [upCr] at h
  | n + 1, k, 0, _ => rfl
  | n + 1, k, i + 1, h => by
    show (upCr (k + 3) n)[i]'_ = _
    rw [upCr_get n (k + 3) i, show k + 3 + 3 * i = k + 3 * (i + 1) by omega]
theorem upCr_snoc : ∀ (n k : Nat), upCr k (n + 1) = upCr k n ++ [markC (k + 3 * n)]
  | 0, _ => rfl
  | n + 1, k => by
    rw [upCr, upCr_snoc n (k + 3), show k + 3 + 3 * n = k + 3 * (n + 1) by omega]
    rfl
def markCTo (xs : List Crd) (k i : Nat) : List Crd := (upCr k i) ++ xs.drop i
theorem markCTo_len (xs : List Crd) (k i : Nat) (h : i ≤ xs.length) : (markCTo xs k i).length = xs.length := by
  unfold markCTo
  rw [List.length_append, upCr_len, List.length_drop]
  omega
theorem markCTo_set (xs : List Crd) (k i : Nat) (h : i < xs.length) : (markCTo xs k i).set i (markC (k + 3 * i)) = markCTo xs k (i + 1) := by
  unfold markCTo
  rw [List.set_append_right _ _ (by rw [upCr_len]; omega), upCr_len, Nat.sub_self, List.drop_eq_getElem_cons h, List.set_cons_zero, upCr_snoc, List.append_assoc]
  rfl
theorem markCTo_all (xs : List Crd) (k : Nat) : markCTo xs k xs.length = upCr k xs.length := by
  unfold markCTo
  rw [List.drop_length, List.append_nil]
set_option maxHeartbeats 1000000 in
theorem laws_markCardM (xs : List Crd) (v : Value) (k base : Nat) (w : World) (hO : Ow encCrd 60 w base v xs) (hn : xs.length ≤ 1048576) (hk : k ≤ 10000000) :
    Calls Tryd.prog 14 #[v, .int .i64 k] w fun e w' => e = .returned (.int .i64 ((k : Int) + 3 * xs.length)) ∧ Ow encCrd 60 w' base v (upCr k xs.length) ∧ w.grownBy w' v.ownBlock := by
  rcases hO.shape with ⟨rfl, rfl⟩ | ⟨g, cap, rfl, hg, hgl⟩
  · go_enter Tryd.func14, Tryd.ntmps14
    go_wp2
    refine wp_loop_rounds 1 ?_
    rw [rounds_succ]
    go_wp2
    go_ret
    exact ⟨by simp, Ow.nil _ _ _ _, grownBy_refl _ _⟩
  · rw [← markCTo_all]
    go_enter Tryd.func14, Tryd.ntmps14
    go_wp2
    go_loopg [5, 1] xs.length (fun g' i m wr => ∃ (j q : Nat), g' = xs.length - j ∧ j ≤ xs.length ∧ i = .int .i64 j ∧ m = .int .i64 q ∧ q = k + 3 * j ∧ Ow encCrd 60 wr base (.slice (some ⟨g, 0, none⟩) xs.length cap) (markCTo xs k j) ∧ w.grownBy wr (some g))
    case atStart => exact ⟨0, k, by omega, by omega, rfl, rfl, rfl, by unfold markCTo upCr; exact hO, grownBy_refl _ _⟩
    case round =>
      obtain ⟨j, q, hg', hj, rfl, rfl, hq, hO', hgr⟩ := hrel
      have hys := markCTo_len xs k j hj
      by_cases hjl : j < xs.length
      · have hset := markCTo_set xs k j hjl
        rw [← hq] at hset
        have hset := hd hset
        have hq2 := hd hq
        have hqb : q ≤ 100000000 := by omega
        generalize markCTo xs k j = ys at hO' hys hset
        have hjy : j < ys.length := by omega
        clear hq hys
        go_wp2_with fail
        refine Calls.mono (laws_markText q (by omega) _) ?_
        rintro e w1 ⟨rfl, hb1⟩
        have hO1 := hO'.ext hb1
        have hgr1 := grownBy_ext hgr hb1
        clear hO' hgr hb1
        obtain ⟨c0, c1, c2, hbl⟩ := hO1.rd.crd j hjy
        simp only [Nat.zero_add] at c0 c1 c2
        have f0 := hO1.frozen (j * 3)
        have f1 := hO1.frozen (j * 3 + 1)
        have f2 := hO1.frozen (j * 3 + 2)
        have wq1 : IntKind.u64.wrap ((q : Int) + 1) = (q : Int) + 1 := IntWalk.u64_in _ (by omega)
        have wq2 : IntKind.u64.wrap ((q : Int) + 1 + 1) = (q : Int) + 1 + 1 := IntWalk.u64_in _ (by omega)
        have z0 := hO1.set1 j 0 (.string (markS q)) ⟨markS q, ys[j].m⟩ hjy (by decide) rfl
        have hm1 : lo (mof ((q : Int) + 1) (hi ys[j].m)) = (q : Int) + 1 := lo_mof (by omega) (by omega) (hi_ge _) (hi_lt _)
        have hm2 : hi (mof ((q : Int) + 1) (hi ys[j].m)) = hi ys[j].m := hi_mof (by omega) (by omega) (hi_ge _) (hi_lt _)
        have hm3 : lo (mof ((q : Int) + 1) ((q : Int) + 1 + 1)) = (q : Int) + 1 := lo_mof (by omega) (by omega) (by omega) (by omega)
        have hm4 : hi (mof ((q : Int) + 1) ((q : Int) + 1 + 1)) = (q : Int) + 1 + 1 := hi_mof (by omega) (by omega) (by omega) (by omega)
        have z1 := z0.set1 j 1 (.int .u64 ((q : Int) + 1)) ⟨markS q, mof ((q : Int) + 1) (hi ys[j].m)⟩ (by rw [List.length_set]; exact hjy) (by decide) (by rw [List.getElem_set_self]; simp only [encCrd]; rw [hm1, hm2]; rfl)
        have z2 := z1.set1 j 2 (.int .u64 ((q : Int) + 1 + 1)) (markC q) (by rw [List.length_set, List.length_set]; exact hjy) (by decide) (by rw [List.getElem_set_self]; simp only [encCrd, markC]; rw [hm1, hm2, hm3, hm4]; rfl)
        rw [List.set_set, List.set_set, show j * encCrd.sz + 0 = j * 3 from rfl, show j * encCrd.sz + 1 = j * 3 + 1 from rfl, show j * encCrd.sz + 2 = j * 3 + 2 from rfl] at z2
        have g2 := grownBy_set (grownBy_set (grownBy_set hgr1 (j * 3) (.string (markS q))) (j * 3 + 1) (.int .u64 ((q : Int) + 1))) (j * 3 + 2) (.int .u64 ((q : Int) + 1 + 1))
        clear z0 z1 hO1 hgr1 hm1 hm2 hm3 hm4
        go_wp2
        refine wp_loop_rounds 3 ?_
        rw [rounds_succ]
        go_wp2
        rw [rounds_succ]
        go_wp2
        rw [rounds_succ]
        go_wp2
        go_roundg (xs.length - (j + 1))
        case rel => exact ⟨j + 1, q + 3, rfl, hjl, rfl, by rw [show ((q + 3 : Nat) : Int) = (q : Int) + 1 + 1 + 1 by omega], by rw [hq2.out]; omega, by rw [← hset.out]; exact z2, g2⟩
        case measure => omega
      · obtain rfl : j = xs.length := by omega
        subst hq
        go_wp2
        go_ret
        exact ⟨by simp, hO', hgr⟩
set_option maxHeartbeats 1000000 in
theorem laws_heldCardS (n : Nat) (A : Option Addr) (cap : Nat) (k : Nat) (w : World) (hR : Rd encCrd w A (upCr k n)) (hn : n ≤ 1048576) (hk : k ≤ 1048576) :
    Calls Tryd.prog 15 #[.slice A n cap, .int .i64 k] w fun e w' => e = .returned (.int .i64 ((k : Int) + 3 * n)) ∧ Ext w w' := by
  have hx := @ExtOf.cell
  go_enter Tryd.func15, Tryd.ntmps15
  go_wp2
  go_loopg [5, 1] n (fun g' i m wr => ∃ j q : Nat, g' = n - j ∧ j ≤ n ∧ i = .int .i64 j ∧ m = .int .i64 q ∧ q = k + 3 * j ∧ Ext w wr)
  case atStart => exact ⟨0, k, by omega, by omega, rfl, rfl, rfl, Ext.refl _⟩
  case round =>
    obtain ⟨j, q, hg', hj, rfl, rfl, hq, hw⟩ := hrel
    by_cases hjl : j < n
    · have hjx : j < (upCr k n).length := by rw [upCr_len]; exact hjl
      obtain ⟨b, off, hA, hlt, _⟩ := hR j hjx
      subst hA
      obtain ⟨c0, c1, c2, hbl⟩ := (hR.ext hw).crd j hjx
      rw [upCr_get n k j hjx, ← hq] at c0 c1 c2
      have hq2 := hd hq
      have hqb : q ≤ 100000000 := by omega
      clear hq
      have hm3 : lo (mof ((q : Int) + 1) ((q : Int) + 1 + 1)) = (q : Int) + 1 := lo_mof (by omega) (by omega) (by omega) (by omega)
      have hm4 : hi (mof ((q : Int) + 1) ((q : Int) + 1 + 1)) = (q : Int) + 1 + 1 := hi_mof (by omega) (by omega) (by omega) (by omega)
      unfold markC at c0 c1 c2
      dsimp only at c0 c1 c2
      rw [hm3] at c1
      rw [hm4] at c2
      clear hm3 hm4
      have wq1 : IntKind.u64.wrap ((q : Int) + 1) = (q : Int) + 1 := IntWalk.u64_in _ (by omega)
      have wq2 : IntKind.u64.wrap ((q : Int) + 1 + 1) = (q : Int) + 1 + 1 := IntWalk.u64_in _ (by omega)
      have hmt := fun W => laws_markText q (by omega) W
      generalize markS q = t at c0 hmt
      go_wp2
      refine wp_region_ext (by kernel_rfl) (by kernel_rfl) ?_
      repeat (first | go_big_quiet_step (((go_at_call 41; with_reducible exact Calls.ext_all (fun W _ => hmt W)))) | quiet_step (((go_at_call 41; with_reducible exact Calls.ext_all (fun W _ => hmt W)))))
      refine wpQuiet_nil ?_
      intro w7 hq7
      have hb7 := ext_of_class hq7
      clear hq7
      obtain ⟨hc7, hf7, hz7⟩ := bcell3 hb7
      try simp at hz7
      have d1 := hb7.cell c1
      have d2 := hb7.cell c2
      have dl := Nat.lt_of_lt_of_le hbl hb7.size
      have hw7 := hw.trans hb7
      clear hc7 hf7 hz7 hb7 c0 c1 c2 hbl hmt
      go_wp2
      refine wp_loop_rounds 3 ?_
      rw [rounds_succ]
      go_wp2
      rw [rounds_succ]
      go_wp2
      rw [rounds_succ]
      go_wp2
      go_roundg (n - (j + 1))
      case rel => exact ⟨j + 1, q + 3, rfl, hjl, rfl, by rw [show ((q + 3 : Nat) : Int) = (q : Int) + 1 + 1 + 1 by omega], by rw [hq2.out]; omega, hw7⟩
      case measure => omega
    · obtain rfl : j = n := by omega
      subst hq
      go_wp2
      go_ret
      exact ⟨by simp, hw⟩
end Go.Proofs.YtdlpifgkponnmaaDoor
