/-
  Contracts of DoubtsOf, program's and reference's.
-/
import Derived.Test.YtknbebglabpegaaDoorF25
set_option linter.unusedVariables false
set_option linter.unusedSimpArgs false
set_option maxRecDepth 100000
namespace Go.Proofs.YtknbebglabpegaaDoor
open Go.RowKit
/-- What is known of a card in memory. -/
def CrdIn (c : Crd) : Prop := c.nm.size ≤ 9223372036854775807
set_option maxHeartbeats 400000 in
theorem impl_areCards1 (x : Crd) (hx : x.nm.size ≤ 9223372036854775807) (w : World) :
    Calls Tryd.prog 115 #[.agg #[.string x.nm, .int .u64 (lo x.m), .int .u64 (hi x.m)]] w fun e w' => e = .returned (.bool (!isCardB x)) ∧ Ext w w' := by
  go_enter Tryd.func115, Tryd.ntmps115
  go_wp2_with fail
  refine Calls.mono (impl_isCard x hx _) ?_
  rintro e w1 ⟨rfl, hb1⟩
  obtain ⟨hc1, hf1, hz1⟩ := bcell3 hb1
  try simp at hz1
  have hz1_0 : w.heap.size < w1.heap.size := by omega
  go_wp2
  go_ret
  exact ⟨rfl, by ((repeat (first | with_reducible exact Ext.refl _ | with_reducible exact hw | with_reducible exact hb9 | with_reducible exact hb8 | with_reducible exact hb7 | with_reducible exact hb6 | with_reducible exact hb5 | with_reducible exact hb4 | with_reducible exact hb3 | with_reducible exact hb2 | with_reducible exact hb1 | with_reducible refine Ext.alloc ?_ _ | with_reducible refine Ext.drew ?_ | ((with_reducible refine Ext.set ?_ ?_ _); focus (dsimp only; omega)) | with_reducible refine Ext.trans ?_ hb9 | with_reducible refine Ext.trans ?_ hb8 | with_reducible refine Ext.trans ?_ hb7 | with_reducible refine Ext.trans ?_ hb6 | with_reducible refine Ext.trans ?_ hb5 | with_reducible refine Ext.trans ?_ hb4 | with_reducible refine Ext.trans ?_ hb3 | with_reducible refine Ext.trans ?_ hb2 | with_reducible refine Ext.trans ?_ hb1 | with_reducible refine Ext.trans ?_ hw)))⟩
set_option maxHeartbeats 400000 in
theorem slices_IndexFunc_areCards (xs : List Crd) (A : Option Addr) (n cap : Nat) (w : World) (hnx : n = xs.length) (hR : Rd encCrd w A xs) (hn : n ≤ 1048576) (hok : ∀ x ∈ xs, CrdIn x) :
    Calls Tryd.prog 126 #[.slice A n cap, .func (.func 115) #[] #[]] w fun e w' => e = .returned (.int .i64 (fidx (fun x : Crd => !isCardB x) xs)) ∧ Ext w w' := by
  subst hnx
  go_enter Tryd.func126, Tryd.ntmps126
  go_wp2
  go_loopg [8] xs.length (fun g i wr => ∃ k : Nat, g = xs.length - k ∧ k ≤ xs.length ∧ i = .int .i64 k ∧ Ext w wr ∧ (xs.take k).any (fun x : Crd => !isCardB x) = false)
  case atStart => exact ⟨0, by omega, by omega, rfl, Ext.refl _, by rw [List.take_zero]; rfl⟩
  case round =>
    obtain ⟨k, hg, hk, rfl, hw, hQ⟩ := hrel
    by_cases hkl : k < xs.length
    · obtain ⟨b, off, hA, hlt, _⟩ := hR k hkl
      subst hA
      obtain ⟨m0, m1, m2, m3⟩ := (hR.ext hw).crd k hkl
      have hs := any_take (fun x : Crd => !isCardB x) xs k hkl
      rw [hQ, Bool.false_or] at hs
      cases hq : (fun x : Crd => !isCardB x) xs[k] with
      | true =>
        have hM := fidx_hit (fun x : Crd => !isCardB x) xs k hkl hq hQ
        try dsimp only at hq
        clear hs hQ
        go_wp2_with fail
        refine Calls.mono (impl_areCards1 xs[k] (hok _ (List.getElem_mem hkl)) _) ?_
        rintro e w1 ⟨rfl, hb1⟩
        simp only [hq]
        go_wp2
        go_ret
        exact ⟨by rw [hM]; rfl, by ((repeat (first | with_reducible exact Ext.refl _ | with_reducible exact hw | with_reducible exact hb9 | with_reducible exact hb8 | with_reducible exact hb7 | with_reducible exact hb6 | with_reducible exact hb5 | with_reducible exact hb4 | with_reducible exact hb3 | with_reducible exact hb2 | with_reducible exact hb1 | with_reducible refine Ext.alloc ?_ _ | with_reducible refine Ext.drew ?_ | ((with_reducible refine Ext.set ?_ ?_ _); focus (dsimp only; omega)) | with_reducible refine Ext.trans ?_ hb9 | with_reducible refine Ext.trans ?_ hb8 | with_reducible refine Ext.trans ?_ hb7 | with_reducible refine Ext.trans ?_ hb6 | with_reducible refine Ext.trans ?_ hb5 | with_reducible refine Ext.trans ?_ hb4 | with_reducible refine Ext.trans ?_ hb3 | with_reducible refine Ext.trans ?_ hb2 | with_reducible refine Ext.trans ?_ hb1 | with_reducible refine Ext.trans ?_ hw)))⟩
      | false =>
        have hs2 := hd (hs.trans hq)
        try dsimp only at hq
        clear hs hQ
        go_wp2_with fail
        refine Calls.mono (impl_areCards1 xs[k] (hok _ (List.getElem_mem hkl)) _) ?_
        rintro e w1 ⟨rfl, hb1⟩
        simp only [hq]
        go_wp2
        go_roundg (xs.length - (k + 1))
        case rel => exact ⟨k + 1, rfl, hkl, rfl, by ((repeat (first | with_reducible exact Ext.refl _ | with_reducible exact hw | with_reducible exact hb9 | with_reducible exact hb8 | with_reducible exact hb7 | with_reducible exact hb6 | with_reducible exact hb5 | with_reducible exact hb4 | with_reducible exact hb3 | with_reducible exact hb2 | with_reducible exact hb1 | with_reducible refine Ext.alloc ?_ _ | with_reducible refine Ext.drew ?_ | ((with_reducible refine Ext.set ?_ ?_ _); focus (dsimp only; omega)) | with_reducible refine Ext.trans ?_ hb9 | with_reducible refine Ext.trans ?_ hb8 | with_reducible refine Ext.trans ?_ hb7 | with_reducible refine Ext.trans ?_ hb6 | with_reducible refine Ext.trans ?_ hb5 | with_reducible refine Ext.trans ?_ hb4 | with_reducible refine Ext.trans ?_ hb3 | with_reducible refine Ext.trans ?_ hb2 | with_reducible refine Ext.trans ?_ hb1 | with_reducible refine Ext.trans ?_ hw))), hs2.out⟩
        case measure => omega
    · obtain rfl : k = xs.length := by omega
      rw [List.take_length] at hQ
      have hM := fidx_none (fun x : Crd => !isCardB x) xs hQ
      go_wp2
      go_ret
      exact ⟨by rw [hM]; rfl, hw⟩

set_option maxHeartbeats 400000 in
theorem impl_areCards (xs : List Crd) (A : Option Addr) (cap : Nat) (w : World) (hR : Rd encCrd w A xs) (hn : xs.length ≤ 1048576) (hok : ∀ x ∈ xs, CrdIn x) :
    Calls Tryd.prog 91 #[.slice A xs.length cap] w fun e w' => e = .returned (.bool (xs.all isCardB)) ∧ Ext w w' := by
  have hI := fun (W : World) (h : Rd encCrd W A xs) => slices_IndexFunc_areCards xs A _ cap W rfl h hn hok
  have hv := fidx_ge (fun x : Crd => !isCardB x) xs
  have hm : (!xs.all isCardB) = decide (fidx (fun x : Crd => !isCardB x) xs ≥ 0) := by
    rw [List.not_all_eq_any_not, Bool.eq_iff_iff, decide_eq_true_iff]
    exact hv.symm
  generalize fidx (fun x : Crd => !isCardB x) xs = q at hm hI
  have hC : ∀ W, Rd encCrd W A xs → Calls Tryd.prog 114 #[.slice A xs.length cap, .func (.func 115) #[] #[]] W fun e w' => e = .returned (.bool (!xs.all isCardB)) ∧ Ext W w' := by
    intro W h
    rw [hm]
    clear hm hv
    go_enter Tryd.func114, Tryd.ntmps114
    go_wp2_with fail
    refine Calls.mono (hI _ h) ?_
    rintro e w1 ⟨rfl, hb1⟩
    go_wp2
    go_ret
    exact ⟨rfl, hb1⟩
  clear hI hm hv
  generalize xs.all isCardB = b at hC
  go_enter Tryd.func91, Tryd.ntmps91
  go_wp2_with fail
  refine Calls.mono (hC _ hR) ?_
  rintro e w1 ⟨rfl, hb1⟩
  go_wp2
  go_ret
  exact ⟨by first | rfl | rw [Bool.not_not]; rfl, by ((repeat (first | with_reducible exact Ext.refl _ | with_reducible exact hw | with_reducible exact hb9 | with_reducible exact hb8 | with_reducible exact hb7 | with_reducible exact hb6 | with_reducible exact hb5 | with_reducible exact hb4 | with_reducible exact hb3 | with_reducible exact hb2 | with_reducible exact hb1 | with_reducible refine Ext.alloc ?_ _ | with_reducible refine Ext.drew ?_ | ((with_reducible refine Ext.set ?_ ?_ _); focus (dsimp only; omega)) | with_reducible refine Ext.trans ?_ hb9 | with_reducible refine Ext.trans ?_ hb8 | with_reducible refine Ext.trans ?_ hb7 | with_reducible refine Ext.trans ?_ hb6 | with_reducible refine Ext.trans ?_ hb5 | with_reducible refine Ext.trans ?_ hb4 | with_reducible refine Ext.trans ?_ hb3 | with_reducible refine Ext.trans ?_ hb2 | with_reducible refine Ext.trans ?_ hb1 | with_reducible refine Ext.trans ?_ hw)))⟩
set_option maxHeartbeats 400000 in
theorem spec_l04Cards (xs : List Crd) (A : Option Addr) (cap : Nat) (w : World) (hR : Rd encCrd w A xs) (hn : xs.length ≤ 1048576) (hok : ∀ x ∈ xs, CrdIn x) :
    Calls Tryd.prog 90 #[.slice A xs.length cap] w fun e w' => e = .returned (.bool (xs.all isCardB)) ∧ Ext w w' := by
  go_enter Tryd.func90, Tryd.ntmps90
  go_wp2
  go_loopg [3] xs.length (fun g i wr => ∃ k : Nat, g = xs.length - k ∧ k ≤ xs.length ∧ i = .int .i64 k ∧ Ext w wr ∧ Hd ((xs.take k).all isCardB = true))
  case atStart => exact ⟨0, by omega, by omega, rfl, Ext.refl _, hd rfl⟩
  case round =>
    obtain ⟨k, hg, hk, rfl, hw, hQ⟩ := hrel
    by_cases hkl : k < xs.length
    · obtain ⟨b, off, hA, hlt, _⟩ := hR k hkl
      subst hA
      obtain ⟨m0, m1, m2, m3⟩ := (hR.ext hw).crd k hkl
      have hc := spec_l01Ok xs[k] (hok _ (List.getElem_mem hkl)) b (off + k * 3) wr m3 m0 m1 m2
      have hs := all_take isCardB xs k hkl
      rw [hQ.out, Bool.true_and] at hs
      have hs := hd hs
      have hmiss := fun h => hd (all_miss isCardB xs k hkl h)
      cases hq : isCardB xs[k] with
      | false =>
        have hv := hmiss hq
        rw [hq] at hc
        clear hs hQ hmiss
        go_wp2_with fail
        refine Calls.mono (hc) ?_
        rintro e w1 ⟨rfl, hb1⟩
        go_wp2
        go_ret
        exact ⟨by rw [hv.out]; rfl, hw.trans hb1⟩
      | true =>
        have hs2 := hd (hs.out.trans hq)
        rw [hq] at hc
        clear hs hmiss
        go_wp2_with fail
        refine Calls.mono (hc) ?_
        rintro e w1 ⟨rfl, hb1⟩
        go_wp2
        go_roundg (xs.length - (k + 1))
        case rel => exact ⟨k + 1, rfl, hkl, by simp, hw.trans hb1, hs2⟩
        case measure => omega
    · obtain rfl : k = xs.length := by omega
      have hQ2 := hQ.out
      rw [List.take_length] at hQ2
      have hQ3 := hd hQ2
      clear hQ2 hQ
      go_wp2
      go_ret
      exact ⟨by rw [hQ3.out]; rfl, hw⟩
set_option maxHeartbeats 2000000 in
theorem impl_DoubtsOf (xs : List Fld) (A : Option Addr) (cap : Nat) (cs : List Crd) (B : Option Addr) (cap' : Nat) (w : World) (hR : Rd encFld w A xs) (hcap : xs.length ≤ cap) (hn : xs.length ≤ 1048576) (hok : ∀ x ∈ xs, FldIn x)
    (hS : Rd encCrd w B cs) (hm : cs.length ≤ 1048576) (hok' : ∀ x ∈ cs, CrdIn x) :
    Calls Tryd.prog 45 #[.slice A xs.length cap, .slice B cs.length cap'] w fun e w' => ∃ v, e = .returned (.tuple #[v, .int .i64 (doubtsF xs cs).2]) ∧ Ow encDbt 131 w' w.heap.size v (doubtsF xs cs).1 ∧ Ext w w' := by
  have his := fun (W : World) (h : Ext w W) => impl_isScheme xs A cap W (hR.ext h) hcap hn hok
  have hic := fun (W : World) (h : Ext w W) => impl_areCards cs B cap' W (hS.ext h) hm hok'
  cases hs : schB xs with
  | false =>
    have hv := hd (doubts_bad (xs := xs) (cs := cs) (by rw [hs]; rfl))
    rw [hs] at his
    go_enter Tryd.func45, Tryd.ntmps45
    go_wp2_with fail
    refine Calls.mono (his _ (Ext.refl _)) ?_
    rintro e w1 ⟨rfl, hb1⟩
    go_wp2
    refine bodyPost_ret (v := .tuple #[.slice none 0 0, .int .i64 1]) (by simp [results, Tryd.results45, go_sem]) rfl ⟨_, by rw [hv.out], by rw [hv.out]; exact Ow.nil _ _ _ _, hb1⟩
  | true =>
    rw [hs] at his
    cases hc : cs.all isCardB with
    | false =>
      have hv := hd (doubts_bad (xs := xs) (cs := cs) (by rw [hs, hc]; rfl))
      rw [hc] at hic
      go_enter Tryd.func45, Tryd.ntmps45
      go_wp2_with fail
      refine Calls.mono (his _ (Ext.refl _)) ?_
      rintro e w1 ⟨rfl, hb1⟩
      go_wp2_with fail
      refine Calls.mono (hic _ hb1) ?_
      rintro e w2 ⟨rfl, hb2⟩
      go_wp2
      refine bodyPost_ret (v := .tuple #[.slice none 0 0, .int .i64 1]) (by simp [results, Tryd.results45, go_sem]) rfl ⟨_, by rw [hv.out], by rw [hv.out]; exact Ow.nil _ _ _ _, hb1.trans hb2⟩
    | true =>
      rw [hc] at hic
      have hsc : (schB xs && cs.all isCardB) = true := by rw [hs, hc]; rfl
      by_cases h60 : 60 < cs.length
      · have hv := hd (doubts_long hsc h60)
        go_enter Tryd.func45, Tryd.ntmps45
        go_wp2_with fail
        refine Calls.mono (his _ (Ext.refl _)) ?_
        rintro e w1 ⟨rfl, hb1⟩
        go_wp2_with fail
        refine Calls.mono (hic _ hb1) ?_
        rintro e w2 ⟨rfl, hb2⟩
        go_wp2
        refine bodyPost_ret (v := .tuple #[.slice none 0 0, .int .i64 2]) (by simp [results, Tryd.results45, go_sem]) rfl ⟨_, by rw [hv.out], by rw [hv.out]; exact Ow.nil _ _ _ _, hb1.trans hb2⟩
      · have hv := hd (doubts_good hsc h60)
        have h12 := (sch_all hs).1
        have hdl := doubTo_len xs cs
        go_enter Tryd.func45, Tryd.ntmps45
        go_wp2_with fail
        refine Calls.mono (his _ (Ext.refl _)) ?_
        rintro e w1 ⟨rfl, hb1⟩
        go_wp2_with fail
        refine Calls.mono (hic _ hb1) ?_
        rintro e w2 ⟨rfl, hb2⟩
        have hw2 : Ext w w2 := hb1.trans hb2
        clear hb1 hb2 his hic
        go_wp2
        go_loopg [6, 27] cs.length (fun g v i wr => ∃ k : Nat, g = cs.length - k ∧ k ≤ cs.length ∧ i = .int .i64 k ∧ Ext w2 wr ∧ Ow encDbt 131 wr w2.heap.size v (doubTo xs cs k))
        case atStart => exact ⟨0, by omega, by omega, rfl, (Ext.refl _).alloc _, by rw [doubTo_zero]; exact Ow.made0 rfl (Nat.le_refl _)⟩
        case round =>
          obtain ⟨k, hg, hk, rfl, hw, hO⟩ := hrel
          obtain ⟨wo, hwo⟩ : ∃ x, x = wr := ⟨_, rfl⟩
          subst hwo
          by_cases hkl : k < cs.length
          · obtain ⟨b, off, hB, hlt, _⟩ := hS k hkl
            subst hB
            obtain ⟨m0, m1, m2, m3⟩ := (hS.ext (hw2.trans hw)).crd k hkl
            have hsu := hd (doubTo_succ xs cs k hkl)
            have hd1 := hdl k
            have hd2 : k * xs.length ≤ 60 * 12 := Nat.mul_le_mul (by omega) h12
            generalize hys : doubTo xs cs k = ys at hO hsu hd1
            generalize hcm : cs[k].m = cm at m1 m2 hsu
            have hne : ∀ bb, u6.ownBlock = some bb → ¬ bb = wo.heap.size := fun bb h => by have := (hO.lt bb h).2; omega
            have lwr := m3
            go_wp2
            go_loopg [6, 34] xs.length (fun g v i wr2 => ∃ j : Nat, g = xs.length - j ∧ j ≤ xs.length ∧ i = .int .i64 j ∧ Ext w2 wr2 ∧ Ow encDbt 131 wr2 w2.heap.size v (ys ++ rowTo xs cm k j) ∧ BoxAt wr2 wo.heap.size #[.string cs[k].nm, .int .u64 (lo cm), .int .u64 (hi cm)] 68 ∧ (∀ bb, v.ownBlock = some bb → ¬ bb = wo.heap.size))
            case atStart => exact ⟨0, by omega, by omega, rfl, hw.alloc _, by rw [rowTo_zero, List.append_nil]; exact hO.ext ((Ext.refl _).alloc _), BoxAt.new' rfl, hne⟩
            case round =>
              obtain ⟨j, hg2, hj, rfl, hE, hO2, hBx, hne2⟩ := hrel
              by_cases hjl : j < xs.length
              · obtain ⟨bf, offf, hA, hltf, _⟩ := hR j hjl
                subst hA
                obtain ⟨f0, f1, f2, f3, f4⟩ := (hR.ext (hw2.trans hE)).fld j hjl
                have hf := (sch_all hs).2 j hjl
                have hde := fun W => impl_decode xs[j].nm xs[j].kd xs[j].st xs[j].sz hf cm W
                change ∀ W, Calls _ _ _ W fun e w' => e = .returned (.tuple #[.int .i64 (valueF xs[j] cm).1, .int .i64 (valueF xs[j] cm).2]) ∧ Ext W w' at hde
                have hhit := fun h => hd (rowTo_hit (m := cm) (i := k) hjl h)
                have hmiss := fun h => hd (rowTo_miss (m := cm) (i := k) hjl h)
                have hrl := rowTo_len xs cm k j
                have hl : (ys ++ rowTo xs cm k j).length ≤ 10000 := by rw [List.length_append]; omega
                generalize valueF xs[j] cm = q at hde hhit hmiss
                obtain ⟨n, code⟩ := q
                dsimp only at hde hhit hmiss
                have b0 := hBx.cell 0
                have b1 := hBx.cell 1
                have b2 := hBx.cell 2
                have lB := hBx.lt
                go_wp2_with fail
                refine Calls.mono (hde _) ?_
                rintro e w5 ⟨rfl, hb5⟩
                have hW5 : Ext w2 w5 := (hE.alloc (.cells #[.string xs[j].nm, .int .i8 xs[j].kd, .int .i16 xs[j].st, .int .i16 xs[j].sz] 31)).trans hb5
                have hO5 := (hO2.ext ((Ext.refl _).alloc (.cells #[.string xs[j].nm, .int .i8 xs[j].kd, .int .i16 xs[j].st, .int .i16 xs[j].sz] 31))).ext hb5
                have hB5 := (hBx.alloc (.cells #[.string xs[j].nm, .int .i8 xs[j].kd, .int .i16 xs[j].st, .int .i16 xs[j].sz] 31)).ext hb5
                clear hb5 hO2 hBx b0 b1 b2 lB f0 f1 f2 f3
                by_cases q8 : code = 8
                · have hrow := hhit q8
                  subst q8
                  clear hhit hmiss
                  go_wp2_with (at_builtin; refine wpList_push2 (w0 := w2) (base := w2.heap.size) (xs := ys ++ rowTo xs cm k j) encDbt (by rfl) _ _ 80 (.agg #[.int .i64 0, .int .i64 0]) 16 (by rfl) Tryd.underlying80 info_dbt (by rfl) (((k : Int), (j : Int))) (by rfl) (by rfl) (by simp) (hO5) ((hW5 : Ext w2 _).size) (Nat.le_refl _) (hW5) (by omega) (by omega) ?_)
                  intro v6 w6 hO6 hb6 hg6 ho6
                  have hB6 : BoxAt w6 wo.heap.size #[.string cs[k].nm, .int .u64 (lo cm), .int .u64 (hi cm)] 68 := (hg6.block wo.heap.size hB5.lt (fun e => hne2 _ e.symm rfl)).trans hB5
                  have hne6 : ∀ bb, v6.ownBlock = some bb → ¬ bb = wo.heap.size := fun bb h he => by
                    subst he
                    rcases ho6 with h1 | ⟨b1, h1, h2⟩
                    · exact hne2 _ (h1.symm.trans h) rfl
                    · rw [h1] at h
                      have h3 := Option.some.inj h
                      have := hB5.lt
                      omega
                  go_wp2
                  go_roundg (xs.length - (j + 1))
                  case rel => exact ⟨j + 1, rfl, hjl, by simp, hb6, by rw [hrow.out]; first | exact hO6 | (rw [← List.append_assoc]; exact hO6), hB6, hne6⟩
                  case measure => omega
                · have hrow := hmiss q8
                  have e8 : (code == 8) = false := by simp [q8]
                  clear hhit hmiss
                  go_wp2
                  go_roundg (xs.length - (j + 1))
                  case rel => exact ⟨j + 1, rfl, hjl, by simp, hW5, by rw [hrow.out]; exact hO5, hB5, hne2⟩
                  case measure => omega
              · obtain rfl : j = xs.length := by omega
                go_wp2
                go_roundg (cs.length - (k + 1))
                case rel => exact ⟨k + 1, rfl, hkl, by simp, hE, by rw [hsu.out]; exact hO2⟩
                case measure => omega
          · obtain rfl : k = cs.length := by omega
            generalize doubTo xs cs cs.length = ys at hO hv
            go_wp2
            refine bodyPost_ret (v := .tuple #[_, .int .i64 0]) (by simp [results, Tryd.results45, go_sem]; rfl) rfl ⟨_, by rw [hv.out], by rw [hv.out]; exact hO.lower hw2.size, hw2.trans hw⟩
set_option maxHeartbeats 2000000 in
theorem spec_DoubtsOf (xs : List Fld) (A : Option Addr) (cap : Nat) (cs : List Crd) (B : Option Addr) (cap' : Nat) (w : World) (hR : Rd encFld w A xs) (hn : xs.length ≤ 1048576) (hok : ∀ x ∈ xs, FldIn x)
    (hS : Rd encCrd w B cs) (hm : cs.length ≤ 1048576) (hok' : ∀ x ∈ cs, CrdIn x) :
    Calls Tryd.prog 43 #[.slice A xs.length cap, .slice B cs.length cap'] w fun e w' => ∃ v, e = .returned (.tuple #[v, .int .i64 (doubtsF xs cs).2]) ∧ Ow encDbt 131 w' w.heap.size v (doubtsF xs cs).1 ∧ Ext w w' := by
  have hx := @ExtOf.cell
  have his := fun (W : World) (h : Ext w W) => spec_l01Scheme xs A cap W (hR.ext h) hn hok
  have hic := fun (W : World) (h : Ext w W) => spec_l04Cards cs B cap' W (hS.ext h) hm hok'
  cases hs : schB xs with
  | false =>
    have hv := hd (doubts_bad (xs := xs) (cs := cs) (by rw [hs]; rfl))
    rw [hs] at his
    go_enter Tryd.func43, Tryd.ntmps43
    go_wp2_with fail
    refine Calls.mono (his _ (Ext.refl _)) ?_
    rintro e w1 ⟨rfl, hb1⟩
    go_wp2
    refine bodyPost_ret (v := .tuple #[.slice (some ⟨w1.heap.size, 0, none⟩) 0 0, .int .i64 1]) (by simp [results, Tryd.results43, go_sem]) rfl ⟨_, by rw [hv.out], by rw [hv.out]; exact Ow.made0 rfl hb1.size, hb1.alloc _⟩
  | true =>
    rw [hs] at his
    cases hc : cs.all isCardB with
    | false =>
      have hv := hd (doubts_bad (xs := xs) (cs := cs) (by rw [hs, hc]; rfl))
      rw [hc] at hic
      go_enter Tryd.func43, Tryd.ntmps43
      go_wp2_with fail
      refine Calls.mono (his _ (Ext.refl _)) ?_
      rintro e w1 ⟨rfl, hb1⟩
      go_wp2_with fail
      refine Calls.mono (hic _ hb1) ?_
      rintro e w2 ⟨rfl, hb2⟩
      have hw := hb1.trans hb2
      go_wp2
      refine bodyPost_ret (v := .tuple #[.slice (some ⟨w2.heap.size, 0, none⟩) 0 0, .int .i64 1]) (by simp [results, Tryd.results43, go_sem]) rfl ⟨_, by rw [hv.out], by rw [hv.out]; exact Ow.made0 rfl hw.size, hw.alloc _⟩
    | true =>
      rw [hc] at hic
      have hsc : (schB xs && cs.all isCardB) = true := by rw [hs, hc]; rfl
      by_cases h60 : 60 < cs.length
      · have hv := hd (doubts_long hsc h60)
        go_enter Tryd.func43, Tryd.ntmps43
        go_wp2_with fail
        refine Calls.mono (his _ (Ext.refl _)) ?_
        rintro e w1 ⟨rfl, hb1⟩
        go_wp2_with fail
        refine Calls.mono (hic _ hb1) ?_
        rintro e w2 ⟨rfl, hb2⟩
        have hw := hb1.trans hb2
        go_wp2
        refine bodyPost_ret (v := .tuple #[.slice (some ⟨w2.heap.size, 0, none⟩) 0 0, .int .i64 2]) (by simp [results, Tryd.results43, go_sem]) rfl ⟨_, by rw [hv.out], by rw [hv.out]; exact Ow.made0 rfl hw.size, hw.alloc _⟩
      · have hv := hd (doubts_good hsc h60)
        have h12 := (sch_all hs).1
        have hdl := doubTo_len xs cs
        go_enter Tryd.func43, Tryd.ntmps43
        go_wp2_with fail
        refine Calls.mono (his _ (Ext.refl _)) ?_
        rintro e w1 ⟨rfl, hb1⟩
        go_wp2_with fail
        refine Calls.mono (hic _ hb1) ?_
        rintro e w2 ⟨rfl, hb2⟩
        have hw2 : Ext w w2 := hb1.trans hb2
        clear hb1 hb2 his hic
        go_wp2
        go_loopg [6, 7] cs.length (fun g v i wr => ∃ k : Nat, g = cs.length - k ∧ k ≤ cs.length ∧ i = .int .i64 k ∧ Ext w2 wr ∧ Ow encDbt 131 wr w2.heap.size v (doubTo xs cs k))
        case atStart => exact ⟨0, by omega, by omega, rfl, (Ext.refl _).alloc _, by rw [doubTo_zero]; exact Ow.made0 rfl (Nat.le_refl _)⟩
        case round =>
          obtain ⟨k, hg, hk, rfl, hw, hO⟩ := hrel
          by_cases hkl : k < cs.length
          · obtain ⟨b, off, hB, hlt, _⟩ := hS k hkl
            subst hB
            obtain ⟨m0, m1, m2, m3⟩ := hS.crd k hkl
            have hsu := hd (doubTo_succ xs cs k hkl)
            have hd1 := hdl k
            have hd2 : k * xs.length ≤ 60 * 12 := Nat.mul_le_mul (by omega) h12
            generalize hys : doubTo xs cs k = ys at hO hsu hd1
            generalize hcm : cs[k].m = cm at m1 m2 hsu
            go_wp2
            go_loopg [6, 8] xs.length (fun g v i wr2 => ∃ j : Nat, g = xs.length - j ∧ j ≤ xs.length ∧ i = .int .i64 j ∧ Ext w2 wr2 ∧ Ow encDbt 131 wr2 w2.heap.size v (ys ++ rowTo xs cm k j))
            case atStart => exact ⟨0, by omega, by omega, rfl, hw, by rw [rowTo_zero, List.append_nil]; exact hO⟩
            case round =>
              obtain ⟨j, hg2, hj, rfl, hE, hO2⟩ := hrel
              by_cases hjl : j < xs.length
              · obtain ⟨bf, offf, hA, hltf, _⟩ := hR j hjl
                subst hA
                have hF := (hR.ext (hw2.trans hE)).fldAt j hjl
                have hf := (sch_all hs).2 j hjl
                have hde := fun (W : World) (h : Ext wr W) => spec_l01Value xs[j] hf cm bf (offf + j * 4) W (hF.ext h)
                have hhit := fun h => hd (rowTo_hit (m := cm) (i := k) hjl h)
                have hmiss := fun h => hd (rowTo_miss (m := cm) (i := k) hjl h)
                have hrl := rowTo_len xs cm k j
                have hl : (ys ++ rowTo xs cm k j).length ≤ 10000 := by rw [List.length_append]; omega
                generalize valueF xs[j] cm = q at hde hhit hmiss
                obtain ⟨n, code⟩ := q
                dsimp only at hde hhit hmiss
                have n1 := (hw2.trans hE).cell m1
                have n2 := (hw2.trans hE).cell m2
                have ln := World.block_lt_of_cell? _ _ n1
                dsimp only at ln
                by_cases q8 : code = 8
                · have hrow := hhit q8
                  subst q8
                  clear hhit hmiss
                  go_wp2
                  refine wp_region_ext (by kernel_rfl) (by kernel_rfl) ?_
                  repeat (first | go_big_quiet_step ((go_at_call 68; with_reducible exact Calls.ext_all (fun W h => hde W h))) | quiet_step ((go_at_call 68; with_reducible exact Calls.ext_all (fun W h => hde W h))))
                  refine wpQuiet_nil ?_
                  intro w5 hq5
                  have hb5 := ext_of_class hq5
                  clear hq5
                  obtain ⟨hc5, hf5, hz5⟩ := bcell3 hb5
                  try simp at hz5
                  have hO5 := hO2.ext hb5
                  have hW5 := hE.trans hb5
                  clear hc5 hf5 hz5 hb5 hO2
                  go_wp2_with (at_builtin; refine wpList_push2 (w0 := w2) (base := w2.heap.size) (xs := ys ++ rowTo xs cm k j) encDbt (by rfl) _ _ 80 (.agg #[.int .i64 0, .int .i64 0]) 16 (by rfl) Tryd.underlying80 info_dbt (by rfl) (((k : Int), (j : Int))) (by rfl) (by rfl) (by simp) (hO5) ((hW5 : Ext w2 _).size) (Nat.le_refl _) (hW5) (by omega) (by omega) ?_)
                  intro v6 w6 hO6 hb6 hg6 ho6
                  go_wp2
                  go_roundg (xs.length - (j + 1))
                  case rel => exact ⟨j + 1, rfl, hjl, by simp, hb6, by rw [hrow.out]; first | exact hO6 | (rw [← List.append_assoc]; exact hO6)⟩
                  case measure => omega
                · have hrow := hmiss q8
                  have e8 : (code == 8) = false := by simp [q8]
                  clear hhit hmiss
                  go_wp2
                  refine wp_region_ext (by kernel_rfl) (by kernel_rfl) ?_
                  repeat (first | go_big_quiet_step ((go_at_call 68; with_reducible exact Calls.ext_all (fun W h => hde W h))) | quiet_step ((go_at_call 68; with_reducible exact Calls.ext_all (fun W h => hde W h))))
                  refine wpQuiet_nil ?_
                  intro w5 hq5
                  have hb5 := ext_of_class hq5
                  clear hq5
                  obtain ⟨hc5, hf5, hz5⟩ := bcell3 hb5
                  try simp at hz5
                  go_wp2
                  go_roundg (xs.length - (j + 1))
                  case rel => exact ⟨j + 1, rfl, hjl, by simp, hE.trans hb5, by rw [hrow.out]; exact hO2.ext hb5⟩
                  case measure => omega
              · obtain rfl : j = xs.length := by omega
                go_wp2
                go_roundg (cs.length - (k + 1))
                case rel => exact ⟨k + 1, rfl, hkl, by simp, hE, by rw [hsu.out]; exact hO2⟩
                case measure => omega
          · obtain rfl : k = cs.length := by omega
            generalize doubTo xs cs cs.length = ys at hO hv
            go_wp2
            refine bodyPost_ret (v := .tuple #[_, .int .i64 0]) (by simp [results, Tryd.results43, go_sem]; rfl) rfl ⟨_, by rw [hv.out], by rw [hv.out]; exact hO.lower hw2.size, hw2.trans hw⟩
end Go.Proofs.YtknbebglabpegaaDoor
