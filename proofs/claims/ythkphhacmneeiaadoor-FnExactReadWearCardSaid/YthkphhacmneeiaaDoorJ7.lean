/-
  Contract of the reference's ReadWear.
-/
import Derived.Test.YthkphhacmneeiaaDoorJ6
set_option linter.unusedVariables false
set_option linter.unusedSimpArgs false
set_option maxRecDepth 100000
namespace Go.Proofs.YthkphhacmneeiaaDoor
open Go.RowKit
/-- What is known of a word of the text of valid wear. -/
theorem good_word {s : ByteArray} {t f : Mask} (h : good s t f) (hs : s.size ≠ 0) {ws : List ByteArray} (hw : splitC 32 s = ws) (k : Nat) (hk : k < ws.length) {ps : List (Nat × Bool)} (hp : Inc ps) (hps : ws.take k = ps.map wd) :
    ∃ p : Nat × Bool, ws[k] = wd p ∧ p.1 < 96 ∧ lastP ps < p.1 := by
  have e := (hw.symm.trans (good_words h hs))
  have hi := inc_prs t f
  subst e
  rw [List.length_map] at hk
  have h1 : ((prs t f 96).take k).map wd = ps.map wd := by rw [← hps, List.map_take]
  have h2 := map_inj _ _ (fun p hp => hi.2 p (List.mem_of_mem_take hp)) hp.2 h1
  refine ⟨(prs t f 96)[k], by rw [List.getElem_map], hi.2 _ (List.getElem_mem hk), ?_⟩
  have h3 := inc_take hi (k + 1)
  rw [List.take_succ_eq_append_getElem hk, h2] at h3
  exact inc_next h3
theorem no_small {s : ByteArray} (hs : s.size ≠ 0) {ws : List ByteArray} (hw : splitC 32 s = ws) (k : Nat) (hk : k < ws.length) {ps : List (Nat × Bool)} (hp : Inc ps) (hps : ws.take k = ps.map wd) (h : ¬ 2 ≤ ws[k].size) : ∀ t f, ¬ good s t f := fun t f hg => by
  obtain ⟨p, e, _⟩ := good_word hg hs hw k hk hp hps
  exact h (by rw [e]; exact wd_size p)
theorem no_sign {s : ByteArray} (hs : s.size ≠ 0) {ws : List ByteArray} (hw : splitC 32 s = ws) (k : Nat) (hk : k < ws.length) {ps : List (Nat × Bool)} (hp : Inc ps) (hps : ws.take k = ps.map wd) (h0 : 0 < ws[k].size) (h1 : ws[k][0] ≠ 43) (h2 : ws[k][0] ≠ 45) : ∀ t f, ¬ good s t f := fun t f hg => by
  obtain ⟨p, e, _⟩ := good_word hg hs hw k hk hp hps
  have := wd_first p
  have e2 : ws[k][0] = if p.2 = true then 45 else 43 := by rw [← this]; congr 1
  cases hq : p.2 <;> rw [hq] at e2
  · exact h1 e2
  · exact h2 e2
theorem no_num {s : ByteArray} (hs : s.size ≠ 0) {ws : List ByteArray} (hw : splitC 32 s = ws) (k : Nat) (hk : k < ws.length) {ps : List (Nat × Bool)} (hp : Inc ps) (hps : ws.take k = ps.map wd) (h : ∀ n : Nat, n < 96 → lastP ps < n → ws[k].extract 1 ws[k].size ≠ decT n) : ∀ t f, ¬ good s t f := fun t f hg => by
  obtain ⟨p, e, h1, h2⟩ := good_word hg hs hw k hk hp hps
  exact h p.1 h1 h2 (by rw [e]; exact wd_rest p)
theorem dec_num {n : Nat} (h : n < 96) : numB (decT n).data.toList = true ∧ valL (decT n).data.toList = n := by rw [decT_data]; exact num_small n (by omega)
theorem W_zero : (.agg #[.int .u64 (lo 0), .int .u64 (hi 0), .int .u64 (lo 0), .int .u64 (hi 0)] : Value) = .agg #[.int .u64 0, .int .u64 0, .int .u64 0, .int .u64 0] := rfl
set_option maxHeartbeats 2000000 in
theorem spec_ReadWear (s : ByteArray) (hs : s.size ≤ 1048576) (w : World) :
    Calls Tryd.prog 8 #[.string s] w fun e w' => ∃ (t f : Mask) (c : Int), e = .returned (.tuple #[.agg #[.int .u64 (lo t), .int .u64 (hi t), .int .u64 (lo f), .int .u64 (hi f)], .int .i64 c]) ∧ RW s t f c ∧ Ext w w' := by
  have hx := @ExtOf.cell
  by_cases h0 : s.size = 0
  · have hg := good_empty h0
    obtain rfl : s = ⟨#[]⟩ := size_zero h0
    go_enter Tryd.func8, Tryd.ntmps8
    go_wp2
    refine bodyPost_ret (v := .tuple #[.agg #[.int .u64 0, .int .u64 0, .int .u64 0, .int .u64 0], .int .i64 0]) (by simp [results, Tryd.results8, go_sem]) rfl ⟨0, 0, 0, by rw [← W_zero], .inl ⟨rfl, hg⟩, ?_⟩
    ((repeat (first | with_reducible exact Ext.refl _ | with_reducible exact hw | with_reducible exact hb9 | with_reducible exact hb8 | with_reducible exact hb7 | with_reducible exact hb6 | with_reducible exact hb5 | with_reducible exact hb4 | with_reducible exact hb3 | with_reducible exact hb2 | with_reducible exact hb1 | with_reducible refine Ext.alloc ?_ _ | with_reducible refine Ext.drew ?_ | ((with_reducible refine Ext.set ?_ ?_ _); focus (dsimp only; omega)) | with_reducible refine Ext.trans ?_ hb9 | with_reducible refine Ext.trans ?_ hb8 | with_reducible refine Ext.trans ?_ hb7 | with_reducible refine Ext.trans ?_ hb6 | with_reducible refine Ext.trans ?_ hb5 | with_reducible refine Ext.trans ?_ hb4 | with_reducible refine Ext.trans ?_ hb3 | with_reducible refine Ext.trans ?_ hb2 | with_reducible refine Ext.trans ?_ hb1 | with_reducible refine Ext.trans ?_ hw)))
  have hq : s.toList.isEmpty = false := by
    rw [Lib.toList_data, List.isEmpty_eq_false_iff]
    intro h
    exact h0 (by show s.data.toList.length = 0; rw [h]; rfl)
  have hsp := fun W => spec_l01Split s 32 (by omega) W
  have hwl := splitC_le s 32
  obtain ⟨ws, hws⟩ : ∃ ws, splitC 32 s = ws := ⟨_, rfl⟩
  rw [hws] at hsp hwl
  have hsm := fun k hk ps hp hps h => no_small h0 hws k hk (ps := ps) hp hps h
  have hsg := fun k hk ps hp hps h1 h2 h3 => no_sign h0 hws k hk (ps := ps) hp hps h1 h2 h3
  have hnm := fun k hk ps hp hps h => no_num h0 hws k hk (ps := ps) hp hps h
  have hgo := fun ps (hi : Inc ps) (h : ws = ps.map wd) => good_of (s := s) hi (hws.trans h)
  clear hws
  go_enter Tryd.func8, Tryd.ntmps8
  go_wp2_with fail
  refine intro_world (R := fun W => Calls _ _ _ W _) (fun W0 hN => ?_)
  have eW0 : Ext w W0 := by rw [hN]; exact ((Ext.refl _).alloc _).alloc _
  have hX0 : BoxAt W0 w.heap.size #[.int .u64 0, .int .u64 0, .int .u64 0, .int .u64 0] 29 := by rw [hN]; exact (BoxAt.new' rfl).alloc _
  have hA0 : BoxAt W0 (w.heap.size + 1) #[.int .u64 0, .int .u64 0, .int .u64 0, .int .u64 0] 29 := by rw [hN]; exact BoxAt.new' (by simp)
  have hz0 : w.heap.size + 2 ≤ W0.heap.size := by rw [hN]; simp
  clear hN
  refine Calls.mono (hsp _) ?_
  rintro e w1 ⟨v1, rfl, hO1, hb1⟩
  have hO := hO1.lower hz0
  have hX1 := hX0.ext hb1
  have hA1 := hA0.ext hb1
  have hw1 := eW0.trans hb1
  clear hsp hO1 hX0 hA0 eW0 hb1 hz0
  obtain ⟨A, cap, rfl, hle, _⟩ := hO.slice
  go_wp2
  go_loopg [6, 7] ws.length (fun g lv iv wr => ∃ k : Nat, ∃ ps : List (Nat × Bool), g = ws.length - k ∧ k ≤ ws.length ∧ iv = .int .i64 k ∧ lv = .int .i64 (lastP ps) ∧ Hd (Inc ps) ∧ Hd (ws.take k = ps.map wd) ∧ Ext w wr ∧ BoxAt wr w.heap.size #[.int .u64 0, .int .u64 0, .int .u64 0, .int .u64 0] 29 ∧ BoxAt wr (w.heap.size + 1) #[.int .u64 (lo (tP ps)), .int .u64 (hi (tP ps)), .int .u64 (lo (fP ps)), .int .u64 (hi (fP ps))] 29 ∧ Ow encStr 9 wr (w.heap.size + 2) (.slice A ws.length cap) ws)
  case atStart => exact ⟨0, [], by omega, by omega, rfl, rfl, hd inc_nil, hd (by rw [List.take_zero, List.map_nil]), hw1, hX1, hA1, hO⟩
  case round =>
    clear hO hX1 hA1 hw1
    obtain ⟨k, ps, hg, hk, rfl, rfl, hin, hps, hw, hX, hA, hO⟩ := hrel
    have lX := hX.lt
    have lA := hA.lt
    by_cases hkl : k < ws.length
    · obtain ⟨bS, oS, hAe, hlt, _⟩ := hO.rdS k hkl
      subst hAe
      have m0 := hO.rdS.str k hkl
      have hsm := hsm k hkl ps hin.out hps.out
      have hsg := hsg k hkl ps hin.out hps.out
      have hnm := hnm k hkl ps hin.out hps.out
      have htk : Hd (ws.take (k + 1) = ps.map wd ++ [ws[k]]) := hd (by rw [List.take_succ_eq_append_getElem hkl, hps.out])
      have hl0 := last_ge ps
      have hl1 := last_lt ps hin.out
      have i0 : (k : Int) < ws.length := by omega
      generalize ws[k] = x at m0 hsm hsg hnm htk
      clear hgo hps
      by_cases h2 : 2 ≤ x.size
      · have hx1 : 1 ≤ x.size := by omega
        have i2 : ((x.size : Int) < 2) = False := eq_false (by omega)
        have ed : x.data[0]'(by show 0 < x.size; omega) = x[0] := rfl
        have hn := fun W => spec_l01Number (x.extract 1 x.size) W
        have hnd := num_dec (s := x.extract 1 x.size)
        have hdn := fun n hn => dec_num (n := n) hn
        have hwd := fun n b h0 h1 => wd_of (x := x) (n := n) hx1 b h0 h1
        have hsg := hsg (by omega)
        generalize hb0 : x[0] = b0 at hwd hsg ed
        generalize hrest : x.extract 1 x.size = rest at hn hnd hnm hwd
        by_cases q43 : b0 = 43
        · have j1 : ((x.data[0]'(by show 0 < x.size; omega)).toNat : Int) = 43 := by rw [ed, q43]; rfl
          have k1 : ((x[0]'(by omega)).toNat : Int) = 43 := by rw [hb0, q43]; rfl
          clear hb0
          go_wp2_with fail
          refine Calls.mono (hn _) ?_
          rintro e w2 ⟨n, rfl, hnv, hb2⟩
          obtain ⟨nb, hnb⟩ : ∃ nb, numB rest.data.toList = nb := ⟨_, rfl⟩
          rw [hnb]
          cases nb with
          | false =>
            have hno := hnm (fun n' h1 h2 e => by have := (hdn n' h1).1; rw [← e, hnb] at this; cases this)
            clear hnb
            replace hX := hX.ext hb2
            replace hw := hw.trans hb2
            clear hsm hsg hnm hn hnd hdn hwd htk hnv hrest ed
            have f0 := hX.frozen 0
            have f1 := hX.frozen 1
            have f2 := hX.frozen 2
            have f3 := hX.frozen 3
            have x0 : w2.cell? ⟨w.heap.size, 0, none⟩ = some (.int .u64 0) := hX.cell 0
            have x1 : w2.cell? ⟨w.heap.size, 1, none⟩ = some (.int .u64 0) := hX.cell 1
            have x2 : w2.cell? ⟨w.heap.size, 2, none⟩ = some (.int .u64 0) := hX.cell 2
            have x3 : w2.cell? ⟨w.heap.size, 3, none⟩ = some (.int .u64 0) := hX.cell 3
            replace hno := hd hno
            go_wp2
            have hXf := (((hX.set 0 (.int .u64 0)).set 1 (.int .u64 0)).set 2 (.int .u64 0)).set 3 (.int .u64 0)
            clear x0 x1 x2 x3 f0 f1 f2 f3
            have r0 : World.cell? _ ⟨w.heap.size, 0, none⟩ = some (.int .u64 0) := hXf.cell 0
            have r1 : World.cell? _ ⟨w.heap.size, 1, none⟩ = some (.int .u64 0) := hXf.cell 1
            have r2 : World.cell? _ ⟨w.heap.size, 2, none⟩ = some (.int .u64 0) := hXf.cell 2
            have r3 : World.cell? _ ⟨w.heap.size, 3, none⟩ = some (.int .u64 0) := hXf.cell 3
            refine bodyPost_ret (v := .tuple #[.agg #[.int .u64 0, .int .u64 0, .int .u64 0, .int .u64 0], .int .i64 5]) (by simp [results, Tryd.results8, go_sem, r0, r1, r2, r3]) rfl ⟨0, 0, 5, by rw [← W_zero], .inr ⟨rfl, rfl, rfl, hno.out⟩, ?_⟩
            exact Ext.set (Nat.le_refl _) (Ext.set (Nat.le_refl _) (Ext.set (Nat.le_refl _) (Ext.set (Nat.le_refl _) hw _) _) _) _
          | true =>
            have hrd := hnd hnb
            have hnv := hnv hnb
            obtain ⟨v, hval⟩ : ∃ v, valL rest.data.toList = v := ⟨_, rfl⟩
            have hvb := val_num hnb
            rw [hval] at hrd hnv hvb
            subst hnv
            have hnv2 : ∀ n' : Nat, n' < 96 → rest = decT n' → n' = v := fun n' h1 e => by rw [← hval, e, (hdn n' h1).2]
            replace hrd := hd hrd
            have hb2' := hb2
            clear hsm hsg hn hnd hdn hrest hval ed hnb
            cases hho : isHoleB (v : Int) with
            | false =>
              have hno := hnm (fun n' h1 h2 e => by have := hnv2 n' h1 e; subst this; unfold isHoleB at hho; rw [decide_eq_true (by omega), decide_eq_true (by omega)] at hho; cases hho)
              go_wp2_with fail
              refine Calls.mono (spec_l01Hole v _) ?_
              rintro e w3 ⟨rfl, hb3⟩
              rw [hho]
              replace hX := hX.ext (hb2.trans hb3)
              replace hw := hw.trans (hb2.trans hb3)
              clear hnm hwd htk hrd hnv2
              have f0 := hX.frozen 0
              have f1 := hX.frozen 1
              have f2 := hX.frozen 2
              have f3 := hX.frozen 3
              have x0 : w3.cell? ⟨w.heap.size, 0, none⟩ = some (.int .u64 0) := hX.cell 0
              have x1 : w3.cell? ⟨w.heap.size, 1, none⟩ = some (.int .u64 0) := hX.cell 1
              have x2 : w3.cell? ⟨w.heap.size, 2, none⟩ = some (.int .u64 0) := hX.cell 2
              have x3 : w3.cell? ⟨w.heap.size, 3, none⟩ = some (.int .u64 0) := hX.cell 3
              replace hno := hd hno
              go_wp2
              have hXf := (((hX.set 0 (.int .u64 0)).set 1 (.int .u64 0)).set 2 (.int .u64 0)).set 3 (.int .u64 0)
              clear x0 x1 x2 x3 f0 f1 f2 f3
              have r0 : World.cell? _ ⟨w.heap.size, 0, none⟩ = some (.int .u64 0) := hXf.cell 0
              have r1 : World.cell? _ ⟨w.heap.size, 1, none⟩ = some (.int .u64 0) := hXf.cell 1
              have r2 : World.cell? _ ⟨w.heap.size, 2, none⟩ = some (.int .u64 0) := hXf.cell 2
              have r3 : World.cell? _ ⟨w.heap.size, 3, none⟩ = some (.int .u64 0) := hXf.cell 3
              refine bodyPost_ret (v := .tuple #[.agg #[.int .u64 0, .int .u64 0, .int .u64 0, .int .u64 0], .int .i64 5]) (by simp [results, Tryd.results8, go_sem, r0, r1, r2, r3]) rfl ⟨0, 0, 5, by rw [← W_zero], .inr ⟨rfl, rfl, rfl, hno.out⟩, ?_⟩
              exact Ext.set (Nat.le_refl _) (Ext.set (Nat.le_refl _) (Ext.set (Nat.le_refl _) (Ext.set (Nat.le_refl _) hw _) _) _) _
            | true =>
              have hv96 : v < 96 := by unfold isHoleB at hho; rw [Bool.and_eq_true, decide_eq_true_eq, decide_eq_true_eq] at hho; omega
              go_wp2_with fail
              refine Calls.mono (spec_l01Hole v _) ?_
              rintro e w3 ⟨rfl, hb3⟩
              rw [hho]
              have hb23 := hb2.trans hb3
              by_cases hvl : (v : Int) ≤ lastP ps
              · have hno := hnm (fun n' h1 h2 e => by have := hnv2 n' h1 e; subst this; omega)
                replace hX := hX.ext hb23
                replace hw := hw.trans hb23
                clear hnm hwd htk hrd hnv2 hho
                have f0 := hX.frozen 0
                have f1 := hX.frozen 1
                have f2 := hX.frozen 2
                have f3 := hX.frozen 3
                have x0 : w3.cell? ⟨w.heap.size, 0, none⟩ = some (.int .u64 0) := hX.cell 0
                have x1 : w3.cell? ⟨w.heap.size, 1, none⟩ = some (.int .u64 0) := hX.cell 1
                have x2 : w3.cell? ⟨w.heap.size, 2, none⟩ = some (.int .u64 0) := hX.cell 2
                have x3 : w3.cell? ⟨w.heap.size, 3, none⟩ = some (.int .u64 0) := hX.cell 3
                replace hno := hd hno
                go_wp2
                have hXf := (((hX.set 0 (.int .u64 0)).set 1 (.int .u64 0)).set 2 (.int .u64 0)).set 3 (.int .u64 0)
                clear x0 x1 x2 x3 f0 f1 f2 f3
                have r0 : World.cell? _ ⟨w.heap.size, 0, none⟩ = some (.int .u64 0) := hXf.cell 0
                have r1 : World.cell? _ ⟨w.heap.size, 1, none⟩ = some (.int .u64 0) := hXf.cell 1
                have r2 : World.cell? _ ⟨w.heap.size, 2, none⟩ = some (.int .u64 0) := hXf.cell 2
                have r3 : World.cell? _ ⟨w.heap.size, 3, none⟩ = some (.int .u64 0) := hXf.cell 3
                refine bodyPost_ret (v := .tuple #[.agg #[.int .u64 0, .int .u64 0, .int .u64 0, .int .u64 0], .int .i64 5]) (by simp [results, Tryd.results8, go_sem, r0, r1, r2, r3]) rfl ⟨0, 0, 5, by rw [← W_zero], .inr ⟨rfl, rfl, rfl, hno.out⟩, ?_⟩
                exact Ext.set (Nat.le_refl _) (Ext.set (Nat.le_refl _) (Ext.set (Nat.le_refl _) (Ext.set (Nat.le_refl _) hw _) _) _) _
              · have hvl2 : ((v : Int) ≤ lastP ps) = False := eq_false hvl
                have hxw : x = wd (v, false) := hwd v false (by rw [q43]; rfl) hrd.out
                have hin2 : Hd (Inc (ps ++ [(v, false)])) := hd (inc_snoc hin.out (v, false) (by show lastP ps < (v : Int); omega) hv96)
                have htk2 : Hd (ws.take (k + 1) = (ps ++ [(v, false)]).map wd) := hd (by rw [htk.out, List.map_append, List.map_singleton, hxw])
                have hls2 : lastP (ps ++ [(v, false)]) = v := lastP_snoc ps (v, false)
                have hts2 : tP (ps ++ [(v, false)]) = mjoin (tP ps) (mbit v) := by rw [tP_snoc]; rfl
                have hfs2 : fP (ps ++ [(v, false)]) = fP ps := by rw [fP_snoc]; rfl
                generalize hps2 : ps ++ [(v, false)] = ps2 at hin2 htk2 hls2 hts2 hfs2
                replace hls2 := hd hls2
                replace hts2 := hd hts2
                replace hfs2 := hd hfs2
                have hX3 := hX.ext hb23
                have hA3 := hA.ext hb23
                have hw3 := hw.trans hb23
                have hO3 := hO.ext hb23
                have lA3 := hA3.lt
                have a0 : w3.cell? ⟨w.heap.size + 1, 0, none⟩ = some (.int .u64 (lo (tP ps))) := hA3.cell 0
                have a1 : w3.cell? ⟨w.heap.size + 1, 1, none⟩ = some (.int .u64 (hi (tP ps))) := hA3.cell 1
                have a2 : w3.cell? ⟨w.heap.size + 1, 2, none⟩ = some (.int .u64 (lo (fP ps))) := hA3.cell 2
                have a3 : w3.cell? ⟨w.heap.size + 1, 3, none⟩ = some (.int .u64 (hi (fP ps))) := hA3.cell 3
                clear hnm hwd htk hrd hnv2 hho hvl hxw hX hA hw hO hin hps2 hb2' q43 lX lA
                go_wp2
                refine wp_region_ext_tail 5 5 (by kernel_rfl) (by kernel_rfl) (by intro d _ _ _ _ h; cases d <;> exact h) ?_
                simp only [List.take_succ_cons, List.take_zero, List.drop_succ_cons, List.drop_zero]
                repeat (first | go_big_quiet_step ((first | (go_at_call 20; with_reducible exact Calls.ext_of (spec_l01Bit v (by omega) (by omega) _)) | (go_at_call 19; with_reducible exact Calls.ext_of (spec_l01Join _ _ _)))) | quiet_step ((first | (go_at_call 20; with_reducible exact Calls.ext_of (spec_l01Bit v (by omega) (by omega) _)) | (go_at_call 19; with_reducible exact Calls.ext_of (spec_l01Join _ _ _)))))
                refine wpQuiet_nil ?_
                intro w4 hq4
                have hb4 := ext_of_class hq4
                clear hq4
                obtain ⟨hc4, hf4, hz4⟩ := bcell3 hb4
                try simp at hz4
                have hA4 := hA3.ext hb4
                have f0 := hA4.frozen 0
                have f1 := hA4.frozen 1
                have f2 := hA4.frozen 2
                have f3 := hA4.frozen 3
                replace a0 := hb4.cell a0
                replace a1 := hb4.cell a1
                replace a2 := hb4.cell a2
                replace a3 := hb4.cell a3
                have lA4 := hA4.lt
                clear hc4 hf4
                go_wp2
                go_roundg (ws.length - (k + 1))
                case rel => exact ⟨k + 1, ps2, rfl, hkl, by simp, by rw [hls2.out], hin2, htk2, Ext.set (by dsimp only; omega) (Ext.set (by dsimp only; omega) (hw3.trans hb4) _) _, ((hX3.ext hb4).setOther (by dsimp only; omega) _).setOther (by dsimp only; omega) _, by rw [hts2.out, hfs2.out]; exact (hA4.set 0 _).set 1 _, ((hO3.ext hb4).far (by intro h; have := ((hO3.ext hb4).lt _ h).1; dsimp only at this; omega) _).far (by intro h; have := ((hO3.ext hb4).lt _ h).1; dsimp only at this; omega) _⟩
                case measure => omega
        · by_cases q45 : b0 = 45
          · have j1 : ((x.data[0]'(by show 0 < x.size; omega)).toNat : Int) = 45 := by rw [ed, q45]; rfl
            have k1 : ((x[0]'(by omega)).toNat : Int) = 45 := by rw [hb0, q45]; rfl
            clear hb0
            go_wp2_with fail
            refine Calls.mono (hn _) ?_
            rintro e w2 ⟨n, rfl, hnv, hb2⟩
            obtain ⟨nb, hnb⟩ : ∃ nb, numB rest.data.toList = nb := ⟨_, rfl⟩
            rw [hnb]
            cases nb with
            | false =>
              have hno := hnm (fun n' h1 h2 e => by have := (hdn n' h1).1; rw [← e, hnb] at this; cases this)
              clear hnb
              replace hX := hX.ext hb2
              replace hw := hw.trans hb2
              clear hsm hsg hnm hn hnd hdn hwd htk hnv hrest ed
              have f0 := hX.frozen 0
              have f1 := hX.frozen 1
              have f2 := hX.frozen 2
              have f3 := hX.frozen 3
              have x0 : w2.cell? ⟨w.heap.size, 0, none⟩ = some (.int .u64 0) := hX.cell 0
              have x1 : w2.cell? ⟨w.heap.size, 1, none⟩ = some (.int .u64 0) := hX.cell 1
              have x2 : w2.cell? ⟨w.heap.size, 2, none⟩ = some (.int .u64 0) := hX.cell 2
              have x3 : w2.cell? ⟨w.heap.size, 3, none⟩ = some (.int .u64 0) := hX.cell 3
              replace hno := hd hno
              go_wp2
              have hXf := (((hX.set 0 (.int .u64 0)).set 1 (.int .u64 0)).set 2 (.int .u64 0)).set 3 (.int .u64 0)
              clear x0 x1 x2 x3 f0 f1 f2 f3
              have r0 : World.cell? _ ⟨w.heap.size, 0, none⟩ = some (.int .u64 0) := hXf.cell 0
              have r1 : World.cell? _ ⟨w.heap.size, 1, none⟩ = some (.int .u64 0) := hXf.cell 1
              have r2 : World.cell? _ ⟨w.heap.size, 2, none⟩ = some (.int .u64 0) := hXf.cell 2
              have r3 : World.cell? _ ⟨w.heap.size, 3, none⟩ = some (.int .u64 0) := hXf.cell 3
              refine bodyPost_ret (v := .tuple #[.agg #[.int .u64 0, .int .u64 0, .int .u64 0, .int .u64 0], .int .i64 5]) (by simp [results, Tryd.results8, go_sem, r0, r1, r2, r3]) rfl ⟨0, 0, 5, by rw [← W_zero], .inr ⟨rfl, rfl, rfl, hno.out⟩, ?_⟩
              exact Ext.set (Nat.le_refl _) (Ext.set (Nat.le_refl _) (Ext.set (Nat.le_refl _) (Ext.set (Nat.le_refl _) hw _) _) _) _
            | true =>
              have hrd := hnd hnb
              have hnv := hnv hnb
              obtain ⟨v, hval⟩ : ∃ v, valL rest.data.toList = v := ⟨_, rfl⟩
              have hvb := val_num hnb
              rw [hval] at hrd hnv hvb
              subst hnv
              have hnv2 : ∀ n' : Nat, n' < 96 → rest = decT n' → n' = v := fun n' h1 e => by rw [← hval, e, (hdn n' h1).2]
              replace hrd := hd hrd
              have hb2' := hb2
              clear hsm hsg hn hnd hdn hrest hval ed hnb
              cases hho : isHoleB (v : Int) with
              | false =>
                have hno := hnm (fun n' h1 h2 e => by have := hnv2 n' h1 e; subst this; unfold isHoleB at hho; rw [decide_eq_true (by omega), decide_eq_true (by omega)] at hho; cases hho)
                go_wp2_with fail
                refine Calls.mono (spec_l01Hole v _) ?_
                rintro e w3 ⟨rfl, hb3⟩
                rw [hho]
                replace hX := hX.ext (hb2.trans hb3)
                replace hw := hw.trans (hb2.trans hb3)
                clear hnm hwd htk hrd hnv2
                have f0 := hX.frozen 0
                have f1 := hX.frozen 1
                have f2 := hX.frozen 2
                have f3 := hX.frozen 3
                have x0 : w3.cell? ⟨w.heap.size, 0, none⟩ = some (.int .u64 0) := hX.cell 0
                have x1 : w3.cell? ⟨w.heap.size, 1, none⟩ = some (.int .u64 0) := hX.cell 1
                have x2 : w3.cell? ⟨w.heap.size, 2, none⟩ = some (.int .u64 0) := hX.cell 2
                have x3 : w3.cell? ⟨w.heap.size, 3, none⟩ = some (.int .u64 0) := hX.cell 3
                replace hno := hd hno
                go_wp2
                have hXf := (((hX.set 0 (.int .u64 0)).set 1 (.int .u64 0)).set 2 (.int .u64 0)).set 3 (.int .u64 0)
                clear x0 x1 x2 x3 f0 f1 f2 f3
                have r0 : World.cell? _ ⟨w.heap.size, 0, none⟩ = some (.int .u64 0) := hXf.cell 0
                have r1 : World.cell? _ ⟨w.heap.size, 1, none⟩ = some (.int .u64 0) := hXf.cell 1
                have r2 : World.cell? _ ⟨w.heap.size, 2, none⟩ = some (.int .u64 0) := hXf.cell 2
                have r3 : World.cell? _ ⟨w.heap.size, 3, none⟩ = some (.int .u64 0) := hXf.cell 3
                refine bodyPost_ret (v := .tuple #[.agg #[.int .u64 0, .int .u64 0, .int .u64 0, .int .u64 0], .int .i64 5]) (by simp [results, Tryd.results8, go_sem, r0, r1, r2, r3]) rfl ⟨0, 0, 5, by rw [← W_zero], .inr ⟨rfl, rfl, rfl, hno.out⟩, ?_⟩
                exact Ext.set (Nat.le_refl _) (Ext.set (Nat.le_refl _) (Ext.set (Nat.le_refl _) (Ext.set (Nat.le_refl _) hw _) _) _) _
              | true =>
                have hv96 : v < 96 := by unfold isHoleB at hho; rw [Bool.and_eq_true, decide_eq_true_eq, decide_eq_true_eq] at hho; omega
                go_wp2_with fail
                refine Calls.mono (spec_l01Hole v _) ?_
                rintro e w3 ⟨rfl, hb3⟩
                rw [hho]
                have hb23 := hb2.trans hb3
                by_cases hvl : (v : Int) ≤ lastP ps
                · have hno := hnm (fun n' h1 h2 e => by have := hnv2 n' h1 e; subst this; omega)
                  replace hX := hX.ext hb23
                  replace hw := hw.trans hb23
                  clear hnm hwd htk hrd hnv2 hho
                  have f0 := hX.frozen 0
                  have f1 := hX.frozen 1
                  have f2 := hX.frozen 2
                  have f3 := hX.frozen 3
                  have x0 : w3.cell? ⟨w.heap.size, 0, none⟩ = some (.int .u64 0) := hX.cell 0
                  have x1 : w3.cell? ⟨w.heap.size, 1, none⟩ = some (.int .u64 0) := hX.cell 1
                  have x2 : w3.cell? ⟨w.heap.size, 2, none⟩ = some (.int .u64 0) := hX.cell 2
                  have x3 : w3.cell? ⟨w.heap.size, 3, none⟩ = some (.int .u64 0) := hX.cell 3
                  replace hno := hd hno
                  go_wp2
                  have hXf := (((hX.set 0 (.int .u64 0)).set 1 (.int .u64 0)).set 2 (.int .u64 0)).set 3 (.int .u64 0)
                  clear x0 x1 x2 x3 f0 f1 f2 f3
                  have r0 : World.cell? _ ⟨w.heap.size, 0, none⟩ = some (.int .u64 0) := hXf.cell 0
                  have r1 : World.cell? _ ⟨w.heap.size, 1, none⟩ = some (.int .u64 0) := hXf.cell 1
                  have r2 : World.cell? _ ⟨w.heap.size, 2, none⟩ = some (.int .u64 0) := hXf.cell 2
                  have r3 : World.cell? _ ⟨w.heap.size, 3, none⟩ = some (.int .u64 0) := hXf.cell 3
                  refine bodyPost_ret (v := .tuple #[.agg #[.int .u64 0, .int .u64 0, .int .u64 0, .int .u64 0], .int .i64 5]) (by simp [results, Tryd.results8, go_sem, r0, r1, r2, r3]) rfl ⟨0, 0, 5, by rw [← W_zero], .inr ⟨rfl, rfl, rfl, hno.out⟩, ?_⟩
                  exact Ext.set (Nat.le_refl _) (Ext.set (Nat.le_refl _) (Ext.set (Nat.le_refl _) (Ext.set (Nat.le_refl _) hw _) _) _) _
                · have hvl2 : ((v : Int) ≤ lastP ps) = False := eq_false hvl
                  have hxw : x = wd (v, true) := hwd v true (by rw [q45]; rfl) hrd.out
                  have hin2 : Hd (Inc (ps ++ [(v, true)])) := hd (inc_snoc hin.out (v, true) (by show lastP ps < (v : Int); omega) hv96)
                  have htk2 : Hd (ws.take (k + 1) = (ps ++ [(v, true)]).map wd) := hd (by rw [htk.out, List.map_append, List.map_singleton, hxw])
                  have hls2 : lastP (ps ++ [(v, true)]) = v := lastP_snoc ps (v, true)
                  have hts2 : tP (ps ++ [(v, true)]) = tP ps := by rw [tP_snoc]; rfl
                  have hfs2 : fP (ps ++ [(v, true)]) = mjoin (fP ps) (mbit v) := by rw [fP_snoc]; rfl
                  generalize hps2 : ps ++ [(v, true)] = ps2 at hin2 htk2 hls2 hts2 hfs2
                  replace hls2 := hd hls2
                  replace hts2 := hd hts2
                  replace hfs2 := hd hfs2
                  have hX3 := hX.ext hb23
                  have hA3 := hA.ext hb23
                  have hw3 := hw.trans hb23
                  have hO3 := hO.ext hb23
                  have lA3 := hA3.lt
                  have a0 : w3.cell? ⟨w.heap.size + 1, 0, none⟩ = some (.int .u64 (lo (tP ps))) := hA3.cell 0
                  have a1 : w3.cell? ⟨w.heap.size + 1, 1, none⟩ = some (.int .u64 (hi (tP ps))) := hA3.cell 1
                  have a2 : w3.cell? ⟨w.heap.size + 1, 2, none⟩ = some (.int .u64 (lo (fP ps))) := hA3.cell 2
                  have a3 : w3.cell? ⟨w.heap.size + 1, 3, none⟩ = some (.int .u64 (hi (fP ps))) := hA3.cell 3
                  clear hnm hwd htk hrd hnv2 hho hvl hxw hX hA hw hO hin hps2 hb2' q43 lX lA
                  go_wp2
                  refine wp_region_ext_tail 5 5 (by kernel_rfl) (by kernel_rfl) (by intro d _ _ _ _ h; cases d <;> exact h) ?_
                  simp only [List.take_succ_cons, List.take_zero, List.drop_succ_cons, List.drop_zero]
                  repeat (first | go_big_quiet_step ((first | (go_at_call 20; with_reducible exact Calls.ext_of (spec_l01Bit v (by omega) (by omega) _)) | (go_at_call 19; with_reducible exact Calls.ext_of (spec_l01Join _ _ _)))) | quiet_step ((first | (go_at_call 20; with_reducible exact Calls.ext_of (spec_l01Bit v (by omega) (by omega) _)) | (go_at_call 19; with_reducible exact Calls.ext_of (spec_l01Join _ _ _)))))
                  refine wpQuiet_nil ?_
                  intro w4 hq4
                  have hb4 := ext_of_class hq4
                  clear hq4
                  obtain ⟨hc4, hf4, hz4⟩ := bcell3 hb4
                  try simp at hz4
                  have hA4 := hA3.ext hb4
                  have f0 := hA4.frozen 0
                  have f1 := hA4.frozen 1
                  have f2 := hA4.frozen 2
                  have f3 := hA4.frozen 3
                  replace a0 := hb4.cell a0
                  replace a1 := hb4.cell a1
                  replace a2 := hb4.cell a2
                  replace a3 := hb4.cell a3
                  have lA4 := hA4.lt
                  clear hc4 hf4
                  go_wp2
                  go_roundg (ws.length - (k + 1))
                  case rel => exact ⟨k + 1, ps2, rfl, hkl, by simp, by rw [hls2.out], hin2, htk2, Ext.set (by dsimp only; omega) (Ext.set (by dsimp only; omega) (hw3.trans hb4) _) _, ((hX3.ext hb4).setOther (by dsimp only; omega) _).setOther (by dsimp only; omega) _, by rw [hts2.out, hfs2.out]; exact (hA4.set 2 _).set 3 _, ((hO3.ext hb4).far (by intro h; have := ((hO3.ext hb4).lt _ h).1; dsimp only at this; omega) _).far (by intro h; have := ((hO3.ext hb4).lt _ h).1; dsimp only at this; omega) _⟩
                  case measure => omega
          · have hno := hsg q43 q45
            have n43 : ¬ ((x.data[0]'(by show 0 < x.size; omega)).toNat : Int) = 43 := fun h => q43 (UInt8.toNat_inj.1 (by rw [← ed]; show _ = 43; omega))
            have n45 : ¬ ((x.data[0]'(by show 0 < x.size; omega)).toNat : Int) = 45 := fun h => q45 (UInt8.toNat_inj.1 (by rw [← ed]; show _ = 45; omega))
            have j1 := eq_false n43
            have j2 := eq_false n45
            have m43 : ¬ ((x[0]'(by omega)).toNat : Int) = 43 := fun h => q43 (UInt8.toNat_inj.1 (by rw [← hb0]; show _ = 43; omega))
            have m45 : ¬ ((x[0]'(by omega)).toNat : Int) = 45 := fun h => q45 (UInt8.toNat_inj.1 (by rw [← hb0]; show _ = 45; omega))
            have k1 := eq_false m43
            have k2 := eq_false m45
            have k3 : (((x[0]'(by omega)).toNat : Int) == 43) = false := by rw [beq_eq_false_iff_ne]; exact m43
            have k4 : (((x[0]'(by omega)).toNat : Int) == 45) = false := by rw [beq_eq_false_iff_ne]; exact m45
            have k5 : (((x[0]'(by omega)).toNat : Int) != 43) = true := by rw [bne, k3]; rfl
            have k6 : (((x[0]'(by omega)).toNat : Int) != 45) = true := by rw [bne, k4]; rfl
            clear m43 m45
            have j3 : (((x.data[0]'(by show 0 < x.size; omega)).toNat : Int) == 43) = false := by rw [beq_eq_false_iff_ne]; exact n43
            have j4 : (((x.data[0]'(by show 0 < x.size; omega)).toNat : Int) == 45) = false := by rw [beq_eq_false_iff_ne]; exact n45
            clear hsm hsg hnm hn hnd hdn hwd htk hb0 hrest ed n43 n45
            have f0 := hX.frozen 0
            have f1 := hX.frozen 1
            have f2 := hX.frozen 2
            have f3 := hX.frozen 3
            have x0 : wr.cell? ⟨w.heap.size, 0, none⟩ = some (.int .u64 0) := hX.cell 0
            have x1 : wr.cell? ⟨w.heap.size, 1, none⟩ = some (.int .u64 0) := hX.cell 1
            have x2 : wr.cell? ⟨w.heap.size, 2, none⟩ = some (.int .u64 0) := hX.cell 2
            have x3 : wr.cell? ⟨w.heap.size, 3, none⟩ = some (.int .u64 0) := hX.cell 3
            replace hno := hd hno
            go_wp2
            have hXf := (((hX.set 0 (.int .u64 0)).set 1 (.int .u64 0)).set 2 (.int .u64 0)).set 3 (.int .u64 0)
            clear x0 x1 x2 x3 f0 f1 f2 f3
            have r0 : World.cell? _ ⟨w.heap.size, 0, none⟩ = some (.int .u64 0) := hXf.cell 0
            have r1 : World.cell? _ ⟨w.heap.size, 1, none⟩ = some (.int .u64 0) := hXf.cell 1
            have r2 : World.cell? _ ⟨w.heap.size, 2, none⟩ = some (.int .u64 0) := hXf.cell 2
            have r3 : World.cell? _ ⟨w.heap.size, 3, none⟩ = some (.int .u64 0) := hXf.cell 3
            refine bodyPost_ret (v := .tuple #[.agg #[.int .u64 0, .int .u64 0, .int .u64 0, .int .u64 0], .int .i64 5]) (by simp [results, Tryd.results8, go_sem, r0, r1, r2, r3]) rfl ⟨0, 0, 5, by rw [← W_zero], .inr ⟨rfl, rfl, rfl, hno.out⟩, ?_⟩
            exact Ext.set (Nat.le_refl _) (Ext.set (Nat.le_refl _) (Ext.set (Nat.le_refl _) (Ext.set (Nat.le_refl _) hw _) _) _) _
      · have hno := hsm h2
        have i2 : (x.size : Int) < 2 := by omega
        clear hsm hsg hnm htk
        have f0 := hX.frozen 0
        have f1 := hX.frozen 1
        have f2 := hX.frozen 2
        have f3 := hX.frozen 3
        have x0 : wr.cell? ⟨w.heap.size, 0, none⟩ = some (.int .u64 0) := hX.cell 0
        have x1 : wr.cell? ⟨w.heap.size, 1, none⟩ = some (.int .u64 0) := hX.cell 1
        have x2 : wr.cell? ⟨w.heap.size, 2, none⟩ = some (.int .u64 0) := hX.cell 2
        have x3 : wr.cell? ⟨w.heap.size, 3, none⟩ = some (.int .u64 0) := hX.cell 3
        replace hno := hd hno
        go_wp2
        have hXf := (((hX.set 0 (.int .u64 0)).set 1 (.int .u64 0)).set 2 (.int .u64 0)).set 3 (.int .u64 0)
        clear x0 x1 x2 x3 f0 f1 f2 f3
        have r0 : World.cell? _ ⟨w.heap.size, 0, none⟩ = some (.int .u64 0) := hXf.cell 0
        have r1 : World.cell? _ ⟨w.heap.size, 1, none⟩ = some (.int .u64 0) := hXf.cell 1
        have r2 : World.cell? _ ⟨w.heap.size, 2, none⟩ = some (.int .u64 0) := hXf.cell 2
        have r3 : World.cell? _ ⟨w.heap.size, 3, none⟩ = some (.int .u64 0) := hXf.cell 3
        refine bodyPost_ret (v := .tuple #[.agg #[.int .u64 0, .int .u64 0, .int .u64 0, .int .u64 0], .int .i64 5]) (by simp [results, Tryd.results8, go_sem, r0, r1, r2, r3]) rfl ⟨0, 0, 5, by rw [← W_zero], .inr ⟨rfl, rfl, rfl, hno.out⟩, ?_⟩
        exact Ext.set (Nat.le_refl _) (Ext.set (Nat.le_refl _) (Ext.set (Nat.le_refl _) (Ext.set (Nat.le_refl _) hw _) _) _) _
    · obtain rfl : k = ws.length := by omega
      have hgd := hgo ps hin.out (by rw [← hps.out, List.take_length])
      have a0 : wr.cell? ⟨w.heap.size + 1, 0, none⟩ = some (.int .u64 (lo (tP ps))) := hA.cell 0
      have a1 : wr.cell? ⟨w.heap.size + 1, 1, none⟩ = some (.int .u64 (hi (tP ps))) := hA.cell 1
      have a2 : wr.cell? ⟨w.heap.size + 1, 2, none⟩ = some (.int .u64 (lo (fP ps))) := hA.cell 2
      have a3 : wr.cell? ⟨w.heap.size + 1, 3, none⟩ = some (.int .u64 (hi (fP ps))) := hA.cell 3
      clear hsm hsg hnm hgo hps hin
      generalize tP ps = t at a0 a1 hgd
      generalize fP ps = f at a2 a3 hgd
      have f0 := hX.frozen 0
      have f1 := hX.frozen 1
      have f2 := hX.frozen 2
      have f3 := hX.frozen 3
      have x0 : wr.cell? ⟨w.heap.size, 0, none⟩ = some (.int .u64 0) := hX.cell 0
      have x1 : wr.cell? ⟨w.heap.size, 1, none⟩ = some (.int .u64 0) := hX.cell 1
      have x2 : wr.cell? ⟨w.heap.size, 2, none⟩ = some (.int .u64 0) := hX.cell 2
      have x3 : wr.cell? ⟨w.heap.size, 3, none⟩ = some (.int .u64 0) := hX.cell 3
      go_wp2
      have hXf := (((hX.set 0 (.int .u64 (lo t))).set 1 (.int .u64 (hi t))).set 2 (.int .u64 (lo f))).set 3 (.int .u64 (hi f))
      clear x0 x1 x2 x3 f0 f1 f2 f3 a0 a1 a2 a3
      have r0 : World.cell? _ ⟨w.heap.size, 0, none⟩ = some (.int .u64 (lo t)) := hXf.cell 0
      have r1 : World.cell? _ ⟨w.heap.size, 1, none⟩ = some (.int .u64 (hi t)) := hXf.cell 1
      have r2 : World.cell? _ ⟨w.heap.size, 2, none⟩ = some (.int .u64 (lo f)) := hXf.cell 2
      have r3 : World.cell? _ ⟨w.heap.size, 3, none⟩ = some (.int .u64 (hi f)) := hXf.cell 3
      refine bodyPost_ret (v := .tuple #[.agg #[.int .u64 (lo t), .int .u64 (hi t), .int .u64 (lo f), .int .u64 (hi f)], .int .i64 0]) (by simp [results, Tryd.results8, go_sem, r0, r1, r2, r3]) rfl ⟨t, f, 0, rfl, .inl ⟨rfl, hgd⟩, ?_⟩
      exact Ext.set (Nat.le_refl _) (Ext.set (Nat.le_refl _) (Ext.set (Nat.le_refl _) (Ext.set (Nat.le_refl _) hw _) _) _) _
end Go.Proofs.YthkphhacmneeiaaDoor
