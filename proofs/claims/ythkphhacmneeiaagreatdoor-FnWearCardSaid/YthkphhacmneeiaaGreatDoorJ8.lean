/-
  Contract of the program's ReadWear.
-/
import Derived.Test.YthkphhacmneeiaaGreatDoorJ7
import Derived.Test.YthkphhacmneeiaaGreatDoorC6
set_option linter.unusedVariables false
set_option linter.unusedSimpArgs false
set_option maxRecDepth 100000
namespace Go.Proofs.YthkphhacmneeiaaGreatDoor
open Go.RowKit
theorem Rd.setJ {α : Type} {e : Enc α} {w : World} {b o : Nat} {xs : List α} (h : Rd e w (some ⟨b, o, none⟩) xs) {p : Addr} (hp : b ≠ p.block) (v : Value) : Rd e (w.setCell p v) (some ⟨b, o, none⟩) xs := fun k hk => by
  obtain ⟨b', o', hA, hlt, hc⟩ := h k hk
  simp only [Option.some.injEq, Addr.mk.injEq, and_true] at hA
  obtain ⟨rfl, rfl⟩ := hA
  refine ⟨_, _, rfl, by rw [World.size_setCell]; exact hlt, fun j u hu => ?_⟩
  have e : (w.setCell p v).heap[b]? = w.heap[b]? := Below.heap_setCell w p v b hp
  have := hc j u hu
  unfold World.cell? at this ⊢
  rw [e]; exact this
theorem piece_32 : ∀ (n : Nat) (s : ByteArray), s.size ≤ n → ∀ p ∈ splitC 32 s, p.size ≤ n := by
  intro n
  induction n with
  | zero =>
    intro s hs p hp
    obtain rfl : s = ⟨#[]⟩ := size_zero (by omega)
    rw [splitC_none (by rfl), List.mem_singleton] at hp
    rw [hp]; exact hs
  | succ n ih =>
    intro s hs p hp
    cases h : hasC 32 s with
    | false => rw [splitC_none h, List.mem_singleton] at hp; rw [hp]; exact hs
    | true =>
      obtain ⟨a, t, e, ha⟩ := part_at s.data.toList h
      have hs2 : s = ⟨a.toArray⟩ ++ (⟨#[32]⟩ ++ ⟨t.toArray⟩) := by
        rw [← mk_app [32], ← mk_app]
        show s = ⟨(a ++ (32 :: t)).toArray⟩
        rw [← e, Array.toArray_toList]
      have hsz : a.length + (t.length + 1) = s.size := by
        have : s.data.toList.length = s.size := rfl
        rw [e, List.length_append, List.length_cons] at this
        omega
      rw [hs2, splitC_app (by unfold hasC; rw [List.toList_toArray]; exact ha), List.mem_cons] at hp
      rcases hp with rfl | hp
      · show a.toArray.size ≤ _
        rw [List.size_toArray]; omega
      · have := ih ⟨t.toArray⟩ (by show t.toArray.size ≤ n; rw [List.size_toArray]; omega) p hp
        omega
/-- The word at place k, where there is wear with this text. -/
theorem good_at {s : ByteArray} {t f : Mask} (h : good s t f) (hs : s.size ≠ 0) {ws : List ByteArray} (hw : splitC 32 s = ws) (k : Nat) (hk : k < ws.length) : ∃ p : Nat × Bool, ws[k] = wd p ∧ p.1 < 96 ∧ (prs t f 96).take (k + 1) = (prs t f 96).take k ++ [p] := by
  have e := (hw.symm.trans (good_words h hs))
  have hi := inc_prs t f
  subst e
  rw [List.length_map] at hk
  exact ⟨(prs t f 96)[k], by rw [List.getElem_map], hi.2 _ (List.getElem_mem hk), List.take_succ_eq_append_getElem hk⟩
theorem good_end {s : ByteArray} {t f : Mask} (h : good s t f) (hs : s.size ≠ 0) {ws : List ByteArray} (hw : splitC 32 s = ws) : tP ((prs t f 96).take ws.length) = t ∧ fP ((prs t f 96).take ws.length) = f := by
  have e := (hw.symm.trans (good_words h hs))
  subst e
  rw [List.length_map, List.take_length]
  exact ⟨tP_prs h.1, fP_prs h.1⟩
set_option maxHeartbeats 2000000 in
theorem impl_ReadWear (s : ByteArray) (hs : s.size ≤ 1048576) (w : World) (hG : Glob w) (hEn : Env w) :
    Calls Tryz.prog 10 #[.string s] w fun e w' => ∃ (t f : Mask) (c : Int), e = .returned (.tuple #[.agg #[.int .u64 (lo t), .int .u64 (hi t), .int .u64 (lo f), .int .u64 (hi f)], .int .i64 c]) ∧ RW s t f c ∧ Ext w w' := by
  have hx := @ExtOf.cell
  by_cases h0 : s.size = 0
  · have hg := good_empty h0
    obtain rfl : s = ⟨#[]⟩ := size_zero h0
    go_enter Tryz.func10, Tryz.ntmps10
    go_wp2
    refine bodyPost_ret (v := .tuple #[.agg #[.int .u64 0, .int .u64 0, .int .u64 0, .int .u64 0], .int .i64 0]) (by simp [results, Tryz.results10, go_sem]) rfl ⟨0, 0, 0, by rw [← W_zero], .inl ⟨rfl, hg⟩, ?_⟩
    ((repeat (first | with_reducible exact Ext.refl _ | with_reducible exact hw | with_reducible exact hb9 | with_reducible exact hb8 | with_reducible exact hb7 | with_reducible exact hb6 | with_reducible exact hb5 | with_reducible exact hb4 | with_reducible exact hb3 | with_reducible exact hb2 | with_reducible exact hb1 | with_reducible refine Ext.alloc ?_ _ | with_reducible refine Ext.drew ?_ | ((with_reducible refine Ext.set ?_ ?_ _); focus (dsimp only; omega)) | with_reducible refine Ext.trans ?_ hb9 | with_reducible refine Ext.trans ?_ hb8 | with_reducible refine Ext.trans ?_ hb7 | with_reducible refine Ext.trans ?_ hb6 | with_reducible refine Ext.trans ?_ hb5 | with_reducible refine Ext.trans ?_ hb4 | with_reducible refine Ext.trans ?_ hb3 | with_reducible refine Ext.trans ?_ hb2 | with_reducible refine Ext.trans ?_ hb1 | with_reducible refine Ext.trans ?_ hw)))
  have hq : s.toList.isEmpty = false := by
    rw [Lib.toList_data, List.isEmpty_eq_false_iff]
    intro h
    exact h0 (by show s.data.toList.length = 0; rw [h]; rfl)
  have hsp := fun W hW => strings_Split s 32 W (by omega) hW
  have hwl := splitC_le s 32
  obtain ⟨ws, hws⟩ : ∃ ws, splitC 32 s = ws := ⟨_, rfl⟩
  rw [hws] at hsp hwl
  have hat := hd (fun t f (h : good s t f) k hk => good_at h h0 hws k hk)
  have hend := hd (fun t f (h : good s t f) => good_end h h0 hws)
  have hpl := hd (fun k (hk : k < ws.length) => (show ws[k].size ≤ 1048576 from piece_32 1048576 s hs _ (by rw [hws]; exact List.getElem_mem hk)))
  clear hws
  go_enter Tryz.func10, Tryz.ntmps10
  go_wp2_with fail
  refine intro_world (R := fun W => Calls _ _ _ W _) (fun W0 hN => ?_)
  have eW0 : Ext w W0 := by rw [hN]; exact ((Ext.refl _).alloc _).alloc _
  have hX0 : BoxAt W0 w.heap.size #[.int .u64 0, .int .u64 0, .int .u64 0, .int .u64 0] 31 := by rw [hN]; exact (BoxAt.new' rfl).alloc _
  have hA0 : BoxAt W0 (w.heap.size + 1) #[.int .u64 0, .int .u64 0, .int .u64 0, .int .u64 0] 31 := by rw [hN]; exact BoxAt.new' (by simp)
  have hz0 : w.heap.size + 2 ≤ W0.heap.size := by rw [hN]; simp
  clear hN
  refine Calls.mono (hsp _ (hG.ext eW0)) ?_
  rintro e w1 ⟨rfl, hR1, hb1⟩
  have hX1 := hX0.ext hb1
  have hA1 := hA0.ext hb1
  have hw1 := eW0.trans hb1
  generalize W0.heap.size = bS at hR1 hz0
  clear hsp hX0 hA0 eW0 hb1
  go_wp2
  go_loopg [16] ws.length (fun g iv wr => ∃ k : Nat, ∃ t f : Mask, g = ws.length - k ∧ k ≤ ws.length ∧ iv = .int .i64 k ∧ Hd (∀ t' f', good s t' f' → t = tP ((prs t' f' 96).take k) ∧ f = fP ((prs t' f' 96).take k)) ∧ Ext w wr ∧ BoxAt wr w.heap.size #[.int .u64 0, .int .u64 0, .int .u64 0, .int .u64 0] 31 ∧ BoxAt wr (w.heap.size + 1) #[.int .u64 (lo t), .int .u64 (hi t), .int .u64 (lo f), .int .u64 (hi f)] 31 ∧ Rd encStr wr (some ⟨bS, 0, none⟩) ws)
  case atStart => exact ⟨0, 0, 0, by omega, by omega, rfl, hd (fun t' f' _ => ⟨rfl, rfl⟩), hw1, hX1, hA1, hR1⟩
  case round =>
    clear hR1 hX1 hA1 hw1
    obtain ⟨k, t, f, hg, hk, rfl, hQ, hw, hX, hA, hR⟩ := hrel
    have lX := hX.lt
    have lA := hA.lt
    by_cases hkl : k < ws.length
    · have m0 : wr.cell? ⟨bS, k, none⟩ = some (.string ws[k]) := by have := hR.str k hkl; rwa [Nat.zero_add] at this
      have hword := fun t' f' hg => hat.out t' f' hg k hkl
      have hxs := hpl.out k hkl
      have i0 : (k : Int) < ws.length := by omega
      generalize ws[k] = x at m0 hword hxs
      replace hword := fun t' f' (hg : good s t' f') => (show ∃ p : Nat × Bool, x = wd p ∧ p.1 < 96 ∧ (prs t' f' 96).take (k + 1) = (prs t' f' 96).take k ++ [p] from hword t' f' hg)
      clear hend hat hpl
      by_cases h2 : 2 ≤ x.size
      · have hx1 : 1 ≤ x.size := by omega
        have i2 : ((x.size : Int) < 2) = False := eq_false (by omega)
        have ed : x.data[0]'(by show 0 < x.size; omega) = x[0] := rfl
        have hrs : (x.extract 1 x.size).size ≤ 1048576 := by rw [ByteArray.size_extract]; omega
        have hwrs := fun t' f' hg => (show ∃ n : Nat, x.extract 1 x.size = decT n ∧ n < 96 from by obtain ⟨p, e1, e2, _⟩ := hword t' f' hg; exact ⟨p.1, by rw [e1]; exact wd_rest p, e2⟩)
        have hwrp := fun p (e : x = wd p) => (show x.extract 1 x.size = decT p.1 from by rw [e]; exact wd_rest p)
        generalize hrest : x.extract 1 x.size = rest at hrs hwrs hwrp
        have hn := fun W hW => impl_readNumber rest hrs W hW
        go_wp2_with fail
        refine Calls.mono (hn _ (hEn.ext hw)) ?_
        rintro e w2 ⟨n, ok, rfl, hok, hnums, hb2⟩
        clear hn hrs hrest
        cases ok with
        | false =>
          have hno : ∀ t' f', ¬ good s t' f' := fun t' f' hg => by obtain ⟨n', e1, e2⟩ := hwrs t' f' hg; have := (hnums n' e2 e1).1; cases this
          replace hX := hX.ext hb2
          replace hw := hw.trans hb2
          clear hword hwrs hwrp hok hnums ed
          have f0 := hX.frozen 0
          have f1 := hX.frozen 1
          have f2 := hX.frozen 2
          have f3 := hX.frozen 3
          have x0 : w2.cell? ⟨w.heap.size, 0, none⟩ = some (.int .u64 0) := hX.cell 0
          have x1 : w2.cell? ⟨w.heap.size, 1, none⟩ = some (.int .u64 0) := hX.cell 1
          have x2 : w2.cell? ⟨w.heap.size, 2, none⟩ = some (.int .u64 0) := hX.cell 2
          have x3 : w2.cell? ⟨w.heap.size, 3, none⟩ = some (.int .u64 0) := hX.cell 3
          replace hno := hd hno
          go_wp2
          have hXf := (((hX.set 0 (.int .u64 0)).set 1 (.int .u64 0)).set 2 (.int .u64 0)).set 3 (.int .u64 0)
          clear x0 x1 x2 x3 f0 f1 f2 f3
          have r0 : World.cell? _ ⟨w.heap.size, 0, none⟩ = some (.int .u64 0) := hXf.cell 0
          have r1 : World.cell? _ ⟨w.heap.size, 1, none⟩ = some (.int .u64 0) := hXf.cell 1
          have r2 : World.cell? _ ⟨w.heap.size, 2, none⟩ = some (.int .u64 0) := hXf.cell 2
          have r3 : World.cell? _ ⟨w.heap.size, 3, none⟩ = some (.int .u64 0) := hXf.cell 3
          refine bodyPost_ret (v := .tuple #[.agg #[.int .u64 0, .int .u64 0, .int .u64 0, .int .u64 0], .int .i64 5]) (by simp [results, Tryz.results10, go_sem, r0, r1, r2, r3]) rfl ⟨0, 0, 5, by rw [← W_zero], .inr ⟨rfl, rfl, rfl, hno.out⟩, ?_⟩
          exact Ext.set (Nat.le_refl _) (Ext.set (Nat.le_refl _) (Ext.set (Nat.le_refl _) (Ext.set (Nat.le_refl _) hw _) _) _) _
        | true =>
          obtain ⟨v, hnv, hrd⟩ := hok rfl
          subst hnv
          replace hrd := hd hrd
          have hval : ∀ t' f', good s t' f' → ∀ p : Nat × Bool, x = wd p → p.1 < 96 → v = p.1 := fun t' f' hg p e1 e2 => by have := (hnums p.1 e2 (hwrp p e1)).2; omega
          clear hwrs hwrp hok
          cases hho : isHoleB (v : Int) with
          | false =>
            have hno : ∀ t' f', ¬ good s t' f' := fun t' f' hg => by
              obtain ⟨p, e1, e2, _⟩ := hword t' f' hg
              have := hval t' f' hg p e1 e2
              unfold isHoleB at hho
              rw [decide_eq_true (by omega), decide_eq_true (by omega)] at hho
              cases hho
            go_wp2_with fail
            refine Calls.mono (impl_isHole v _) ?_
            rintro e w3 ⟨rfl, hb3⟩
            rw [hho]
            replace hX := hX.ext (hb2.trans hb3)
            replace hw := hw.trans (hb2.trans hb3)
            clear hword hval hrd hnums ed
            have f0 := hX.frozen 0
            have f1 := hX.frozen 1
            have f2 := hX.frozen 2
            have f3 := hX.frozen 3
            have x0 : w3.cell? ⟨w.heap.size, 0, none⟩ = some (.int .u64 0) := hX.cell 0
            have x1 : w3.cell? ⟨w.heap.size, 1, none⟩ = some (.int .u64 0) := hX.cell 1
            have x2 : w3.cell? ⟨w.heap.size, 2, none⟩ = some (.int .u64 0) := hX.cell 2
            have x3 : w3.cell? ⟨w.heap.size, 3, none⟩ = some (.int .u64 0) := hX.cell 3
            replace hno := hd hno
            go_wp2
            have hXf := (((hX.set 0 (.int .u64 0)).set 1 (.int .u64 0)).set 2 (.int .u64 0)).set 3 (.int .u64 0)
            clear x0 x1 x2 x3 f0 f1 f2 f3
            have r0 : World.cell? _ ⟨w.heap.size, 0, none⟩ = some (.int .u64 0) := hXf.cell 0
            have r1 : World.cell? _ ⟨w.heap.size, 1, none⟩ = some (.int .u64 0) := hXf.cell 1
            have r2 : World.cell? _ ⟨w.heap.size, 2, none⟩ = some (.int .u64 0) := hXf.cell 2
            have r3 : World.cell? _ ⟨w.heap.size, 3, none⟩ = some (.int .u64 0) := hXf.cell 3
            refine bodyPost_ret (v := .tuple #[.agg #[.int .u64 0, .int .u64 0, .int .u64 0, .int .u64 0], .int .i64 5]) (by simp [results, Tryz.results10, go_sem, r0, r1, r2, r3]) rfl ⟨0, 0, 5, by rw [← W_zero], .inr ⟨rfl, rfl, rfl, hno.out⟩, ?_⟩
            exact Ext.set (Nat.le_refl _) (Ext.set (Nat.le_refl _) (Ext.set (Nat.le_refl _) (Ext.set (Nat.le_refl _) hw _) _) _) _
          | true =>
            have hv96 : v < 96 := by unfold isHoleB at hho; rw [Bool.and_eq_true, decide_eq_true_eq, decide_eq_true_eq] at hho; omega
            go_wp2_with fail
            refine Calls.mono (impl_isHole v _) ?_
            rintro e w3 ⟨rfl, hb3⟩
            rw [hho]
            have hb23 := hb2.trans hb3
            clear hho
            by_cases q43 : x[0] = 43
            · have j1 : ((x.data[0]'(by show 0 < x.size; omega)).toNat : Int) = 43 := by rw [ed, q43]; rfl
              have k1 : ((x[0]'(by omega)).toNat : Int) = 43 := by rw [q43]; rfl
              have hQ2 : Hd (∀ t' f', good s t' f' → (mjoin t (mbit v)) = tP ((prs t' f' 96).take (k + 1)) ∧ f = fP ((prs t' f' 96).take (k + 1))) := hd (fun t' f' hg => by
                obtain ⟨p, e1, e2, e3⟩ := hword t' f' hg
                have hv := hval t' f' hg p e1 e2
                have h2 : p.2 = false := by
                  have h3 := wd_first p
                  have h4 : x[0]'(by omega) = if p.2 = true then 45 else 43 := by rw [← h3]; congr 1
                  rw [q43] at h4
                  cases e : p.2 <;> rw [e] at h4 <;> first | rfl | exact absurd h4 (by decide)
                obtain ⟨g1, g2⟩ := hQ.out t' f' hg
                rw [e3, tP_snoc, fP_snoc, h2, ← g1, ← g2, ← hv]
                exact ⟨rfl, rfl⟩)
              have hX3 := hX.ext hb23
              have hA3 := hA.ext hb23
              have hw3 := hw.trans hb23
              have hR3 := hR.ext hb23
              have lA3 := hA3.lt
              have a0 : w3.cell? ⟨w.heap.size + 1, 0, none⟩ = some (.int .u64 (lo t)) := hA3.cell 0
              have a1 : w3.cell? ⟨w.heap.size + 1, 1, none⟩ = some (.int .u64 (hi t)) := hA3.cell 1
              have a2 : w3.cell? ⟨w.heap.size + 1, 2, none⟩ = some (.int .u64 (lo f)) := hA3.cell 2
              have a3 : w3.cell? ⟨w.heap.size + 1, 3, none⟩ = some (.int .u64 (hi f)) := hA3.cell 3
              have hE4 : Ext w3 (w3.alloc (.cells #[.int .i64 (v : Int)] 2)) := (Ext.refl w3).alloc _
              have hwi := impl_with t [(v : Int)] (some ⟨w3.heap.size, 0, none⟩) 1 _ (Rd.lit encI64 w3 [(v : Int)] #[.int .i64 (v : Int)] 2 (by simp) rfl) (by simp) (fun h hh => by rw [List.mem_singleton.1 hh]; omega)
              rw [mwith_one] at hwi
              clear hword hval hnums hQ hX hA hw hR lX lA hb2 hb3 hb23 hrd ed
              go_wp2_with fail
              refine Calls.mono hwi ?_
              rintro e w4 ⟨rfl, hb4⟩
              have hb34 := hE4.trans hb4
              have hA4 := hA3.ext hb34
              have f0 := hA4.frozen 0
              have f1 := hA4.frozen 1
              have f2 := hA4.frozen 2
              have f3 := hA4.frozen 3
              replace a0 := hb34.cell a0
              replace a1 := hb34.cell a1
              replace a2 := hb34.cell a2
              replace a3 := hb34.cell a3
              have lA4 := hA4.lt
              clear hwi hE4 hb4
              go_wp2
              go_roundg (ws.length - (k + 1))
              case rel => exact ⟨k + 1, (mjoin t (mbit v)), f, rfl, hkl, by simp, hQ2, Ext.set (by dsimp only; omega) (Ext.set (by dsimp only; omega) (hw3.trans hb34) _) _, ((hX3.ext hb34).setOther (by dsimp only; omega) _).setOther (by dsimp only; omega) _, (hA4.set 0 _).set 1 _, ((hR3.ext hb34).setJ (by dsimp only; omega) _).setJ (by dsimp only; omega) _⟩
              case measure => omega
            · by_cases q45 : x[0] = 45
              · have j1 : ((x.data[0]'(by show 0 < x.size; omega)).toNat : Int) = 45 := by rw [ed, q45]; rfl
                have k1 : ((x[0]'(by omega)).toNat : Int) = 45 := by rw [q45]; rfl
                have hQ2 : Hd (∀ t' f', good s t' f' → t = tP ((prs t' f' 96).take (k + 1)) ∧ (mjoin f (mbit v)) = fP ((prs t' f' 96).take (k + 1))) := hd (fun t' f' hg => by
                  obtain ⟨p, e1, e2, e3⟩ := hword t' f' hg
                  have hv := hval t' f' hg p e1 e2
                  have h2 : p.2 = true := by
                    have h3 := wd_first p
                    have h4 : x[0]'(by omega) = if p.2 = true then 45 else 43 := by rw [← h3]; congr 1
                    rw [q45] at h4
                    cases e : p.2 <;> rw [e] at h4 <;> first | rfl | exact absurd h4 (by decide)
                  obtain ⟨g1, g2⟩ := hQ.out t' f' hg
                  rw [e3, tP_snoc, fP_snoc, h2, ← g1, ← g2, ← hv]
                  exact ⟨rfl, rfl⟩)
                have hX3 := hX.ext hb23
                have hA3 := hA.ext hb23
                have hw3 := hw.trans hb23
                have hR3 := hR.ext hb23
                have lA3 := hA3.lt
                have a0 : w3.cell? ⟨w.heap.size + 1, 0, none⟩ = some (.int .u64 (lo t)) := hA3.cell 0
                have a1 : w3.cell? ⟨w.heap.size + 1, 1, none⟩ = some (.int .u64 (hi t)) := hA3.cell 1
                have a2 : w3.cell? ⟨w.heap.size + 1, 2, none⟩ = some (.int .u64 (lo f)) := hA3.cell 2
                have a3 : w3.cell? ⟨w.heap.size + 1, 3, none⟩ = some (.int .u64 (hi f)) := hA3.cell 3
                have hE4 : Ext w3 (w3.alloc (.cells #[.int .i64 (v : Int)] 2)) := (Ext.refl w3).alloc _
                have hwi := impl_with f [(v : Int)] (some ⟨w3.heap.size, 0, none⟩) 1 _ (Rd.lit encI64 w3 [(v : Int)] #[.int .i64 (v : Int)] 2 (by simp) rfl) (by simp) (fun h hh => by rw [List.mem_singleton.1 hh]; omega)
                rw [mwith_one] at hwi
                clear hword hval hnums hQ hX hA hw hR lX lA hb2 hb3 hb23 hrd ed
                go_wp2_with fail
                refine Calls.mono hwi ?_
                rintro e w4 ⟨rfl, hb4⟩
                have hb34 := hE4.trans hb4
                have hA4 := hA3.ext hb34
                have f0 := hA4.frozen 0
                have f1 := hA4.frozen 1
                have f2 := hA4.frozen 2
                have f3 := hA4.frozen 3
                replace a0 := hb34.cell a0
                replace a1 := hb34.cell a1
                replace a2 := hb34.cell a2
                replace a3 := hb34.cell a3
                have lA4 := hA4.lt
                clear hwi hE4 hb4
                go_wp2
                go_roundg (ws.length - (k + 1))
                case rel => exact ⟨k + 1, t, (mjoin f (mbit v)), rfl, hkl, by simp, hQ2, Ext.set (by dsimp only; omega) (Ext.set (by dsimp only; omega) (hw3.trans hb34) _) _, ((hX3.ext hb34).setOther (by dsimp only; omega) _).setOther (by dsimp only; omega) _, (hA4.set 2 _).set 3 _, ((hR3.ext hb34).setJ (by dsimp only; omega) _).setJ (by dsimp only; omega) _⟩
                case measure => omega
              · have n43 : ¬ ((x.data[0]'(by show 0 < x.size; omega)).toNat : Int) = 43 := fun h => q43 (UInt8.toNat_inj.1 (by rw [← ed]; show _ = 43; omega))
                have n45 : ¬ ((x.data[0]'(by show 0 < x.size; omega)).toNat : Int) = 45 := fun h => q45 (UInt8.toNat_inj.1 (by rw [← ed]; show _ = 45; omega))
                have m43 : ¬ ((x[0]'(by omega)).toNat : Int) = 43 := fun h => q43 (UInt8.toNat_inj.1 (by show _ = 43; omega))
                have m45 : ¬ ((x[0]'(by omega)).toNat : Int) = 45 := fun h => q45 (UInt8.toNat_inj.1 (by show _ = 45; omega))
                have j1 := eq_false n43
                have j2 := eq_false n45
                have j3 : (((x.data[0]'(by show 0 < x.size; omega)).toNat : Int) == 43) = false := by rw [beq_eq_false_iff_ne]; exact n43
                have j4 : (((x.data[0]'(by show 0 < x.size; omega)).toNat : Int) == 45) = false := by rw [beq_eq_false_iff_ne]; exact n45
                have k1 := eq_false m43
                have k2 := eq_false m45
                have k3 : (((x[0]'(by omega)).toNat : Int) == 43) = false := by rw [beq_eq_false_iff_ne]; exact m43
                have k4 : (((x[0]'(by omega)).toNat : Int) == 45) = false := by rw [beq_eq_false_iff_ne]; exact m45
                have hQ2 : Hd (∀ t' f', good s t' f' → t = tP ((prs t' f' 96).take (k + 1)) ∧ f = fP ((prs t' f' 96).take (k + 1))) := hd (fun t' f' hg => by
                  obtain ⟨p, e1, e2, e3⟩ := hword t' f' hg
                  have h3 := wd_first p
                  have h4 : x[0]'(by omega) = if p.2 = true then 45 else 43 := by rw [← h3]; congr 1
                  cases e : p.2 <;> rw [e] at h4
                  · exact absurd h4 q43
                  · exact absurd h4 q45)
                have hw3 := hw.trans hb23
                have hX3 := hX.ext hb23
                have hA3 := hA.ext hb23
                have hR3 := hR.ext hb23
                clear hword hval hnums hQ hX hA hw hR lX lA hb2 hb3 hb23 hrd ed n43 n45 m43 m45 q43 q45
                go_wp2
                go_roundg (ws.length - (k + 1))
                case rel => exact ⟨k + 1, t, f, rfl, hkl, by simp, hQ2, hw3, hX3, hA3, hR3⟩
                case measure => omega
      · have hno : ∀ t' f', ¬ good s t' f' := fun t' f' hg => by obtain ⟨p, e1, _⟩ := hword t' f' hg; exact h2 (by rw [e1]; exact wd_size p)
        have i2 : (x.size : Int) < 2 := by omega
        clear hword
        have f0 := hX.frozen 0
        have f1 := hX.frozen 1
        have f2 := hX.frozen 2
        have f3 := hX.frozen 3
        have x0 : wr.cell? ⟨w.heap.size, 0, none⟩ = some (.int .u64 0) := hX.cell 0
        have x1 : wr.cell? ⟨w.heap.size, 1, none⟩ = some (.int .u64 0) := hX.cell 1
        have x2 : wr.cell? ⟨w.heap.size, 2, none⟩ = some (.int .u64 0) := hX.cell 2
        have x3 : wr.cell? ⟨w.heap.size, 3, none⟩ = some (.int .u64 0) := hX.cell 3
        replace hno := hd hno
        go_wp2
        have hXf := (((hX.set 0 (.int .u64 0)).set 1 (.int .u64 0)).set 2 (.int .u64 0)).set 3 (.int .u64 0)
        clear x0 x1 x2 x3 f0 f1 f2 f3
        have r0 : World.cell? _ ⟨w.heap.size, 0, none⟩ = some (.int .u64 0) := hXf.cell 0
        have r1 : World.cell? _ ⟨w.heap.size, 1, none⟩ = some (.int .u64 0) := hXf.cell 1
        have r2 : World.cell? _ ⟨w.heap.size, 2, none⟩ = some (.int .u64 0) := hXf.cell 2
        have r3 : World.cell? _ ⟨w.heap.size, 3, none⟩ = some (.int .u64 0) := hXf.cell 3
        refine bodyPost_ret (v := .tuple #[.agg #[.int .u64 0, .int .u64 0, .int .u64 0, .int .u64 0], .int .i64 5]) (by simp [results, Tryz.results10, go_sem, r0, r1, r2, r3]) rfl ⟨0, 0, 5, by rw [← W_zero], .inr ⟨rfl, rfl, rfl, hno.out⟩, ?_⟩
        exact Ext.set (Nat.le_refl _) (Ext.set (Nat.le_refl _) (Ext.set (Nat.le_refl _) (Ext.set (Nat.le_refl _) hw _) _) _) _
    · obtain rfl : k = ws.length := by omega
      have a0 : wr.cell? ⟨w.heap.size + 1, 0, none⟩ = some (.int .u64 (lo t)) := hA.cell 0
      have a1 : wr.cell? ⟨w.heap.size + 1, 1, none⟩ = some (.int .u64 (hi t)) := hA.cell 1
      have a2 : wr.cell? ⟨w.heap.size + 1, 2, none⟩ = some (.int .u64 (lo f)) := hA.cell 2
      have a3 : wr.cell? ⟨w.heap.size + 1, 3, none⟩ = some (.int .u64 (hi f)) := hA.cell 3
      have hgs : ∀ t' f', good s t' f' → good s t f := fun t' f' hg => by
        obtain ⟨e1, e2⟩ := hQ.out t' f' hg
        obtain ⟨e3, e4⟩ := hend.out t' f' hg
        rw [e1, e2, e3, e4]; exact hg
      have hc1 := fun W => impl_isWear t f W
      have hc2 := fun W => impl_wearText t f W
      clear hQ hat hend hpl hR
      cases hv : isWearB t f with
      | false =>
        have hno : ∀ t' f', ¬ good s t' f' := fun t' f' hg => by have := (hgs t' f' hg).1; rw [hv] at this; cases this
        rw [hv] at hc1
        clear hgs hc2
        go_wp2_with fail
        refine Calls.mono (hc1 _) ?_
        rintro e w2 ⟨rfl, hb2⟩
        replace hX := hX.ext hb2
        replace hw := hw.trans hb2
        clear a0 a1 a2 a3 hc1
        have f0 := hX.frozen 0
        have f1 := hX.frozen 1
        have f2 := hX.frozen 2
        have f3 := hX.frozen 3
        have x0 : w2.cell? ⟨w.heap.size, 0, none⟩ = some (.int .u64 0) := hX.cell 0
        have x1 : w2.cell? ⟨w.heap.size, 1, none⟩ = some (.int .u64 0) := hX.cell 1
        have x2 : w2.cell? ⟨w.heap.size, 2, none⟩ = some (.int .u64 0) := hX.cell 2
        have x3 : w2.cell? ⟨w.heap.size, 3, none⟩ = some (.int .u64 0) := hX.cell 3
        replace hno := hd hno
        go_wp2
        have hXf := (((hX.set 0 (.int .u64 0)).set 1 (.int .u64 0)).set 2 (.int .u64 0)).set 3 (.int .u64 0)
        clear x0 x1 x2 x3 f0 f1 f2 f3
        have r0 : World.cell? _ ⟨w.heap.size, 0, none⟩ = some (.int .u64 0) := hXf.cell 0
        have r1 : World.cell? _ ⟨w.heap.size, 1, none⟩ = some (.int .u64 0) := hXf.cell 1
        have r2 : World.cell? _ ⟨w.heap.size, 2, none⟩ = some (.int .u64 0) := hXf.cell 2
        have r3 : World.cell? _ ⟨w.heap.size, 3, none⟩ = some (.int .u64 0) := hXf.cell 3
        refine bodyPost_ret (v := .tuple #[.agg #[.int .u64 0, .int .u64 0, .int .u64 0, .int .u64 0], .int .i64 5]) (by simp [results, Tryz.results10, go_sem, r0, r1, r2, r3]) rfl ⟨0, 0, 5, by rw [← W_zero], .inr ⟨rfl, rfl, rfl, hno.out⟩, ?_⟩
        exact Ext.set (Nat.le_refl _) (Ext.set (Nat.le_refl _) (Ext.set (Nat.le_refl _) (Ext.set (Nat.le_refl _) hw _) _) _) _
      | true =>
        rw [hv] at hc1
        cases hte : ((wearT t f).toList == s.toList) with
        | false =>
          have hno : ∀ t' f', ¬ good s t' f' := fun t' f' hg => by have := (hgs t' f' hg).2; rw [this] at hte; simp at hte
          clear hgs
          go_wp2_with fail
          refine Calls.mono (hc1 _) ?_
          rintro e w2 ⟨rfl, hb2⟩
          replace a0 := hb2.cell a0
          replace a1 := hb2.cell a1
          replace a2 := hb2.cell a2
          replace a3 := hb2.cell a3
          have lA2 := (hA.ext hb2).lt
          go_wp2_with fail
          refine Calls.mono (hc2 _) ?_
          rintro e w3 ⟨rfl, hb3⟩
          replace hX := hX.ext (hb2.trans hb3)
          replace hw := hw.trans (hb2.trans hb3)
          clear a0 a1 a2 a3 hc1 hc2
          have f0 := hX.frozen 0
          have f1 := hX.frozen 1
          have f2 := hX.frozen 2
          have f3 := hX.frozen 3
          have x0 : w3.cell? ⟨w.heap.size, 0, none⟩ = some (.int .u64 0) := hX.cell 0
          have x1 : w3.cell? ⟨w.heap.size, 1, none⟩ = some (.int .u64 0) := hX.cell 1
          have x2 : w3.cell? ⟨w.heap.size, 2, none⟩ = some (.int .u64 0) := hX.cell 2
          have x3 : w3.cell? ⟨w.heap.size, 3, none⟩ = some (.int .u64 0) := hX.cell 3
          replace hno := hd hno
          go_wp2
          have hXf := (((hX.set 0 (.int .u64 0)).set 1 (.int .u64 0)).set 2 (.int .u64 0)).set 3 (.int .u64 0)
          clear x0 x1 x2 x3 f0 f1 f2 f3
          have r0 : World.cell? _ ⟨w.heap.size, 0, none⟩ = some (.int .u64 0) := hXf.cell 0
          have r1 : World.cell? _ ⟨w.heap.size, 1, none⟩ = some (.int .u64 0) := hXf.cell 1
          have r2 : World.cell? _ ⟨w.heap.size, 2, none⟩ = some (.int .u64 0) := hXf.cell 2
          have r3 : World.cell? _ ⟨w.heap.size, 3, none⟩ = some (.int .u64 0) := hXf.cell 3
          refine bodyPost_ret (v := .tuple #[.agg #[.int .u64 0, .int .u64 0, .int .u64 0, .int .u64 0], .int .i64 5]) (by simp [results, Tryz.results10, go_sem, r0, r1, r2, r3]) rfl ⟨0, 0, 5, by rw [← W_zero], .inr ⟨rfl, rfl, rfl, hno.out⟩, ?_⟩
          exact Ext.set (Nat.le_refl _) (Ext.set (Nat.le_refl _) (Ext.set (Nat.le_refl _) (Ext.set (Nat.le_refl _) hw _) _) _) _
        | true =>
          have hgd : good s t f := ⟨hv, eqS_eqJ hte⟩
          replace hgd := hd hgd
          clear hgs
          go_wp2_with fail
          refine Calls.mono (hc1 _) ?_
          rintro e w2 ⟨rfl, hb2⟩
          replace a0 := hb2.cell a0
          replace a1 := hb2.cell a1
          replace a2 := hb2.cell a2
          replace a3 := hb2.cell a3
          have lA2 := (hA.ext hb2).lt
          go_wp2_with fail
          refine Calls.mono (hc2 _) ?_
          rintro e w3 ⟨rfl, hb3⟩
          replace a0 := hb3.cell a0
          replace a1 := hb3.cell a1
          replace a2 := hb3.cell a2
          replace a3 := hb3.cell a3
          have lA3 := (hA.ext (hb2.trans hb3)).lt
          replace hX := hX.ext (hb2.trans hb3)
          replace hw := hw.trans (hb2.trans hb3)
          have lX3 := hX.lt
          clear hc1 hc2 hv
          have f0 := hX.frozen 0
          have f1 := hX.frozen 1
          have f2 := hX.frozen 2
          have f3 := hX.frozen 3
          have x0 : w3.cell? ⟨w.heap.size, 0, none⟩ = some (.int .u64 0) := hX.cell 0
          have x1 : w3.cell? ⟨w.heap.size, 1, none⟩ = some (.int .u64 0) := hX.cell 1
          have x2 : w3.cell? ⟨w.heap.size, 2, none⟩ = some (.int .u64 0) := hX.cell 2
          have x3 : w3.cell? ⟨w.heap.size, 3, none⟩ = some (.int .u64 0) := hX.cell 3
          go_wp2
          have hXf := (((hX.set 0 (.int .u64 (lo t))).set 1 (.int .u64 (hi t))).set 2 (.int .u64 (lo f))).set 3 (.int .u64 (hi f))
          clear x0 x1 x2 x3 f0 f1 f2 f3 a0 a1 a2 a3
          have r0 : World.cell? _ ⟨w.heap.size, 0, none⟩ = some (.int .u64 (lo t)) := hXf.cell 0
          have r1 : World.cell? _ ⟨w.heap.size, 1, none⟩ = some (.int .u64 (hi t)) := hXf.cell 1
          have r2 : World.cell? _ ⟨w.heap.size, 2, none⟩ = some (.int .u64 (lo f)) := hXf.cell 2
          have r3 : World.cell? _ ⟨w.heap.size, 3, none⟩ = some (.int .u64 (hi f)) := hXf.cell 3
          refine bodyPost_ret (v := .tuple #[.agg #[.int .u64 (lo t), .int .u64 (hi t), .int .u64 (lo f), .int .u64 (hi f)], .int .i64 0]) (by simp [results, Tryz.results10, go_sem, r0, r1, r2, r3]) rfl ⟨t, f, 0, rfl, .inl ⟨rfl, hgd.out⟩, ?_⟩
          exact Ext.set (Nat.le_refl _) (Ext.set (Nat.le_refl _) (Ext.set (Nat.le_refl _) (Ext.set (Nat.le_refl _) hw _) _) _) _
end Go.Proofs.YthkphhacmneeiaaGreatDoor
