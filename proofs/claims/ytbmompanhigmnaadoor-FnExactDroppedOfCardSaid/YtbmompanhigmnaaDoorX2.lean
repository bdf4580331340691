/-
  Contracts of the functions that make the holes of a word.
-/
import Derived.Test.YtbmompanhigmnaaDoorX1
import Derived.Test.YtbmompanhigmnaaDoorMA
set_option linter.unusedVariables false
set_option linter.unusedSimpArgs false
set_option maxRecDepth 100000
namespace Go.Proofs.YtbmompanhigmnaaDoor
open Go.RowKit
set_option maxHeartbeats 400000 in
theorem spec_l03Put (m : Mask) (h : Int) (h0 : 0 ≤ h) (h1 : h < 128) (b : Nat) (w : World) (hB : BoxAt w b #[.int .u64 (lo m), .int .u64 (hi m)] 53) :
    Calls Tryd.prog 109 #[.pointer (some ⟨b, 0, none⟩), .int .i64 h] w fun e w' => e = .returned (.tuple #[]) ∧ BoxAt w' b #[.int .u64 (lo (mjoin m (mbit h))), .int .u64 (hi (mjoin m (mbit h)))] 53 ∧ w.grownBy w' (some b) := by
  have hx := @ExtOf.cell
  have c0 : w.cell? ⟨b, 0, none⟩ = some (.int .u64 (lo m)) := hB.cell 0
  have c1 : w.cell? ⟨b, 1, none⟩ = some (.int .u64 (hi m)) := hB.cell 1
  have f0 := hB.frozen 0
  have f1 := hB.frozen 1
  have l0 := hB.lt
  by_cases hlo : h < 64
  · have e1 := with_lo m h h0 hlo
    have e0 : IntKind.i64.wrap (h.tdiv 64) = 0 := by rw [Int.tdiv_eq_ediv_of_nonneg h0, show h / 64 = 0 by omega]; rfl
    have e2 : IntKind.u64.wrap (h.tmod 64) = h % 64 := by rw [Int.tmod_eq_emod_of_nonneg h0]; exact IntWalk.u64_in _ (by omega)
    have e3 : min (h % 64).toNat 64 = (h % 64).toNat := by omega
    go_enter Tryd.func109, Tryd.ntmps109
    go_wp2
    refine wp_region_any (by kernel_rfl) ?_
    change wpAny _ _ _ _ _ _ _ (World.drew _)
    refine intro_world (fun WD hWD => ?_)
    have eD : Ext w WD := by rw [hWD]; exact (Ext.refl _).drew
    clear hWD
    have hB := hB.ext eD
    have c0 := eD.cell c0
    have f0 := hB.frozen 0
    have l0 := hB.lt
    refine wpAny_take (i := 0) (v := ?_) rfl (by kernel_rfl) (by kernel_rfl) (by kernel_rfl) (fun _ _ _ h => h) (Or.inl ⟨by rfl, ?_⟩) ?_
    rotate_left
    · (intro W9; go_simp; try with_reducible rfl)
    refine wpAny_take (i := 1) (v := ?_) rfl (by kernel_rfl) (by kernel_rfl) (by kernel_rfl) (fun _ _ _ h => h) (Or.inl ⟨by rfl, ?_⟩) ?_
    rotate_left
    · (intro W9; go_simp; try with_reducible rfl)
    refine wpAny_take (i := 2) (v := ?_) rfl (by kernel_rfl) (by kernel_rfl) (by kernel_rfl) (fun _ _ _ h => h) (Or.inl ⟨by rfl, ?_⟩) ?_
    rotate_left
    · (intro W9; go_simp; try with_reducible rfl)
    refine wpAny_take (i := 3) (v := ?_) rfl (by kernel_rfl) (by kernel_rfl) (by kernel_rfl) (fun _ _ _ h => h) (Or.inl ⟨by rfl, ?_⟩) ?_
    rotate_left
    · (intro W9; go_simp; try with_reducible rfl)
    refine wpAny_take (i := 4) (v := ?_) rfl (by kernel_rfl) (by kernel_rfl) (by kernel_rfl) (fun _ _ _ h => h) (Or.inl ⟨by rfl, ?_⟩) ?_
    rotate_left
    · (intro W9; go_simp; try with_reducible rfl)
    refine wpAny_take (i := 6) (v := ?_) rfl (by kernel_rfl) (by kernel_rfl) (by kernel_rfl) (fun _ _ _ h => h) (Or.inl ⟨by rfl, ?_⟩) ?_
    rotate_left
    · (intro W9; go_simp; try with_reducible rfl)
    refine wpAny_take (i := 7) (v := ?_) rfl (by kernel_rfl) (by kernel_rfl) (by kernel_rfl) (fun _ _ _ h => h) (Or.inl ⟨by rfl, ?_⟩) ?_
    rotate_left
    · (intro W9; go_simp; try with_reducible rfl)
    refine wpAny_take (i := 8) (v := ?_) rfl (by kernel_rfl) (by kernel_rfl) (by kernel_rfl) (fun _ _ _ h => h) (Or.inl ⟨by rfl, ?_⟩) ?_
    rotate_left
    · (intro W9; go_simp; try with_reducible rfl)
    refine wpAny_take (i := 9) (v := ?_) rfl (by kernel_rfl) (by kernel_rfl) (by kernel_rfl) (fun _ _ _ h => h) (Or.inl ⟨by rfl, ?_⟩) ?_
    rotate_left
    · (intro W9; go_simp; try with_reducible rfl)
    refine wpAny_take (i := 11) (v := ?_) rfl (by kernel_rfl) (by kernel_rfl) (by kernel_rfl) (fun _ _ _ h => h) (Or.inl ⟨by rfl, ?_⟩) ?_
    rotate_left
    · (intro W9; go_simp; try with_reducible rfl)
    refine wpAny_ready (rs := [5]) (by kernel_rfl) (by simp) ?_
    refine AllReady.cons rfl (fun K hK => ?_) ?_
    rotate_left
    · exact AllReady.nil
    go_simp
    refine hK _ _ ?_
    clear hK K
    refine wpAny_take (i := 10) (v := ?_) rfl (by kernel_rfl) (by kernel_rfl) (by kernel_rfl) (fun _ _ _ h => h) (Or.inl ⟨by rfl, ?_⟩) ?_
    rotate_left
    · (intro W9; go_simp; try with_reducible rfl)
    refine wpAny_take (i := 12) (v := ?_) rfl (by kernel_rfl) (by kernel_rfl) (by kernel_rfl) (fun _ _ _ h => h) (Or.inl ⟨by rfl, ?_⟩) ?_
    rotate_left
    · (intro W9; go_simp; try with_reducible rfl)
    refine wpAny_ready (rs := [13]) (by kernel_rfl) (by simp) ?_
    refine AllReady.cons rfl (fun K hK => ?_) ?_
    rotate_left
    · exact AllReady.nil
    go_simp
    refine hK _ _ ?_
    clear hK K
    refine wpAny_done (by kernel_rfl) ?_ _
    refine bodyPost_end (results_none rfl _ _ _) rfl ?_
    exact ⟨rfl, by rw [with_lo_z m h h0 hlo]; exact hB.set 0 _, grownBy_set (grownBy_ext (grownBy_refl w _) eD) 0 _⟩
  · have e1 := with_hi m h (by omega) h1
    have e0 : IntKind.i64.wrap (h.tdiv 64) = 1 := by rw [Int.tdiv_eq_ediv_of_nonneg h0, show h / 64 = 1 by omega]; rfl
    have e2 : IntKind.u64.wrap (h.tmod 64) = h % 64 := by rw [Int.tmod_eq_emod_of_nonneg h0]; exact IntWalk.u64_in _ (by omega)
    have e3 : min (h % 64).toNat 64 = (h % 64).toNat := by omega
    go_enter Tryd.func109, Tryd.ntmps109
    go_wp2
    refine wp_region_any (by kernel_rfl) ?_
    change wpAny _ _ _ _ _ _ _ (World.drew _)
    refine intro_world (fun WD hWD => ?_)
    have eD : Ext w WD := by rw [hWD]; exact (Ext.refl _).drew
    clear hWD
    have hB := hB.ext eD
    have c1 := eD.cell c1
    have f1 := hB.frozen 1
    have l0 := hB.lt
    refine wpAny_take (i := 0) (v := ?_) rfl (by kernel_rfl) (by kernel_rfl) (by kernel_rfl) (fun _ _ _ h => h) (Or.inl ⟨by rfl, ?_⟩) ?_
    rotate_left
    · (intro W9; go_simp; try with_reducible rfl)
    refine wpAny_take (i := 1) (v := ?_) rfl (by kernel_rfl) (by kernel_rfl) (by kernel_rfl) (fun _ _ _ h => h) (Or.inl ⟨by rfl, ?_⟩) ?_
    rotate_left
    · (intro W9; go_simp; try with_reducible rfl)
    refine wpAny_take (i := 2) (v := ?_) rfl (by kernel_rfl) (by kernel_rfl) (by kernel_rfl) (fun _ _ _ h => h) (Or.inl ⟨by rfl, ?_⟩) ?_
    rotate_left
    · (intro W9; go_simp; try with_reducible rfl)
    refine wpAny_take (i := 3) (v := ?_) rfl (by kernel_rfl) (by kernel_rfl) (by kernel_rfl) (fun _ _ _ h => h) (Or.inl ⟨by rfl, ?_⟩) ?_
    rotate_left
    · (intro W9; go_simp; try with_reducible rfl)
    refine wpAny_take (i := 4) (v := ?_) rfl (by kernel_rfl) (by kernel_rfl) (by kernel_rfl) (fun _ _ _ h => h) (Or.inl ⟨by rfl, ?_⟩) ?_
    rotate_left
    · (intro W9; go_simp; try with_reducible rfl)
    refine wpAny_take (i := 6) (v := ?_) rfl (by kernel_rfl) (by kernel_rfl) (by kernel_rfl) (fun _ _ _ h => h) (Or.inl ⟨by rfl, ?_⟩) ?_
    rotate_left
    · (intro W9; go_simp; try with_reducible rfl)
    refine wpAny_take (i := 7) (v := ?_) rfl (by kernel_rfl) (by kernel_rfl) (by kernel_rfl) (fun _ _ _ h => h) (Or.inl ⟨by rfl, ?_⟩) ?_
    rotate_left
    · (intro W9; go_simp; try with_reducible rfl)
    refine wpAny_take (i := 8) (v := ?_) rfl (by kernel_rfl) (by kernel_rfl) (by kernel_rfl) (fun _ _ _ h => h) (Or.inl ⟨by rfl, ?_⟩) ?_
    rotate_left
    · (intro W9; go_simp; try with_reducible rfl)
    refine wpAny_take (i := 9) (v := ?_) rfl (by kernel_rfl) (by kernel_rfl) (by kernel_rfl) (fun _ _ _ h => h) (Or.inl ⟨by rfl, ?_⟩) ?_
    rotate_left
    · (intro W9; go_simp; try with_reducible rfl)
    refine wpAny_take (i := 11) (v := ?_) rfl (by kernel_rfl) (by kernel_rfl) (by kernel_rfl) (fun _ _ _ h => h) (Or.inl ⟨by rfl, ?_⟩) ?_
    rotate_left
    · (intro W9; go_simp; try with_reducible rfl)
    refine wpAny_ready (rs := [5]) (by kernel_rfl) (by simp) ?_
    refine AllReady.cons rfl (fun K hK => ?_) ?_
    rotate_left
    · exact AllReady.nil
    go_simp
    refine hK _ _ ?_
    clear hK K
    refine wpAny_take (i := 10) (v := ?_) rfl (by kernel_rfl) (by kernel_rfl) (by kernel_rfl) (fun _ _ _ h => h) (Or.inl ⟨by rfl, ?_⟩) ?_
    rotate_left
    · (intro W9; go_simp; try with_reducible rfl)
    refine wpAny_take (i := 12) (v := ?_) rfl (by kernel_rfl) (by kernel_rfl) (by kernel_rfl) (fun _ _ _ h => h) (Or.inl ⟨by rfl, ?_⟩) ?_
    rotate_left
    · (intro W9; go_simp; try with_reducible rfl)
    refine wpAny_ready (rs := [13]) (by kernel_rfl) (by simp) ?_
    refine AllReady.cons rfl (fun K hK => ?_) ?_
    rotate_left
    · exact AllReady.nil
    go_simp
    refine hK _ _ ?_
    clear hK K
    refine wpAny_done (by kernel_rfl) ?_ _
    refine bodyPost_end (results_none rfl _ _ _) rfl ?_
    exact ⟨rfl, by rw [with_hi_z m h (by omega) h1]; exact hB.set 1 _, grownBy_set (grownBy_ext (grownBy_refl w _) eD) 1 _⟩
set_option maxHeartbeats 1000000 in
theorem impl_wordHoles (x : Mx) (hmx : mixB x = true) (s : ByteArray) (hs : s.size ≤ 9223372036854775807) (w : World) :
    Calls Tryd.prog 79 #[.agg #[.int .i16 x.st, .int .i16 x.sz, .int .i16 x.per], .string s] w fun e w' => e = .returned (.agg #[.int .u64 (lo (wholes x s)), .int .u64 (hi (wholes x s))]) ∧ Ext w w' := by
  have hx := @ExtOf.cell
  obtain ⟨k0, hk0⟩ := whM_rounds x hmx (chkTo s s.size) (chkTo_in s s.size).1 (chkTo_in s s.size).2
  rw [show whM x (chkTo s s.size) = wholes x s from rfl] at hk0
  have ha0 := chkTo_in s s.size
  generalize wholes x s = r at hk0
  obtain ⟨b1, b2, b3, b4, b5, b6, b7⟩ := (mixB_iff x).1 hmx
  obtain ⟨st, sz, per⟩ := x
  dsimp only at b1 b2 b3 b4 b5 b6 b7 hk0
  have wr1 : IntKind.i64.wrap st = st := IntWalk.i64_in _ (by omega)
  have wr2 : IntKind.i64.wrap sz = sz := IntWalk.i64_in _ (by omega)
  have wr3 : IntKind.i64.wrap per = per := IntWalk.i64_in _ (by omega)
  go_enter Tryd.func79, Tryd.ntmps79
  go_wp2_with fail
  refine Calls.mono (impl_wordCheck s hs _) ?_
  generalize chkTo s s.size = a0 at hk0 ha0
  rintro e w1 ⟨rfl, hb1⟩
  have hX : BoxAt w1 w.heap.size #[.int .i16 st, .int .i16 sz, .int .i16 per] 30 := (((BoxAt.new' rfl).alloc _).alloc _).ext hb1
  have hZ : BoxAt w1 (w.heap.size + 1) #[.int .u64 0, .int .u64 0] 53 := ((BoxAt.new' (by simp)).alloc _).ext hb1
  have hM : BoxAt w1 (w.heap.size + 1 + 1) #[.int .u64 (lo 0), .int .u64 (hi 0)] 53 := (BoxAt.new' (by simp)).ext hb1
  have hw1 : Ext w w1 := by ((repeat (first | with_reducible exact Ext.refl _ | with_reducible exact hw | with_reducible exact hb9 | with_reducible exact hb8 | with_reducible exact hb7 | with_reducible exact hb6 | with_reducible exact hb5 | with_reducible exact hb4 | with_reducible exact hb3 | with_reducible exact hb2 | with_reducible exact hb1 | with_reducible refine Ext.alloc ?_ _ | with_reducible refine Ext.drew ?_ | ((with_reducible refine Ext.set ?_ ?_ _); focus (dsimp only; omega)) | with_reducible refine Ext.trans ?_ hb9 | with_reducible refine Ext.trans ?_ hb8 | with_reducible refine Ext.trans ?_ hb7 | with_reducible refine Ext.trans ?_ hb6 | with_reducible refine Ext.trans ?_ hb5 | with_reducible refine Ext.trans ?_ hb4 | with_reducible refine Ext.trans ?_ hb3 | with_reducible refine Ext.trans ?_ hb2 | with_reducible refine Ext.trans ?_ hb1 | with_reducible refine Ext.trans ?_ hw)))
  clear hb1
  go_wp2
  go_loopg [6] k0 (fun g a wr => ∃ (n : Int) (m : Mask), a = .int .u32 n ∧ 0 ≤ n ∧ n < 4294967296 ∧ WH st sz per g n m r ∧ Ext w wr ∧ BoxAt wr (w.heap.size + 1 + 1) #[.int .u64 (lo m), .int .u64 (hi m)] 53 ∧ BoxAt wr (w.heap.size + 1) #[.int .u64 0, .int .u64 0] 53 ∧ BoxAt wr w.heap.size #[.int .i16 st, .int .i16 sz, .int .i16 per] 30)
  case atStart => exact ⟨a0, 0, rfl, ha0.1, ha0.2, hk0, hw1, hM, hZ, hX⟩
  case round =>
    obtain ⟨n, m, rfl, hn0, hn1, hW, hw, hB, hC, hX⟩ := hrel
    have c0 : wr.cell? ⟨w.heap.size + 1 + 1, 0, none⟩ = some (.int .u64 (lo m)) := hB.cell 0
    have c1 : wr.cell? ⟨w.heap.size + 1 + 1, 1, none⟩ = some (.int .u64 (hi m)) := hB.cell 1
    have x0 : wr.cell? ⟨w.heap.size, 0, none⟩ = some (.int .i16 st) := hX.cell 0
    have x1 : wr.cell? ⟨w.heap.size, 1, none⟩ = some (.int .i16 sz) := hX.cell 1
    have x2 : wr.cell? ⟨w.heap.size, 2, none⟩ = some (.int .i16 per) := hX.cell 2
    have lB := hB.lt
    have lX := hX.lt
    cases hW with
    | done _ _ hd1 =>
      have hd2 : decide (mcount r < per) = false := decide_eq_false hd1
      have z0 := hC.frozen 0
      have z1 := hC.frozen 1
      have y0 : wr.cell? ⟨w.heap.size + 1, 0, none⟩ = some (.int .u64 0) := hC.cell 0
      have y1 : wr.cell? ⟨w.heap.size + 1, 1, none⟩ = some (.int .u64 0) := hC.cell 1
      have lC := hC.lt
      go_wp2
      refine wp_region_ext (by kernel_rfl) (by kernel_rfl) ?_
      repeat (first | go_big_quiet_step (((go_at_call 102; with_reducible exact Calls.ext_of (impl_CountHoles r _)))) | quiet_step (((go_at_call 102; with_reducible exact Calls.ext_of (impl_CountHoles r _)))))
      refine wpQuiet_nil ?_
      intro w2 hq2
      have hb2 := ext_of_class hq2
      clear hq2
      obtain ⟨hc2, hf2, hz2⟩ := bcell3 hb2
      try simp at hz2
      go_wp2
      refine bodyPost_ret (v := .agg #[.int .u64 (lo r), .int .u64 (hi r)]) (by simp [results, Tryd.results79, go_sem, hc2, x0, x1, x2, c0, c1, y0, y1, lC, lB]) rfl ⟨rfl, ?_⟩
      (repeat (first | with_reducible exact Ext.refl _ | with_reducible exact hw | with_reducible exact hb9 | with_reducible exact hb8 | with_reducible exact hb7 | with_reducible exact hb6 | with_reducible exact hb5 | with_reducible exact hb4 | with_reducible exact hb3 | with_reducible exact hb2 | with_reducible exact hb1 | with_reducible refine Ext.alloc ?_ _ | with_reducible refine Ext.drew ?_ | ((with_reducible refine Ext.set ?_ ?_ _); focus (dsimp only; omega)) | with_reducible refine Ext.trans ?_ hb9 | with_reducible refine Ext.trans ?_ hb8 | with_reducible refine Ext.trans ?_ hb7 | with_reducible refine Ext.trans ?_ hb6 | with_reducible refine Ext.trans ?_ hb5 | with_reducible refine Ext.trans ?_ hb4 | with_reducible refine Ext.trans ?_ hb3 | with_reducible refine Ext.trans ?_ hb2 | with_reducible refine Ext.trans ?_ hb1 | with_reducible refine Ext.trans ?_ hw))
    | step k _ _ _ hlt hW =>
      have hd2 : decide (mcount m < per) = true := decide_eq_true hlt
      have n0 := nextC_ge n
      have n1 := nextC_lt n
      go_wp2
      refine wp_region_ext (by kernel_rfl) (by kernel_rfl) ?_
      repeat (first | go_big_quiet_step (((go_at_call 102; with_reducible exact Calls.ext_of (impl_CountHoles m _)))) | quiet_step (((go_at_call 102; with_reducible exact Calls.ext_of (impl_CountHoles m _)))))
      refine wpQuiet_nil ?_
      intro w2 hq2
      have hb2 := ext_of_class hq2
      clear hq2
      obtain ⟨hc2, hf2, hz2⟩ := bcell3 hb2
      try simp at hz2
      go_wp2_with fail
      refine Calls.mono (impl_nextChance n hn0 hn1 _) ?_
      rintro e w3 ⟨rfl, hb3⟩
      have hw3 : Ext w w3 := (hw.trans hb2).trans hb3
      have hB := (hB.ext hb2).ext hb3
      have hC := (hC.ext hb2).ext hb3
      have hX := (hX.ext hb2).ext hb3
      clear hc2 hf2 hz2 hb2 hb3 c0 c1 x0 x1 x2 lB lX hw
      generalize nextC n = q at n0 n1 hW ⊢
      have e1 : IntKind.u32.wrap (q.tdiv 65536) = q / 65536 := by rw [Int.tdiv_eq_ediv_of_nonneg n0]; exact IntWalk.u32_in _ (by omega)
      have e2 : IntKind.i64.wrap (q / 65536) = q / 65536 := IntWalk.i64_in _ (by omega)
      have hp0 : 0 ≤ q / 65536 % sz := Int.emod_nonneg _ (by omega)
      have hp1 : q / 65536 % sz < sz := Int.emod_lt_of_pos _ (by omega)
      have e3 : (q / 65536).tmod sz = q / 65536 % sz := Int.tmod_eq_emod_of_nonneg (by omega)
      have e4 : IntKind.i64.wrap (st + q / 65536 % sz) = st + q / 65536 % sz := IntWalk.i64_in _ (by omega)
      have hne : (sz = 0) = False := eq_false (by omega)
      go_wp2
      refine wp_region_any (by kernel_rfl) ?_
      change wpAny _ _ _ _ _ _ _ (World.drew _)
      refine intro_world (fun WD hWD => ?_)
      have eD : Ext w3 WD := by rw [hWD]; exact (Ext.refl _).drew
      clear hWD
      have hB := hB.ext eD
      have hC := hC.ext eD
      have hX := hX.ext eD
      have hwD := hw3.trans eD
      clear eD hw3
      have c0 : WD.cell? ⟨w.heap.size + 1 + 1, 0, none⟩ = some (.int .u64 (lo m)) := hB.cell 0
      have c1 : WD.cell? ⟨w.heap.size + 1 + 1, 1, none⟩ = some (.int .u64 (hi m)) := hB.cell 1
      have x0 : WD.cell? ⟨w.heap.size, 0, none⟩ = some (.int .i16 st) := hX.cell 0
      have x1 : WD.cell? ⟨w.heap.size, 1, none⟩ = some (.int .i16 sz) := hX.cell 1
      have lB := hB.lt
      have lX := hX.lt
      apply Conv.conv (C := fun W => W = WD.alloc (.cells #[.int .i64 (st + q / 65536 % sz)] 2))
      case h =>
        intro hkC
        refine wpAny_take (i := 1) (v := ?_) rfl (by kernel_rfl) (by kernel_rfl) (by kernel_rfl) (fun _ _ _ h => h) (Or.inl ⟨by rfl, ?_⟩) ?_
        rotate_left
        · (intro W9; go_simp; try with_reducible rfl)
        refine wpAny_take (i := 4) (v := ?_) rfl (by kernel_rfl) (by kernel_rfl) (by kernel_rfl) (fun _ _ _ h => h) (Or.inl ⟨by rfl, ?_⟩) ?_
        rotate_left
        · (intro W9; go_simp; try with_reducible rfl)
        refine wpAny_take (i := 5) (v := ?_) rfl (by kernel_rfl) (by kernel_rfl) (by kernel_rfl) (fun _ _ _ h => h) (Or.inl ⟨by rfl, ?_⟩) ?_
        rotate_left
        · (intro W9; go_simp; try with_reducible rfl)
        refine wpAny_take (i := 6) (v := ?_) rfl (by kernel_rfl) (by kernel_rfl) (by kernel_rfl) (fun _ _ _ h => h) (Or.inl ⟨by rfl, ?_⟩) ?_
        rotate_left
        · (intro W9; go_simp; try with_reducible rfl)
        refine wpAny_take (i := 7) (v := ?_) rfl (by kernel_rfl) (by kernel_rfl) (by kernel_rfl) (fun _ _ _ h => h) (Or.inl ⟨by rfl, ?_⟩) ?_
        rotate_left
        · (intro W9; go_simp; try with_reducible rfl)
        refine wpAny_ready (rs := [0, 2, 8]) (by kernel_rfl) (by simp) ?_
        refine AllReady.cons rfl (fun K hK => ?_) (AllReady.cons rfl (fun K hK => ?_) (AllReady.cons rfl (fun K hK => ?_) (AllReady.nil)))
        · go_simp
          refine hK _ _ ?_
          clear hK K
          refine wpAny_ready (rs := [2, 8]) (by kernel_rfl) (by simp) ?_
          refine AllReady.cons rfl (fun K hK => ?_) (AllReady.cons rfl (fun K hK => ?_) (AllReady.nil))
          · go_simp
            refine hK _ _ ?_
            clear hK K
            refine wpAny_take (i := 3) (v := ?_) rfl (by kernel_rfl) (by kernel_rfl) (by kernel_rfl) (fun _ _ _ h => h) (Or.inl ⟨by rfl, ?_⟩) ?_
            rotate_left
            · (intro W9; go_simp; try with_reducible rfl)
            refine wpAny_ready (rs := [8]) (by kernel_rfl) (by simp) ?_
            refine AllReady.cons rfl (fun K hK => ?_) (AllReady.nil)
            · go_simp
              refine hK _ _ ?_
              clear hK K
              refine wpAny_take (i := 9) (v := ?_) rfl (by kernel_rfl) (by kernel_rfl) (by kernel_rfl) (fun _ _ _ h => h) (Or.inl ⟨by rfl, ?_⟩) ?_
              rotate_left
              · (intro W9; go_simp; try with_reducible rfl)
              refine wpAny_take (i := 10) (v := ?_) rfl (by kernel_rfl) (by kernel_rfl) (by kernel_rfl) (fun _ _ _ h => h) (Or.inl ⟨by rfl, ?_⟩) ?_
              rotate_left
              · (intro W9; go_simp; try with_reducible rfl)
              refine wpAny_take (i := 11) (v := ?_) rfl (by kernel_rfl) (by kernel_rfl) (by kernel_rfl) (fun _ _ _ h => h) (Or.inl ⟨by rfl, ?_⟩) ?_
              rotate_left
              · (intro W9; go_simp; try with_reducible rfl)
              refine wpAny_ready (rs := [12]) (by kernel_rfl) (by simp) ?_
              refine AllReady.cons rfl (fun K hK => ?_) (AllReady.nil)
              · go_simp
                refine hK _ _ ?_
                clear hK K
                exact hkC _ (rfl)
          · go_simp
            refine hK _ _ ?_
            clear hK K
            refine wpAny_take (i := 9) (v := ?_) rfl (by kernel_rfl) (by kernel_rfl) (by kernel_rfl) (fun _ _ _ h => h) (Or.inl ⟨by rfl, ?_⟩) ?_
            rotate_left
            · (intro W9; go_simp; try with_reducible rfl)
            refine wpAny_take (i := 10) (v := ?_) rfl (by kernel_rfl) (by kernel_rfl) (by kernel_rfl) (fun _ _ _ h => h) (Or.inl ⟨by rfl, ?_⟩) ?_
            rotate_left
            · (intro W9; go_simp; try with_reducible rfl)
            refine wpAny_ready (rs := [2]) (by kernel_rfl) (by simp) ?_
            refine AllReady.cons rfl (fun K hK => ?_) (AllReady.nil)
            · go_simp
              refine hK _ _ ?_
              clear hK K
              refine wpAny_take (i := 3) (v := ?_) rfl (by kernel_rfl) (by kernel_rfl) (by kernel_rfl) (fun _ _ _ h => h) (Or.inl ⟨by rfl, ?_⟩) ?_
              rotate_left
              · (intro W9; go_simp; try with_reducible rfl)
              refine wpAny_take (i := 11) (v := ?_) rfl (by kernel_rfl) (by kernel_rfl) (by kernel_rfl) (fun _ _ _ h => h) (Or.inl ⟨by rfl, ?_⟩) ?_
              rotate_left
              · (intro W9; go_simp; try with_reducible rfl)
              refine wpAny_ready (rs := [12]) (by kernel_rfl) (by simp) ?_
              refine AllReady.cons rfl (fun K hK => ?_) (AllReady.nil)
              · go_simp
                refine hK _ _ ?_
                clear hK K
                exact hkC _ (rfl)
        · go_simp
          refine hK _ _ ?_
          clear hK K
          refine wpAny_take (i := 3) (v := ?_) rfl (by kernel_rfl) (by kernel_rfl) (by kernel_rfl) (fun _ _ _ h => h) (Or.inl ⟨by rfl, ?_⟩) ?_
          rotate_left
          · (intro W9; go_simp; try with_reducible rfl)
          refine wpAny_ready (rs := [0, 8]) (by kernel_rfl) (by simp) ?_
          refine AllReady.cons rfl (fun K hK => ?_) (AllReady.cons rfl (fun K hK => ?_) (AllReady.nil))
          · go_simp
            refine hK _ _ ?_
            clear hK K
            refine wpAny_ready (rs := [8]) (by kernel_rfl) (by simp) ?_
            refine AllReady.cons rfl (fun K hK => ?_) (AllReady.nil)
            · go_simp
              refine hK _ _ ?_
              clear hK K
              refine wpAny_take (i := 9) (v := ?_) rfl (by kernel_rfl) (by kernel_rfl) (by kernel_rfl) (fun _ _ _ h => h) (Or.inl ⟨by rfl, ?_⟩) ?_
              rotate_left
              · (intro W9; go_simp; try with_reducible rfl)
              refine wpAny_take (i := 10) (v := ?_) rfl (by kernel_rfl) (by kernel_rfl) (by kernel_rfl) (fun _ _ _ h => h) (Or.inl ⟨by rfl, ?_⟩) ?_
              rotate_left
              · (intro W9; go_simp; try with_reducible rfl)
              refine wpAny_take (i := 11) (v := ?_) rfl (by kernel_rfl) (by kernel_rfl) (by kernel_rfl) (fun _ _ _ h => h) (Or.inl ⟨by rfl, ?_⟩) ?_
              rotate_left
              · (intro W9; go_simp; try with_reducible rfl)
              refine wpAny_ready (rs := [12]) (by kernel_rfl) (by simp) ?_
              refine AllReady.cons rfl (fun K hK => ?_) (AllReady.nil)
              · go_simp
                refine hK _ _ ?_
                clear hK K
                exact hkC _ (rfl)
          · go_simp
            refine hK _ _ ?_
            clear hK K
            refine wpAny_take (i := 9) (v := ?_) rfl (by kernel_rfl) (by kernel_rfl) (by kernel_rfl) (fun _ _ _ h => h) (Or.inl ⟨by rfl, ?_⟩) ?_
            rotate_left
            · (intro W9; go_simp; try with_reducible rfl)
            refine wpAny_take (i := 10) (v := ?_) rfl (by kernel_rfl) (by kernel_rfl) (by kernel_rfl) (fun _ _ _ h => h) (Or.inl ⟨by rfl, ?_⟩) ?_
            rotate_left
            · (intro W9; go_simp; try with_reducible rfl)
            refine wpAny_take (i := 11) (v := ?_) rfl (by kernel_rfl) (by kernel_rfl) (by kernel_rfl) (fun _ _ _ h => h) (Or.inl ⟨by rfl, ?_⟩) ?_
            rotate_left
            · (intro W9; go_simp; try with_reducible rfl)
            refine wpAny_ready (rs := [0, 12]) (by kernel_rfl) (by simp) ?_
            refine AllReady.cons rfl (fun K hK => ?_) (AllReady.cons rfl (fun K hK => ?_) (AllReady.nil))
            · go_simp
              refine hK _ _ ?_
              clear hK K
              refine wpAny_ready (rs := [12]) (by kernel_rfl) (by simp) ?_
              refine AllReady.cons rfl (fun K hK => ?_) (AllReady.nil)
              · go_simp
                refine hK _ _ ?_
                clear hK K
                exact hkC _ (rfl)
            · go_simp
              refine hK _ _ ?_
              clear hK K
              refine wpAny_ready (rs := [0]) (by kernel_rfl) (by simp) ?_
              refine AllReady.cons rfl (fun K hK => ?_) (AllReady.nil)
              · go_simp
                refine hK _ _ ?_
                clear hK K
                exact hkC _ (rfl)
        · go_simp
          refine hK _ _ ?_
          clear hK K
          refine wpAny_take (i := 9) (v := ?_) rfl (by kernel_rfl) (by kernel_rfl) (by kernel_rfl) (fun _ _ _ h => h) (Or.inl ⟨by rfl, ?_⟩) ?_
          rotate_left
          · (intro W9; go_simp; try with_reducible rfl)
          refine wpAny_take (i := 10) (v := ?_) rfl (by kernel_rfl) (by kernel_rfl) (by kernel_rfl) (fun _ _ _ h => h) (Or.inl ⟨by rfl, ?_⟩) ?_
          rotate_left
          · (intro W9; go_simp; try with_reducible rfl)
          refine wpAny_ready (rs := [0, 2]) (by kernel_rfl) (by simp) ?_
          refine AllReady.cons rfl (fun K hK => ?_) (AllReady.cons rfl (fun K hK => ?_) (AllReady.nil))
          · go_simp
            refine hK _ _ ?_
            clear hK K
            refine wpAny_ready (rs := [2]) (by kernel_rfl) (by simp) ?_
            refine AllReady.cons rfl (fun K hK => ?_) (AllReady.nil)
            · go_simp
              refine hK _ _ ?_
              clear hK K
              refine wpAny_take (i := 3) (v := ?_) rfl (by kernel_rfl) (by kernel_rfl) (by kernel_rfl) (fun _ _ _ h => h) (Or.inl ⟨by rfl, ?_⟩) ?_
              rotate_left
              · (intro W9; go_simp; try with_reducible rfl)
              refine wpAny_take (i := 11) (v := ?_) rfl (by kernel_rfl) (by kernel_rfl) (by kernel_rfl) (fun _ _ _ h => h) (Or.inl ⟨by rfl, ?_⟩) ?_
              rotate_left
              · (intro W9; go_simp; try with_reducible rfl)
              refine wpAny_ready (rs := [12]) (by kernel_rfl) (by simp) ?_
              refine AllReady.cons rfl (fun K hK => ?_) (AllReady.nil)
              · go_simp
                refine hK _ _ ?_
                clear hK K
                exact hkC _ (rfl)
          · go_simp
            refine hK _ _ ?_
            clear hK K
            refine wpAny_take (i := 3) (v := ?_) rfl (by kernel_rfl) (by kernel_rfl) (by kernel_rfl) (fun _ _ _ h => h) (Or.inl ⟨by rfl, ?_⟩) ?_
            rotate_left
            · (intro W9; go_simp; try with_reducible rfl)
            refine wpAny_take (i := 11) (v := ?_) rfl (by kernel_rfl) (by kernel_rfl) (by kernel_rfl) (fun _ _ _ h => h) (Or.inl ⟨by rfl, ?_⟩) ?_
            rotate_left
            · (intro W9; go_simp; try with_reducible rfl)
            refine wpAny_ready (rs := [0, 12]) (by kernel_rfl) (by simp) ?_
            refine AllReady.cons rfl (fun K hK => ?_) (AllReady.cons rfl (fun K hK => ?_) (AllReady.nil))
            · go_simp
              refine hK _ _ ?_
              clear hK K
              refine wpAny_ready (rs := [12]) (by kernel_rfl) (by simp) ?_
              refine AllReady.cons rfl (fun K hK => ?_) (AllReady.nil)
              · go_simp
                refine hK _ _ ?_
                clear hK K
                exact hkC _ (rfl)
            · go_simp
              refine hK _ _ ?_
              clear hK K
              refine wpAny_ready (rs := [0]) (by kernel_rfl) (by simp) ?_
              refine AllReady.cons rfl (fun K hK => ?_) (AllReady.nil)
              · go_simp
                refine hK _ _ ?_
                clear hK K
                exact hkC _ (rfl)
      intro W5 hW5
      have e5 : Ext WD W5 := by rw [hW5]; exact (Ext.refl _).alloc _
      have hL : Rd encI64 W5 (some ⟨WD.heap.size, 0, none⟩) [st + q / 65536 % sz] := by rw [hW5]; exact Rd.lit encI64 _ [st + q / 65536 % sz] _ _ (by simp) rfl
      have hB := hB.ext e5
      have hC := hC.ext e5
      have hX := hX.ext e5
      have hw5 := hwD.trans e5
      clear hW5 c0 c1 x0 x1 lB lX
      refine wpAny_ready (rs := [13]) (by kernel_rfl) (by simp) ?_
      refine AllReady.cons rfl (fun K hK => ?_) ?_
      rotate_left
      · exact AllReady.nil
      go_simp
      go_wp2_with fail
      refine Calls.mono (impl_with m [st + q / 65536 % sz] _ 1 _ hL (by simp) (by simp; omega)) ?_
      rintro e W6 ⟨rfl, hb6⟩
      rw [mwith_one]
      have hB := hB.ext hb6
      have hC := hC.ext hb6
      have hX := hX.ext hb6
      have hw6 := hw5.trans hb6
      have f0 := hB.frozen 0
      have f1 := hB.frozen 1
      have c0 : W6.cell? ⟨w.heap.size + 1 + 1, 0, none⟩ = some (.int .u64 (lo m)) := hB.cell 0
      have c1 : W6.cell? ⟨w.heap.size + 1 + 1, 1, none⟩ = some (.int .u64 (hi m)) := hB.cell 1
      have lB := hB.lt
      clear hb6
      go_wp2_with fail
      refine wpAny_ready (rs := [14]) (by kernel_rfl) (by simp) ?_
      refine AllReady.cons rfl (fun K hK => ?_) ?_
      rotate_left
      · exact AllReady.nil
      go_simp
      refine hK _ _ ?_
      clear hK K
      refine wpAny_done (by kernel_rfl) ?_ _
      go_wp2
      go_roundg k
      case rel => exact ⟨q, _, rfl, n0, n1, hW, Ext.set (by dsimp only; omega) (Ext.set (by dsimp only; omega) hw6 _) _, (hB.set 0 _).set 1 _, (hC.setOther (by simp) _).setOther (by simp) _, (hX.setOther (by simp; omega) _).setOther (by simp; omega) _⟩
      case measure => omega
set_option maxHeartbeats 1000000 in
theorem spec_l03Holes (x : Mx) (hmx : mixB x = true) (s : ByteArray) (hs : s.size ≤ 9223372036854775807) (b o : Nat) (w : World) (hA : MixAt w b o x) :
    Calls Tryd.prog 82 #[.pointer (some ⟨b, o, none⟩), .string s] w fun e w' => e = .returned (.agg #[.int .u64 (lo (wholes x s)), .int .u64 (hi (wholes x s))]) ∧ Ext w w' := by
  have hx := @ExtOf.cell
  obtain ⟨k0, hk0⟩ := whM_rounds x hmx (chkTo s s.size) (chkTo_in s s.size).1 (chkTo_in s s.size).2
  rw [show whM x (chkTo s s.size) = wholes x s from rfl] at hk0
  have ha0 := chkTo_in s s.size
  generalize wholes x s = r at hk0
  obtain ⟨b1, b2, b3, b4, b5, b6, b7⟩ := (mixB_iff x).1 hmx
  obtain ⟨st, sz, per⟩ := x
  dsimp only at b1 b2 b3 b4 b5 b6 b7 hk0
  have wr1 : IntKind.i64.wrap st = st := IntWalk.i64_in _ (by omega)
  have wr2 : IntKind.i64.wrap sz = sz := IntWalk.i64_in _ (by omega)
  have wr3 : IntKind.i64.wrap per = per := IntWalk.i64_in _ (by omega)
  have hlA := hA.lt
  go_enter Tryd.func82, Tryd.ntmps82
  go_wp2_with fail
  refine Calls.mono (spec_l03Check s hs _) ?_
  generalize chkTo s s.size = a0 at hk0 ha0
  rintro e w1 ⟨rfl, hb1⟩
  have hZ : BoxAt w1 w.heap.size #[.int .u64 0, .int .u64 0] 53 := (BoxAt.new' rfl).ext hb1
  have hw1 : Ext w w1 := ((Ext.refl _).alloc _).trans hb1
  have hz1 := hb1.size
  simp at hz1
  clear hb1
  go_wp2
  go_loopg [5] k0 (fun g a wr => ∃ (n : Int) (m : Mask), a = .int .u32 n ∧ 0 ≤ n ∧ n < 4294967296 ∧ WH st sz per g n m r ∧ Ext w wr ∧ BoxAt wr w1.heap.size #[.int .u64 (lo m), .int .u64 (hi m)] 53 ∧ BoxAt wr w.heap.size #[.int .u64 0, .int .u64 0] 53)
  case atStart => exact ⟨a0, 0, rfl, ha0.1, ha0.2, hk0, hw1.alloc _, BoxAt.new' rfl, hZ.alloc _⟩
  case round =>
    obtain ⟨n, m, rfl, hn0, hn1, hW, hw, hB, hC⟩ := hrel
    have c0 : wr.cell? ⟨w1.heap.size, 0, none⟩ = some (.int .u64 (lo m)) := hB.cell 0
    have c1 : wr.cell? ⟨w1.heap.size, 1, none⟩ = some (.int .u64 (hi m)) := hB.cell 1
    obtain ⟨x0, x1, x2⟩ := hA.ext hw
    dsimp only at x0 x1 x2
    have lB := hB.lt
    have lX := Nat.lt_of_lt_of_le hlA hw.size
    cases hW with
    | done _ _ hd1 =>
      have hd2 : decide (mcount r < per) = false := decide_eq_false hd1
      have z0 := hC.frozen 0
      have z1 := hC.frozen 1
      have y0 : wr.cell? ⟨w.heap.size, 0, none⟩ = some (.int .u64 0) := hC.cell 0
      have y1 : wr.cell? ⟨w.heap.size, 1, none⟩ = some (.int .u64 0) := hC.cell 1
      have lC := hC.lt
      go_wp2
      refine wp_region_ext (by kernel_rfl) (by kernel_rfl) ?_
      repeat (first | go_big_quiet_step (((go_at_call 108; with_reducible exact Calls.ext_of (spec_CountHoles r _)))) | quiet_step (((go_at_call 108; with_reducible exact Calls.ext_of (spec_CountHoles r _)))))
      refine wpQuiet_nil ?_
      intro w2 hq2
      have hb2 := ext_of_class hq2
      clear hq2
      obtain ⟨hc2, hf2, hz2⟩ := bcell3 hb2
      try simp at hz2
      go_wp2
      refine bodyPost_ret (v := .agg #[.int .u64 (lo r), .int .u64 (hi r)]) (by simp [results, Tryd.results82, go_sem, hc2, c0, c1, y0, y1, lC, lB]) rfl ⟨rfl, ?_⟩
      (repeat (first | with_reducible exact Ext.refl _ | with_reducible exact hw | with_reducible exact hb9 | with_reducible exact hb8 | with_reducible exact hb7 | with_reducible exact hb6 | with_reducible exact hb5 | with_reducible exact hb4 | with_reducible exact hb3 | with_reducible exact hb2 | with_reducible exact hb1 | with_reducible refine Ext.alloc ?_ _ | with_reducible refine Ext.drew ?_ | ((with_reducible refine Ext.set ?_ ?_ _); focus (dsimp only; omega)) | with_reducible refine Ext.trans ?_ hb9 | with_reducible refine Ext.trans ?_ hb8 | with_reducible refine Ext.trans ?_ hb7 | with_reducible refine Ext.trans ?_ hb6 | with_reducible refine Ext.trans ?_ hb5 | with_reducible refine Ext.trans ?_ hb4 | with_reducible refine Ext.trans ?_ hb3 | with_reducible refine Ext.trans ?_ hb2 | with_reducible refine Ext.trans ?_ hb1 | with_reducible refine Ext.trans ?_ hw))
    | step k _ _ _ hlt hW =>
      have hd2 : decide (mcount m < per) = true := decide_eq_true hlt
      have n0 := nextC_ge n
      have n1 := nextC_lt n
      have hq : (1664525 * n % 4294967296 + 1013904223) % 4294967296 = nextC n := by unfold nextC; rfl
      generalize nextC n = q at n0 n1 hW hq
      have e2 : IntKind.i64.wrap (q / 65536) = q / 65536 := IntWalk.i64_in _ (by omega)
      have hp0 : 0 ≤ q / 65536 % sz := Int.emod_nonneg _ (by omega)
      have hp1 : q / 65536 % sz < sz := Int.emod_lt_of_pos _ (by omega)
      have e3 : (q / 65536).tmod sz = q / 65536 % sz := Int.tmod_eq_emod_of_nonneg (by omega)
      have e4 : IntKind.i64.wrap (st + q / 65536 % sz) = st + q / 65536 % sz := IntWalk.i64_in _ (by omega)
      have hne : (sz = 0) = False := eq_false (by omega)
      go_wp2
      refine wp_region_ext (by kernel_rfl) (by kernel_rfl) ?_
      repeat (first | go_big_quiet_step (((go_at_call 108; with_reducible exact Calls.ext_of (spec_CountHoles m _)))) | quiet_step (((go_at_call 108; with_reducible exact Calls.ext_of (spec_CountHoles m _)))))
      refine wpQuiet_nil ?_
      intro w2 hq2
      have hb2 := ext_of_class hq2
      clear hq2
      obtain ⟨hc2, hf2, hz2⟩ := bcell3 hb2
      try simp at hz2
      have hw2 := hw.trans hb2
      have hB := hB.ext hb2
      have hC := hC.ext hb2
      obtain ⟨x0, x1, x2⟩ := hA.ext hw2
      dsimp only at x0 x1 x2
      clear hc2 hf2 hz2 hb2 c0 c1 lB lX hw
      have lB := hB.lt
      have lX := Nat.lt_of_lt_of_le hlA hw2.size
      go_wp2
      refine wp_region_ext_tail 15 15 (by kernel_rfl) (by kernel_rfl) (by intro d _ _ _ _ h; cases d <;> exact h) ?_
      simp only [List.take_succ_cons, List.take_zero, List.drop_succ_cons, List.drop_zero]
      repeat (first | go_big_quiet_step (fail) | quiet_step (fail))
      refine wpQuiet_nil ?_
      intro w3 hq3
      have hb3 := ext_of_class hq3
      clear hq3
      obtain ⟨hc3, hf3, hz3⟩ := bcell3 hb3
      try simp at hz3
      have hw3 := hw2.trans hb3
      have hB := hB.ext hb3
      have hC := hC.ext hb3
      clear hc3 hf3 hz3 hb3 hw2 lB lX x0 x1 x2
      go_wp2_with fail
      refine Calls.mono (spec_l03Put m (st + q / 65536 % sz) (by omega) (by omega) _ _ hB) ?_
      rintro e w4 ⟨rfl, hB4, hg4⟩
      have hC4 : BoxAt w4 w.heap.size #[.int .u64 0, .int .u64 0] 53 := (hg4.block _ hC.lt (by intro e; simp only [Option.some.injEq] at e; omega)).trans hC
      go_wp2
      go_roundg k
      case rel => exact ⟨q, _, rfl, n0, n1, hW, hw3.trans' hg4 (fun k hk => by simp only [Option.some.injEq] at hk; omega), hB4, hC4⟩
      case measure => omega
end Go.Proofs.YtbmompanhigmnaaDoor
