/-
  Contracts of the functions on distances and the nearest value, program's and reference's.
-/
import Derived.Test.YtknbebglabpegaaDoorF12
import Derived.Test.YtknbebglabpegaaDoorF8
set_option linter.unusedVariables false
set_option linter.unusedSimpArgs false
set_option maxRecDepth 100000
namespace Go.Proofs.YtknbebglabpegaaDoor
open Go.RowKit
set_option maxHeartbeats 400000 in
theorem impl_distance (m n : Mask) (w : World) :
    Calls Tryd.prog 64 #[.agg #[.int .u64 (lo m), .int .u64 (hi m)], .agg #[.int .u64 (lo n), .int .u64 (hi n)]] w fun e w' => e = .returned (.int .i64 (distM m n)) ∧ Ext w w' := by
  have hx := @ExtOf.cell
  have a0 := mcount_ge (mless m n)
  have a1 := mcount_le (mless m n)
  have a2 := mcount_ge (mless n m)
  have a3 := mcount_le (mless n m)
  have wr : IntKind.i64.wrap (mcount (mless m n) + mcount (mless n m)) = distM m n := IntWalk.i64_in _ (by omega)
  go_enter Tryd.func64, Tryd.ntmps64
  go_wp2
  refine wp_region_ext (by kernel_rfl) (by kernel_rfl) ?_
  repeat (first | go_big_quiet_step ((first | (go_at_call 101; with_reducible exact Calls.ext_of (impl_LessMask _ _ _)) | (go_at_call 100; with_reducible exact Calls.ext_of (impl_CountHoles _ _)))) | quiet_step ((first | (go_at_call 101; with_reducible exact Calls.ext_of (impl_LessMask _ _ _)) | (go_at_call 100; with_reducible exact Calls.ext_of (impl_CountHoles _ _)))))
  refine wpQuiet_nil ?_
  intro w1 hq1
  have hb1 := ext_of_class hq1
  clear hq1
  obtain ⟨hc1, hf1, hz1⟩ := bcell3 hb1
  try simp at hz1
  have hz1_0 : w.heap.size < w1.heap.size := by omega
  have hz1_1 : w.heap.size + 1 < w1.heap.size := by omega
  go_wp2
  go_ret
  exact ⟨rfl, by ((repeat (first | with_reducible exact Ext.refl _ | with_reducible exact hw | with_reducible exact hb9 | with_reducible exact hb8 | with_reducible exact hb7 | with_reducible exact hb6 | with_reducible exact hb5 | with_reducible exact hb4 | with_reducible exact hb3 | with_reducible exact hb2 | with_reducible exact hb1 | with_reducible refine Ext.alloc ?_ _ | with_reducible refine Ext.drew ?_ | ((with_reducible refine Ext.set ?_ ?_ _); focus (dsimp only; omega)) | with_reducible refine Ext.trans ?_ hb9 | with_reducible refine Ext.trans ?_ hb8 | with_reducible refine Ext.trans ?_ hb7 | with_reducible refine Ext.trans ?_ hb6 | with_reducible refine Ext.trans ?_ hb5 | with_reducible refine Ext.trans ?_ hb4 | with_reducible refine Ext.trans ?_ hb3 | with_reducible refine Ext.trans ?_ hb2 | with_reducible refine Ext.trans ?_ hb1 | with_reducible refine Ext.trans ?_ hw)))⟩
set_option maxHeartbeats 400000 in
theorem spec_l04Differ (f : Fld) (hf : fldB f = true) (v : Int) (v0 : 0 ≤ v) (v1 : v ≤ mostF f) (p : Mask) (b o : Nat) (w : World) (hF : FldAt w b o f) :
    Calls Tryd.prog 58 #[.pointer (some ⟨b, o, none⟩), .int .i64 v, .agg #[.int .u64 (lo p), .int .u64 (hi p)]] w fun e w' => e = .returned (.int .i64 (distM (codeF f v) p)) ∧ Ext w w' := by
  have hx := @ExtOf.cell
  have hco := fun (W : World) (h : Ext w W) => spec_l01Code f hf v v0 v1 b o W (hF.ext h)
  generalize codeF f v = n at hco
  have a0 := mcount_ge (mless n p)
  have a1 := mcount_le (mless n p)
  have a2 := mcount_ge (mless p n)
  have a3 := mcount_le (mless p n)
  have wr : IntKind.i64.wrap (mcount (mless n p) + mcount (mless p n)) = distM n p := IntWalk.i64_in _ (by omega)
  go_enter Tryd.func58, Tryd.ntmps58
  go_wp2_with fail
  refine Calls.mono (hco _ (by ((repeat (first | with_reducible exact Ext.refl _ | with_reducible exact hw | with_reducible exact hb9 | with_reducible exact hb8 | with_reducible exact hb7 | with_reducible exact hb6 | with_reducible exact hb5 | with_reducible exact hb4 | with_reducible exact hb3 | with_reducible exact hb2 | with_reducible exact hb1 | with_reducible refine Ext.alloc ?_ _ | with_reducible refine Ext.drew ?_ | ((with_reducible refine Ext.set ?_ ?_ _); focus (dsimp only; omega)) | with_reducible refine Ext.trans ?_ hb9 | with_reducible refine Ext.trans ?_ hb8 | with_reducible refine Ext.trans ?_ hb7 | with_reducible refine Ext.trans ?_ hb6 | with_reducible refine Ext.trans ?_ hb5 | with_reducible refine Ext.trans ?_ hb4 | with_reducible refine Ext.trans ?_ hb3 | with_reducible refine Ext.trans ?_ hb2 | with_reducible refine Ext.trans ?_ hb1 | with_reducible refine Ext.trans ?_ hw))))) ?_
  rintro e w1 ⟨rfl, hb1⟩
  have bP : BoxAt w1 w.heap.size #[.int .u64 (lo p), .int .u64 (hi p)] 33 := (BoxAt.new' rfl).ext hb1
  have c0 := bP.cell 0
  have c1 := bP.cell 1
  have l1 := bP.lt
  have hw : Ext w w1 := by ((repeat (first | with_reducible exact Ext.refl _ | with_reducible exact hw | with_reducible exact hb9 | with_reducible exact hb8 | with_reducible exact hb7 | with_reducible exact hb6 | with_reducible exact hb5 | with_reducible exact hb4 | with_reducible exact hb3 | with_reducible exact hb2 | with_reducible exact hb1 | with_reducible refine Ext.alloc ?_ _ | with_reducible refine Ext.drew ?_ | ((with_reducible refine Ext.set ?_ ?_ _); focus (dsimp only; omega)) | with_reducible refine Ext.trans ?_ hb9 | with_reducible refine Ext.trans ?_ hb8 | with_reducible refine Ext.trans ?_ hb7 | with_reducible refine Ext.trans ?_ hb6 | with_reducible refine Ext.trans ?_ hb5 | with_reducible refine Ext.trans ?_ hb4 | with_reducible refine Ext.trans ?_ hb3 | with_reducible refine Ext.trans ?_ hb2 | with_reducible refine Ext.trans ?_ hb1 | with_reducible refine Ext.trans ?_ hw)))
  clear hb1
  go_wp2
  refine wp_region_ext (by kernel_rfl) (by kernel_rfl) ?_
  repeat (first | go_big_quiet_step ((first | (go_at_call 97; with_reducible exact Calls.ext_of (spec_l01Less _ _ _)) | (go_at_call 96; with_reducible exact Calls.ext_of (spec_CountHoles _ _)))) | quiet_step ((first | (go_at_call 97; with_reducible exact Calls.ext_of (spec_l01Less _ _ _)) | (go_at_call 96; with_reducible exact Calls.ext_of (spec_CountHoles _ _)))))
  refine wpQuiet_nil ?_
  intro w2 hq2
  have hb2 := ext_of_class hq2
  clear hq2
  obtain ⟨hc2, hf2, hz2⟩ := bcell3 hb2
  try simp at hz2
  go_wp2
  go_ret
  exact ⟨rfl, by ((repeat (first | with_reducible exact Ext.refl _ | with_reducible exact hw | with_reducible exact hb9 | with_reducible exact hb8 | with_reducible exact hb7 | with_reducible exact hb6 | with_reducible exact hb5 | with_reducible exact hb4 | with_reducible exact hb3 | with_reducible exact hb2 | with_reducible exact hb1 | with_reducible refine Ext.alloc ?_ _ | with_reducible refine Ext.drew ?_ | ((with_reducible refine Ext.set ?_ ?_ _); focus (dsimp only; omega)) | with_reducible refine Ext.trans ?_ hb9 | with_reducible refine Ext.trans ?_ hb8 | with_reducible refine Ext.trans ?_ hb7 | with_reducible refine Ext.trans ?_ hb6 | with_reducible refine Ext.trans ?_ hb5 | with_reducible refine Ext.trans ?_ hb4 | with_reducible refine Ext.trans ?_ hb3 | with_reducible refine Ext.trans ?_ hb2 | with_reducible refine Ext.trans ?_ hb1 | with_reducible refine Ext.trans ?_ hw)))⟩
/-- The state behind the first k values, in the program's way. -/
def NvI (d : Nat → Int) (k : Nat) (be le ma : Int) : Prop := (k = 0 ∧ be = 0 ∧ le = -1 ∧ ma = 0) ∨ (∃ j, k = j + 1 ∧ nvF d j = (be, le, ma))
set_option maxHeartbeats 1000000 in
theorem impl_NearestValue (nm : ByteArray) (kd st sz : Int) (hok : Fld.ok ⟨nm, kd, st, sz⟩) (hnmx : nm.size ≤ 9223372036854775807) (m : Mask) (w : World) :
    Calls Tryd.prog 15 #[.agg #[.string nm, .int .i8 kd, .int .i16 st, .int .i16 sz], .agg #[.int .u64 (lo m), .int .u64 (hi m)]] w fun e w' => e = .returned (.tuple #[.int .i64 (nearestF ⟨nm, kd, st, sz⟩ m).1, .int .i64 (nearestF ⟨nm, kd, st, sz⟩ m).2.1, .int .i64 (nearestF ⟨nm, kd, st, sz⟩ m).2.2]) ∧ Ext w w' := by
  have hx := @ExtOf.cell
  obtain ⟨⟨a0, a1⟩, ⟨a2, a3⟩, a4, a5⟩ := hok
  dsimp only at a0 a1 a2 a3 a4 a5
  have hif := fun W => impl_isField nm kd st sz a0 a1 a2 a3 a4 a5 hnmx W
  cases hf : fldB ⟨nm, kd, st, sz⟩ with
  | false =>
    have hv := hd (show nearestF ⟨nm, kd, st, sz⟩ m = (0, 0, 1) by unfold nearestF; rw [hf]; rfl)
    rw [hf] at hif
    go_enter Tryd.func15, Tryd.ntmps15
    go_wp2_with fail
    refine Calls.mono (hif _) ?_
    rintro e w1 ⟨rfl, hb1⟩
    go_wp2
    refine bodyPost_ret (v := .tuple #[.int .i64 0, .int .i64 0, .int .i64 1]) (by simp [results, Tryd.results15, go_sem]) rfl ⟨by rw [hv.out], ?_⟩
    (repeat (first | with_reducible exact Ext.refl _ | with_reducible exact hw | with_reducible exact hb9 | with_reducible exact hb8 | with_reducible exact hb7 | with_reducible exact hb6 | with_reducible exact hb5 | with_reducible exact hb4 | with_reducible exact hb3 | with_reducible exact hb2 | with_reducible exact hb1 | with_reducible refine Ext.alloc ?_ _ | with_reducible refine Ext.drew ?_ | ((with_reducible refine Ext.set ?_ ?_ _); focus (dsimp only; omega)) | with_reducible refine Ext.trans ?_ hb9 | with_reducible refine Ext.trans ?_ hb8 | with_reducible refine Ext.trans ?_ hb7 | with_reducible refine Ext.trans ?_ hb6 | with_reducible refine Ext.trans ?_ hb5 | with_reducible refine Ext.trans ?_ hb4 | with_reducible refine Ext.trans ?_ hb3 | with_reducible refine Ext.trans ?_ hb2 | with_reducible refine Ext.trans ?_ hb1 | with_reducible refine Ext.trans ?_ hw))
  | true =>
    rw [hf] at hif
    cases hm : isMaskB m with
    | false =>
      have hv := hd (show nearestF ⟨nm, kd, st, sz⟩ m = (0, 0, 1) by unfold nearestF; rw [hf, hm]; rfl)
      have him := fun W => impl_isMask m W
      rw [hm] at him
      go_enter Tryd.func15, Tryd.ntmps15
      go_wp2_with fail
      refine Calls.mono (hif _) ?_
      rintro e w1 ⟨rfl, hb1⟩
      obtain ⟨hc1, hf1, hz1⟩ := bcell3 hb1
      try simp at hz1
      have hz1_0 : w.heap.size < w1.heap.size := by omega
      have hz1_1 : w.heap.size + 1 < w1.heap.size := by omega
      go_wp2_with fail
      refine Calls.mono (him _) ?_
      rintro e w2 ⟨rfl, hb2⟩
      go_wp2
      refine bodyPost_ret (v := .tuple #[.int .i64 0, .int .i64 0, .int .i64 1]) (by simp [results, Tryd.results15, go_sem]) rfl ⟨by rw [hv.out], ?_⟩
      (repeat (first | with_reducible exact Ext.refl _ | with_reducible exact hw | with_reducible exact hb9 | with_reducible exact hb8 | with_reducible exact hb7 | with_reducible exact hb6 | with_reducible exact hb5 | with_reducible exact hb4 | with_reducible exact hb3 | with_reducible exact hb2 | with_reducible exact hb1 | with_reducible refine Ext.alloc ?_ _ | with_reducible refine Ext.drew ?_ | ((with_reducible refine Ext.set ?_ ?_ _); focus (dsimp only; omega)) | with_reducible refine Ext.trans ?_ hb9 | with_reducible refine Ext.trans ?_ hb8 | with_reducible refine Ext.trans ?_ hb7 | with_reducible refine Ext.trans ?_ hb6 | with_reducible refine Ext.trans ?_ hb5 | with_reducible refine Ext.trans ?_ hb4 | with_reducible refine Ext.trans ?_ hb3 | with_reducible refine Ext.trans ?_ hb2 | with_reducible refine Ext.trans ?_ hb1 | with_reducible refine Ext.trans ?_ hw))
    | true =>
      have him := fun W => impl_isMask m W
      rw [hm] at him
      obtain ⟨_, k0, k3, s0, z0, z1, z2⟩ := fldB_parts hf
      dsimp only at k0 k3 s0 z0 z1 z2
      have hmo := fun W => impl_most nm kd st sz k0 k3 z0 z1 W
      have hml := mostF_le _ hf
      have henc := fun (v : Int) (h0 : 0 ≤ v) (h1 : v ≤ mostF ⟨nm, kd, st, sz⟩) (W : World) => impl_encode nm kd st sz v hf h0 h1 W
      have hpa := fun W => impl_part nm kd st sz hf W
      have hv := hd (show nearestF ⟨nm, kd, st, sz⟩ m = if 1 < (nvF (dOf ⟨nm, kd, st, sz⟩ (mmeet m (partF ⟨nm, kd, st, sz⟩))) (mostF ⟨nm, kd, st, sz⟩).toNat).2.2 then (0, 0, 4) else ((nvF (dOf ⟨nm, kd, st, sz⟩ (mmeet m (partF ⟨nm, kd, st, sz⟩))) (mostF ⟨nm, kd, st, sz⟩).toNat).1, (nvF (dOf ⟨nm, kd, st, sz⟩ (mmeet m (partF ⟨nm, kd, st, sz⟩))) (mostF ⟨nm, kd, st, sz⟩).toNat).2.1, 0) by
        unfold nearestF; rw [hf, hm]; rfl)
      generalize partF ⟨nm, kd, st, sz⟩ = p at hpa hv
      generalize mostF ⟨nm, kd, st, sz⟩ = mo at hmo hml henc hv
      go_enter Tryd.func15, Tryd.ntmps15
      go_wp2_with fail
      refine Calls.mono (hif _) ?_
      rintro e w1 ⟨rfl, hb1⟩
      obtain ⟨hc1, hf1, hz1⟩ := bcell3 hb1
      try simp at hz1
      have hz1_0 : w.heap.size < w1.heap.size := by omega
      have hz1_1 : w.heap.size + 1 < w1.heap.size := by omega
      go_wp2_with fail
      refine Calls.mono (him _) ?_
      rintro e w3 ⟨rfl, hb3⟩
      have m0 : w3.cell? ⟨w.heap.size, 0, none⟩ = some (.string nm) := hb3.cell (by go_simp)
      have m1 : w3.cell? ⟨w.heap.size, 1, none⟩ = some (.int .i8 kd) := hb3.cell (by go_simp)
      have m2 : w3.cell? ⟨w.heap.size, 2, none⟩ = some (.int .i16 st) := hb3.cell (by go_simp)
      have m3 : w3.cell? ⟨w.heap.size, 3, none⟩ = some (.int .i16 sz) := hb3.cell (by go_simp)
      have n0 : w3.cell? ⟨w.heap.size + 1, 0, none⟩ = some (.int .u64 (lo m)) := hb3.cell (by go_simp)
      have n1 : w3.cell? ⟨w.heap.size + 1, 1, none⟩ = some (.int .u64 (hi m)) := hb3.cell (by go_simp)
      have l3 : w.heap.size + 1 < w3.heap.size := by have := hb3.size; omega
      have l3b : w.heap.size < w3.heap.size := by omega
      have hw3 : Ext w w3 := by ((repeat (first | with_reducible exact Ext.refl _ | with_reducible exact hw | with_reducible exact hb9 | with_reducible exact hb8 | with_reducible exact hb7 | with_reducible exact hb6 | with_reducible exact hb5 | with_reducible exact hb4 | with_reducible exact hb3 | with_reducible exact hb2 | with_reducible exact hb1 | with_reducible refine Ext.alloc ?_ _ | with_reducible refine Ext.drew ?_ | ((with_reducible refine Ext.set ?_ ?_ _); focus (dsimp only; omega)) | with_reducible refine Ext.trans ?_ hb9 | with_reducible refine Ext.trans ?_ hb8 | with_reducible refine Ext.trans ?_ hb7 | with_reducible refine Ext.trans ?_ hb6 | with_reducible refine Ext.trans ?_ hb5 | with_reducible refine Ext.trans ?_ hb4 | with_reducible refine Ext.trans ?_ hb3 | with_reducible refine Ext.trans ?_ hb2 | with_reducible refine Ext.trans ?_ hb1 | with_reducible refine Ext.trans ?_ hw)))
      clear hc1 hf1 hb1 hb3 hz1 hz1_0 hz1_1
      go_wp2_with fail
      refine wp_region_float 4 4 7 _ #[.int .u64 0, .int .u64 0] 33 (by kernel_rfl) (by kernel_rfl) rfl rfl rfl rfl (fun _ _ => by go_simp) (by intro d _ _ _ _ h; cases d <;> exact h) ?_
      simp only [List.take_succ_cons, List.take_zero, List.drop_succ_cons, List.drop_zero]
      repeat (refine wpX_step (fun K hK => ?_); go_simp; first | (refine hK _ ?_; clear hK K) | (apply Exists.intro; refine ⟨fun x => ?_, hK _ ?_⟩; ((first | (go_at_call 62; with_reducible exact hpa _) | (go_at_call 61; with_reducible exact impl_MeetMasks m p _))); clear hK K))
      refine wpX_nil ?_
      intro b2 w2 hb2 hbb2 hcb2
      obtain ⟨hc2, hf2, hz2⟩ := bcell3 hb2
      try simp at hz2
      try simp at hbb2
      have hbl2 := blk_lt hcb2
      have hbf2 := blk_free hcb2
      have hbc2_0 : w2.cell? ⟨b2, 0, none⟩ = some (.int .u64 0) := blk_cell hcb2 0 rfl
      have hbc2_1 : w2.cell? ⟨b2, 1, none⟩ = some (.int .u64 0) := blk_cell hcb2 1 rfl
      clear hcb2
      generalize mmeet m p = x at hv
      go_wp2_with fail
      refine Calls.mono (hmo _) ?_
      rintro e w4 ⟨rfl, hb4⟩
      have o0 : w4.cell? ⟨b2, 0, none⟩ = some (.int .u64 (lo x)) := hb4.cell (by go_simp)
      have o1 : w4.cell? ⟨b2, 1, none⟩ = some (.int .u64 (hi x)) := hb4.cell (by go_simp)
      have m0 : w4.cell? ⟨w.heap.size, 0, none⟩ = some (.string nm) := hb4.cell (by go_simp)
      have m1 : w4.cell? ⟨w.heap.size, 1, none⟩ = some (.int .i8 kd) := hb4.cell (by go_simp)
      have m2 : w4.cell? ⟨w.heap.size, 2, none⟩ = some (.int .i16 st) := hb4.cell (by go_simp)
      have m3 : w4.cell? ⟨w.heap.size, 3, none⟩ = some (.int .i16 sz) := hb4.cell (by go_simp)
      have hw4 : Ext w w4 := Ext.trans (Ext.set (by dsimp only; have := hw3.size; omega) (Ext.set (by dsimp only; have := hw3.size; omega) (hw3.trans hb2) _) _) hb4
      clear hc2 hf2 hb2 hbf2 hbc2_0 hbc2_1 hz2 n0 n1 hb4 hw3 hpa him hif
      have wm : IntKind.i64.wrap (mo + 1) = mo + 1 := IntWalk.i64_in _ (by omega)
      go_wp2
      go_loopg [8, 9, 10, 28] (mo + 1).toNat (fun g be le ma i wr => ∃ (k : Nat) (b l n : Int), g = (mo + 1).toNat - k ∧ k ≤ (mo + 1).toNat ∧ i = .int .i64 k ∧ be = .int .i64 b ∧ le = .int .i64 l ∧ ma = .int .i64 n ∧ Hd (NvI (dOf ⟨nm, kd, st, sz⟩ x) k b l n) ∧ Ext w4 wr)
      case atStart => exact ⟨0, 0, -1, 0, by omega, by omega, rfl, rfl, rfl, rfl, hd (.inl ⟨rfl, rfl, rfl, rfl⟩), Ext.refl _⟩
      case round =>
        obtain ⟨k, b, l, n, hg, hk, rfl, rfl, rfl, rfl, hn, hw⟩ := hrel
        have o0 := hw.cell o0
        have o1 := hw.cell o1
        have m0 := hw.cell m0
        have m1 := hw.cell m1
        have m2 := hw.cell m2
        have m3 := hw.cell m3
        have lb2 := World.block_lt_of_cell? _ _ o0
        have lw := World.block_lt_of_cell? _ _ m0
        dsimp only at lb2 lw
        by_cases hkl : k < (mo + 1).toNat
        · have hks : (k : Int) < mo + 1 := by omega
          have henk := fun W => henc k (by omega) (by omega) W
          have hd0 : 0 ≤ dOf ⟨nm, kd, st, sz⟩ x k := distM_ge _ _
          have hdi : ∀ W, Calls Tryd.prog 64 #[.agg #[.int .u64 (lo (codeF ⟨nm, kd, st, sz⟩ k)), .int .u64 (hi (codeF ⟨nm, kd, st, sz⟩ k))], .agg #[.int .u64 (lo x), .int .u64 (hi x)]] W fun e w' => e = .returned (.int .i64 (dOf ⟨nm, kd, st, sz⟩ x k)) ∧ Ext W w' := fun W => impl_distance _ _ W
          have hn0 := hn.out
          generalize codeF ⟨nm, kd, st, sz⟩ k = cm at henk hdi
          rcases hn0 with ⟨q0, q1, q2, q3⟩ | ⟨j, q0, q1⟩
          · subst q0 q1 q2 q3
            have hnx := hd (show NvI (dOf ⟨nm, kd, st, sz⟩ x) 1 0 (dOf ⟨nm, kd, st, sz⟩ x 0) 1 from .inr ⟨0, rfl, rfl⟩)
            generalize dOf ⟨nm, kd, st, sz⟩ x 0 = dd at hd0 hdi hnx
            clear hn
            go_wp2
            refine wp_region_ext (by kernel_rfl) (by kernel_rfl) ?_
            repeat (first | go_big_quiet_step ((first | (go_at_call 65; with_reducible exact Calls.ext_all (fun W _ => henk W)) | (go_at_call 64; with_reducible exact Calls.ext_all (fun W _ => hdi W)))) | quiet_step ((first | (go_at_call 65; with_reducible exact Calls.ext_all (fun W _ => henk W)) | (go_at_call 64; with_reducible exact Calls.ext_all (fun W _ => hdi W)))))
            refine wpQuiet_nil ?_
            intro w5 hq5
            have hb5 := ext_of_class hq5
            clear hq5
            obtain ⟨hc5, hf5, hz5⟩ := bcell3 hb5
            try simp at hz5
            go_wp2
            go_roundg ((mo + 1).toNat - 1)
            case rel => exact ⟨1, _, _, _, rfl, by omega, by simp, rfl, rfl, by simp, hnx, hw.trans hb5⟩
            case measure => omega
          · subst q0
            simp only [Int.natCast_add, Int.cast_ofNat_Int, Int.natCast_one] at henk
            have hnb := nvF_many (dOf ⟨nm, kd, st, sz⟩ x) j
            have hnl := (nvF_least (dOf ⟨nm, kd, st, sz⟩ x) 0 256 (fun k => ⟨distM_ge _ _, distM_le _ _⟩) j).1
            rw [q1] at hnb hnl
            dsimp only at hnb hnl
            have hlt := fun h => hd (nvF_less (d := dOf ⟨nm, kd, st, sz⟩ x) (k := j) h)
            have heq := fun h => hd (nvF_same (d := dOf ⟨nm, kd, st, sz⟩ x) (k := j) h)
            have hmore := fun h1 h2 => hd (nvF_more (d := dOf ⟨nm, kd, st, sz⟩ x) (k := j) h1 h2)
            rw [q1] at hlt heq hmore
            dsimp only at hlt heq hmore
            have hnx : ∀ b' l' n', nvF (dOf ⟨nm, kd, st, sz⟩ x) (j + 1) = (b', l', n') → Hd (NvI (dOf ⟨nm, kd, st, sz⟩ x) (j + 1 + 1) b' l' n') := fun b' l' n' h => hd (.inr ⟨j + 1, rfl, h⟩)
            generalize dOf ⟨nm, kd, st, sz⟩ x (j + 1) = dd at hd0 hdi hlt heq hmore
            clear hn q1
            have hl0 : ¬ l < 0 := by omega
            by_cases c1 : dd < l
            · have hnx2 := hnx _ _ _ (hlt c1).out
              clear hlt heq hmore hnx
              go_wp2
              refine wp_region_ext (by kernel_rfl) (by kernel_rfl) ?_
              repeat (first | go_big_quiet_step ((first | (go_at_call 65; with_reducible exact Calls.ext_all (fun W _ => henk W)) | (go_at_call 64; with_reducible exact Calls.ext_all (fun W _ => hdi W)))) | quiet_step ((first | (go_at_call 65; with_reducible exact Calls.ext_all (fun W _ => henk W)) | (go_at_call 64; with_reducible exact Calls.ext_all (fun W _ => hdi W)))))
              refine wpQuiet_nil ?_
              intro w5 hq5
              have hb5 := ext_of_class hq5
              clear hq5
              obtain ⟨hc5, hf5, hz5⟩ := bcell3 hb5
              try simp at hz5
              go_wp2
              go_roundg ((mo + 1).toNat - (j + 1 + 1))
              case rel => exact ⟨j + 1 + 1, (j : Int) + 1, dd, 1, rfl, by omega, by simp, rfl, rfl, by simp, hnx2, hw.trans hb5⟩
              case measure => omega
            · by_cases c2 : dd = l
              · have hnx2 := hnx _ _ _ (heq c2).out
                clear hlt heq hmore hnx
                subst c2
                have wn : IntKind.i64.wrap (n + 1) = n + 1 := IntWalk.i64_in _ (by omega)
                go_wp2
                refine wp_region_ext (by kernel_rfl) (by kernel_rfl) ?_
                repeat (first | go_big_quiet_step ((first | (go_at_call 65; with_reducible exact Calls.ext_all (fun W _ => henk W)) | (go_at_call 64; with_reducible exact Calls.ext_all (fun W _ => hdi W)))) | quiet_step ((first | (go_at_call 65; with_reducible exact Calls.ext_all (fun W _ => henk W)) | (go_at_call 64; with_reducible exact Calls.ext_all (fun W _ => hdi W)))))
                refine wpQuiet_nil ?_
                intro w5 hq5
                have hb5 := ext_of_class hq5
                clear hq5
                obtain ⟨hc5, hf5, hz5⟩ := bcell3 hb5
                try simp at hz5
                go_wp2
                go_roundg ((mo + 1).toNat - (j + 1 + 1))
                case rel => exact ⟨j + 1 + 1, _, _, _, rfl, by omega, by simp, rfl, rfl, rfl, hnx2, hw.trans hb5⟩
                case measure => omega
              · have hnx2 := hnx _ _ _ (hmore c1 c2).out
                clear hlt heq hmore hnx
                have c2b : (dd == l) = false := by simp [c2]
                go_wp2
                refine wp_region_ext (by kernel_rfl) (by kernel_rfl) ?_
                repeat (first | go_big_quiet_step ((first | (go_at_call 65; with_reducible exact Calls.ext_all (fun W _ => henk W)) | (go_at_call 64; with_reducible exact Calls.ext_all (fun W _ => hdi W)))) | quiet_step ((first | (go_at_call 65; with_reducible exact Calls.ext_all (fun W _ => henk W)) | (go_at_call 64; with_reducible exact Calls.ext_all (fun W _ => hdi W)))))
                refine wpQuiet_nil ?_
                intro w5 hq5
                have hb5 := ext_of_class hq5
                clear hq5
                obtain ⟨hc5, hf5, hz5⟩ := bcell3 hb5
                try simp at hz5
                go_wp2
                go_roundg ((mo + 1).toNat - (j + 1 + 1))
                case rel => exact ⟨j + 1 + 1, _, _, _, rfl, by omega, by simp, rfl, rfl, rfl, hnx2, hw.trans hb5⟩
                case measure => omega
        · obtain rfl : k = (mo + 1).toNat := by omega
          have hks : (((mo + 1).toNat : Nat) : Int) = mo + 1 := by omega
          have hj : nvF (dOf ⟨nm, kd, st, sz⟩ x) mo.toNat = (b, l, n) := by
            rcases hn.out with ⟨q0, _⟩ | ⟨j, q0, q1⟩
            · omega
            · rw [show mo.toNat = j by omega]; exact q1
          rw [hj] at hv
          clear hj hn
          by_cases hm1 : 1 < n
          · have hv2 := hd (hv.out.trans (if_pos hm1))
            clear hv
            go_wp2
            refine bodyPost_ret (v := .tuple #[.int .i64 0, .int .i64 0, .int .i64 4]) (by simp [results, Tryd.results15, go_sem]) rfl ⟨by rw [hv2.out], hw4.trans hw⟩
          · have hv2 := hd (hv.out.trans (if_neg hm1))
            clear hv
            go_wp2
            refine bodyPost_ret (v := .tuple #[.int .i64 b, .int .i64 l, .int .i64 0]) (by simp [results, Tryd.results15, go_sem]) rfl ⟨by rw [hv2.out], hw4.trans hw⟩
end Go.Proofs.YtknbebglabpegaaDoor
