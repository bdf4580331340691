/-
  Contracts of the functions that read the value of a field, program's and reference's.
-/
import Derived.Test.YtciepjdacmjhlaaGreatDoorF7
import Derived.Test.YtciepjdacmjhlaaGreatDoorF11
import Derived.Test.YtciepjdacmjhlaaGreatDoorL1
set_option linter.unusedVariables false
set_option linter.unusedSimpArgs false
set_option maxRecDepth 100000
namespace Go.Proofs.YtciepjdacmjhlaaGreatDoor
open Go.RowKit
theorem ExtOf.prop {w : World} (x : ExtOf w) : Ext w x.val := x.2
set_option maxHeartbeats 1000000 in
theorem impl_decode (nm : ByteArray) (kd st sz : Int) (hf : fldB ⟨nm, kd, st, sz⟩ = true) (m : Mask) (w : World) :
    Calls Tryz.prog 65 #[.agg #[.string nm, .int .i8 kd, .int .i16 st, .int .i16 sz], .agg #[.int .u64 (lo m), .int .u64 (hi m)]] w fun e w' => e = .returned (.tuple #[.int .i64 (valueF ⟨nm, kd, st, sz⟩ m).1, .int .i64 (valueF ⟨nm, kd, st, sz⟩ m).2]) ∧ Ext w w' := by
  have hx := @ExtOf.cell
  obtain ⟨_, k0, k3, s0, z0, z1, z2⟩ := fldB_parts hf
  dsimp only at k0 k3 s0 z0 z1 z2
  have hmo := fun W => impl_most nm kd st sz k0 k3 z0 z1 W
  have hml := mostF_le _ hf
  have henc := fun (v : Int) (h0 : 0 ≤ v) (h1 : v ≤ mostF ⟨nm, kd, st, sz⟩) (W : World) => impl_encode nm kd st sz v hf h0 h1 W
  have hpa := fun W => impl_part nm kd st sz hf W
  have hz0 := fun h => hd (valueF_zero (f := ⟨nm, kd, st, sz⟩) (m := m) h)
  have hhit := fun k h1 h2 h3 h4 => hd (valueF_hit (f := ⟨nm, kd, st, sz⟩) (m := m) (k := k) h1 h2 h3 h4)
  have hmiss := fun h1 h2 => hd (valueF_miss (f := ⟨nm, kd, st, sz⟩) (m := m) h1 h2)
  have hxx := hd (show mmeet m (partF ⟨nm, kd, st, sz⟩) = mmeet m (partF ⟨nm, kd, st, sz⟩) from rfl)
  generalize partF ⟨nm, kd, st, sz⟩ = p at hpa hz0 hhit hmiss hxx
  have e1 := lohi_zero (mmeet m p)
  have e2 := eqA_Mask
  generalize mostF ⟨nm, kd, st, sz⟩ = mo at hmo hml henc hhit hmiss
  go_enter Tryz.func65, Tryz.ntmps65
  go_wp2_with fail
  refine wp_region_float 4 4 6 _ #[.int .u64 0, .int .u64 0] 42 (by kernel_rfl) (by kernel_rfl) rfl rfl rfl rfl (fun _ _ => by go_simp) (by intro d _ _ _ _ h; cases d <;> exact h) ?_
  simp only [List.take_succ_cons, List.take_zero, List.drop_succ_cons, List.drop_zero]
  repeat (refine wpX_step (fun K hK => ?_); go_simp; first | (refine hK _ ?_; clear hK K) | (apply Exists.intro; refine ⟨fun x => ?_, hK _ ?_⟩; ((first | (go_at_call 46; with_reducible exact hpa _) | (go_at_call 76; with_reducible exact impl_MeetMasks m p _))); clear hK K))
  refine wpX_nil ?_
  intro b2 w2 hb2 hbb2 hcb2
  obtain ⟨hc2, hf2, hz2⟩ := bcell3 hb2
  try simp at hz2
  try simp at hbb2
  have hz2_0 : w.heap.size < w2.heap.size := by omega
  have hn2_0 : ¬ (b2 = w.heap.size) := by omega
  have hz2_1 : w.heap.size + 1 < w2.heap.size := by omega
  have hn2_1 : ¬ (b2 = w.heap.size + 1) := by omega
  have hbl2 := blk_lt hcb2
  have hbf2 := blk_free hcb2
  have hbc2_0 : w2.cell? ⟨b2, 0, none⟩ = some (.int .u64 0) := blk_cell hcb2 0 rfl
  have hbc2_1 : w2.cell? ⟨b2, 1, none⟩ = some (.int .u64 0) := blk_cell hcb2 1 rfl
  clear hcb2
  have hcz : mzero (mmeet m p) = true ↔ mmeet m p = 0 := by unfold mzero; rw [beq_iff_eq]
  generalize mmeet m p = x at e1 hcz hz0 hhit hmiss
  clear hxx
  cases hz : mzero x with
  | true =>
    have hv := hz0 (hcz.1 hz)
    rw [hz] at e1
    go_wp2
    refine bodyPost_ret (v := .tuple #[.int .i64 0, .int .i64 6]) (by simp [results, Tryz.results65, go_sem]) rfl ⟨by rw [hv.out], ?_⟩
    (repeat (first | with_reducible exact Ext.refl _ | with_reducible exact hw | with_reducible exact hb9 | with_reducible exact hb8 | with_reducible exact hb7 | with_reducible exact hb6 | with_reducible exact hb5 | with_reducible exact hb4 | with_reducible exact hb3 | with_reducible exact hb2 | with_reducible exact hb1 | with_reducible refine Ext.alloc ?_ _ | with_reducible refine Ext.drew ?_ | ((with_reducible refine Ext.set ?_ ?_ _); focus (dsimp only; omega)) | with_reducible refine Ext.trans ?_ hb9 | with_reducible refine Ext.trans ?_ hb8 | with_reducible refine Ext.trans ?_ hb7 | with_reducible refine Ext.trans ?_ hb6 | with_reducible refine Ext.trans ?_ hb5 | with_reducible refine Ext.trans ?_ hb4 | with_reducible refine Ext.trans ?_ hb3 | with_reducible refine Ext.trans ?_ hb2 | with_reducible refine Ext.trans ?_ hb1 | with_reducible refine Ext.trans ?_ hw))
  | false =>
    have hxz : ¬ x = 0 := fun h => by rw [hcz.2 h] at hz; cases hz
    rw [hz] at e1
    go_wp2_with fail
    refine Calls.mono (hmo _) ?_
    rintro e w3 ⟨rfl, hb3⟩
    have o0 : w3.cell? ⟨b2, 0, none⟩ = some (.int .u64 (lo x)) := hb3.cell (by go_simp)
    have o1 : w3.cell? ⟨b2, 1, none⟩ = some (.int .u64 (hi x)) := hb3.cell (by go_simp)
    have m0 : w3.cell? ⟨w.heap.size, 0, none⟩ = some (.string nm) := hb3.cell (by go_simp)
    have m1 : w3.cell? ⟨w.heap.size, 1, none⟩ = some (.int .i8 kd) := hb3.cell (by go_simp)
    have m2 : w3.cell? ⟨w.heap.size, 2, none⟩ = some (.int .i16 st) := hb3.cell (by go_simp)
    have m3 : w3.cell? ⟨w.heap.size, 3, none⟩ = some (.int .i16 sz) := hb3.cell (by go_simp)
    have hw3 : Ext w w3 := by ((repeat (first | with_reducible exact Ext.refl _ | with_reducible exact hw | with_reducible exact hb9 | with_reducible exact hb8 | with_reducible exact hb7 | with_reducible exact hb6 | with_reducible exact hb5 | with_reducible exact hb4 | with_reducible exact hb3 | with_reducible exact hb2 | with_reducible exact hb1 | with_reducible refine Ext.alloc ?_ _ | with_reducible refine Ext.drew ?_ | ((with_reducible refine Ext.set ?_ ?_ _); focus (dsimp only; omega)) | with_reducible refine Ext.trans ?_ hb9 | with_reducible refine Ext.trans ?_ hb8 | with_reducible refine Ext.trans ?_ hb7 | with_reducible refine Ext.trans ?_ hb6 | with_reducible refine Ext.trans ?_ hb5 | with_reducible refine Ext.trans ?_ hb4 | with_reducible refine Ext.trans ?_ hb3 | with_reducible refine Ext.trans ?_ hb2 | with_reducible refine Ext.trans ?_ hb1 | with_reducible refine Ext.trans ?_ hw)))
    clear hc2 hf2 hb3 hb2 hbf2 hbc2_0 hbc2_1 hz2 hz2_0 hz2_1 hn2_0 hn2_1 e1
    have wm : IntKind.i64.wrap (mo + 1) = mo + 1 := IntWalk.i64_in _ (by omega)
    go_wp2
    go_loopg [18] (mo + 1).toNat (fun g i wr => ∃ k : Nat, g = (mo + 1).toNat - k ∧ k ≤ (mo + 1).toNat ∧ i = .int .i64 k ∧ Ext w3 wr ∧ Hd (valAt ⟨nm, kd, st, sz⟩ x k = none))
    case atStart => exact ⟨0, by omega, by omega, rfl, Ext.refl _, hd rfl⟩
    case round =>
      obtain ⟨k, hg, hk, rfl, hw, hn⟩ := hrel
      have o0 := hw.cell o0
      have o1 := hw.cell o1
      have m0 := hw.cell m0
      have m1 := hw.cell m1
      have m2 := hw.cell m2
      have m3 := hw.cell m3
      have lb2 := World.block_lt_of_cell? _ _ o0
      have lw := World.block_lt_of_cell? _ _ m0
      dsimp only at lb2 lw
      by_cases hkl : k < (mo + 1).toNat
      · have hks : (k : Int) < mo + 1 := by omega
        have e3 := lohi_meq (codeF ⟨nm, kd, st, sz⟩ k) x
        have hem : meqB (codeF ⟨nm, kd, st, sz⟩ k) x = true ↔ codeF ⟨nm, kd, st, sz⟩ k = x := by unfold meqB; rw [beq_iff_eq]
        cases hq : meqB (codeF ⟨nm, kd, st, sz⟩ k) x with
        | true =>
          have hv := hhit k hxz hn.out (hem.1 hq) (by omega)
          rw [hq] at e3
          go_wp2
          refine wp_region_ext (by kernel_rfl) (by kernel_rfl) ?_
          repeat (first | go_big_quiet_step ((go_at_call 90; with_reducible exact Calls.ext_all (fun W _ => henc k (by omega) (by omega) W))) | quiet_step ((go_at_call 90; with_reducible exact Calls.ext_all (fun W _ => henc k (by omega) (by omega) W))))
          refine wpQuiet_nil ?_
          intro w4 hq4
          have hb4 := ext_of_class hq4
          clear hq4
          obtain ⟨hc4, hf4, hz4⟩ := bcell3 hb4
          try simp at hz4
          go_wp2
          refine bodyPost_ret (v := .tuple #[.int .i64 k, .int .i64 0]) (by simp [results, Tryz.results65, go_sem]) rfl ⟨by rw [hv.out], (hw3.trans hw).trans hb4⟩
        | false =>
          have hn2 := hd (valAt_miss hn.out (fun h => by rw [hem.2 h] at hq; cases hq))
          rw [hq] at e3
          go_wp2
          refine wp_region_ext (by kernel_rfl) (by kernel_rfl) ?_
          repeat (first | go_big_quiet_step ((go_at_call 90; with_reducible exact Calls.ext_all (fun W _ => henc k (by omega) (by omega) W))) | quiet_step ((go_at_call 90; with_reducible exact Calls.ext_all (fun W _ => henc k (by omega) (by omega) W))))
          refine wpQuiet_nil ?_
          intro w4 hq4
          have hb4 := ext_of_class hq4
          clear hq4
          obtain ⟨hc4, hf4, hz4⟩ := bcell3 hb4
          try simp at hz4
          go_wp2
          go_roundg ((mo + 1).toNat - (k + 1))
          case rel => exact ⟨k + 1, rfl, hkl, by simp, hw.trans hb4, hn2⟩
          case measure => omega
      · obtain rfl : k = (mo + 1).toNat := by omega
        have hks : (((mo + 1).toNat : Nat) : Int) = mo + 1 := by omega
        have hv := hmiss hxz hn.out
        go_wp2
        refine bodyPost_ret (v := .tuple #[.int .i64 0, .int .i64 8]) (by simp [results, Tryz.results65, go_sem]) rfl ⟨by rw [hv.out], hw3.trans hw⟩
