/-
  Contracts of the functions that ask several masks.
-/
import Derived.Test.YtegopgpnjgikeaaGreatDoorC5
set_option linter.unusedVariables false
set_option linter.unusedSimpArgs false
namespace Go.Proofs.YtegopgpnjgikeaaGreatDoor
open Go.RowKit
set_option maxHeartbeats 400000 in
theorem impl_with (m : Mask) (hs : List Int) (A : Option Addr) (cap : Nat) (w : World) (hR : Rd encI64 w A hs) (hn : hs.length ≤ 1048576) (hh : ∀ h ∈ hs, 0 ≤ h ∧ h < 128) :
    Calls Tryz.prog 67 #[.agg #[.int .u64 (lo m), .int .u64 (hi m)], .slice A hs.length cap] w fun e w' => e = .returned (.agg #[.int .u64 (lo (mwith m hs)), .int .u64 (hi (mwith m hs))]) ∧ Ext w w' := by
  have hx := @ExtOf.cell
  go_enter Tryz.func67, Tryz.ntmps67
  go_wp2
  go_loopg [9] hs.length (fun g i wr => ∃ k : Nat, g = hs.length - k ∧ k ≤ hs.length ∧ i = .int .i64 k ∧ Ext w wr ∧ BoxAt wr w.heap.size #[.int .u64 (lo (mwith m (hs.take k))), .int .u64 (hi (mwith m (hs.take k)))] 47 ∧ BoxAt wr (w.heap.size + 1) #[.int .u64 0, .int .u64 0] 47)
  case atStart => exact ⟨0, by omega, by omega, rfl, by ((repeat (first | with_reducible exact Ext.refl _ | with_reducible exact hw | with_reducible exact hb9 | with_reducible exact hb8 | with_reducible exact hb7 | with_reducible exact hb6 | with_reducible exact hb5 | with_reducible exact hb4 | with_reducible exact hb3 | with_reducible exact hb2 | with_reducible exact hb1 | with_reducible refine Ext.alloc ?_ _ | with_reducible refine Ext.drew ?_ | ((with_reducible refine Ext.set ?_ ?_ _); focus (dsimp only; omega)) | with_reducible refine Ext.trans ?_ hb9 | with_reducible refine Ext.trans ?_ hb8 | with_reducible refine Ext.trans ?_ hb7 | with_reducible refine Ext.trans ?_ hb6 | with_reducible refine Ext.trans ?_ hb5 | with_reducible refine Ext.trans ?_ hb4 | with_reducible refine Ext.trans ?_ hb3 | with_reducible refine Ext.trans ?_ hb2 | with_reducible refine Ext.trans ?_ hb1 | with_reducible refine Ext.trans ?_ hw))), (BoxAt.new' rfl).alloc _, BoxAt.new' (by simp)⟩
  case round =>
    obtain ⟨k, hg, hk, rfl, hw, hB, hC⟩ := hrel
    have c0 : wr.cell? ⟨w.heap.size, 0, none⟩ = some (.int .u64 (lo (mwith m (hs.take k)))) := hB.cell 0
    have c1 : wr.cell? ⟨w.heap.size, 1, none⟩ = some (.int .u64 (hi (mwith m (hs.take k)))) := hB.cell 1
    have z0 : wr.cell? ⟨w.heap.size + 1, 0, none⟩ = some (.int .u64 0) := hC.cell 0
    have z1 : wr.cell? ⟨w.heap.size + 1, 1, none⟩ = some (.int .u64 0) := hC.cell 1
    have f0 := hB.frozen 0
    have f1 := hB.frozen 1
    have y0 := hC.frozen 0
    have y1 := hC.frozen 1
    have l0 := hB.lt
    have l1 := hC.lt
    by_cases hkl : k < hs.length
    · obtain ⟨b, off, hA, hlt, _⟩ := hR k hkl
      subst hA
      have m0 := (hR.ext hw).i64 k hkl
      have hM := mwith_take m hs k hkl
      obtain ⟨h0, h1⟩ := hh hs[k] (List.getElem_mem hkl)
      generalize hs[k] = h at h0 h1 hM m0
      generalize mwith m (hs.take k) = q at hB c0 c1 hM
      by_cases hlo : h < 64
      · have e0 : h / 64 = 0 := by omega
        have e1 := with_lo q h h0 hlo
        go_wp2
        refine wp_region_ext_tail 8 8 (by kernel_rfl) (by kernel_rfl) (by intro d _ _ _ _ h; cases d <;> exact h) ?_
        simp only [List.take_succ_cons, List.take_zero, List.drop_succ_cons, List.drop_zero]
        repeat (first | go_big_quiet_step (fail) | quiet_step (fail))
        refine wpQuiet_nil ?_
        intro w2 hq2
        have hb2 := ext_of_class hq2
        clear hq2
        obtain ⟨hc2, hf2, hz2⟩ := bcell3 hb2
        try simp at hz2
        go_wp2
        go_roundg (hs.length - (k + 1))
        case rel => exact ⟨k + 1, rfl, hkl, rfl, by ((repeat (first | with_reducible exact Ext.refl _ | with_reducible exact hw | with_reducible exact hb9 | with_reducible exact hb8 | with_reducible exact hb7 | with_reducible exact hb6 | with_reducible exact hb5 | with_reducible exact hb4 | with_reducible exact hb3 | with_reducible exact hb2 | with_reducible exact hb1 | with_reducible refine Ext.alloc ?_ _ | with_reducible refine Ext.drew ?_ | ((with_reducible refine Ext.set ?_ ?_ _); focus (dsimp only; omega)) | with_reducible refine Ext.trans ?_ hb9 | with_reducible refine Ext.trans ?_ hb8 | with_reducible refine Ext.trans ?_ hb7 | with_reducible refine Ext.trans ?_ hb6 | with_reducible refine Ext.trans ?_ hb5 | with_reducible refine Ext.trans ?_ hb4 | with_reducible refine Ext.trans ?_ hb3 | with_reducible refine Ext.trans ?_ hb2 | with_reducible refine Ext.trans ?_ hb1 | with_reducible refine Ext.trans ?_ hw))), by rw [hM, with_lo_z q h h0 hlo]; exact (hB.ext hb2).set 0 _, (hC.ext hb2).setOther (by simp) _⟩
        case measure => omega
      · have e0 : h / 64 = 1 := by omega
        have e1 := with_hi q h (by omega) h1
        go_wp2
        refine wp_region_ext_tail 8 8 (by kernel_rfl) (by kernel_rfl) (by intro d _ _ _ _ h; cases d <;> exact h) ?_
        simp only [List.take_succ_cons, List.take_zero, List.drop_succ_cons, List.drop_zero]
        repeat (first | go_big_quiet_step (fail) | quiet_step (fail))
        refine wpQuiet_nil ?_
        intro w2 hq2
        have hb2 := ext_of_class hq2
        clear hq2
        obtain ⟨hc2, hf2, hz2⟩ := bcell3 hb2
        try simp at hz2
        go_wp2
        go_roundg (hs.length - (k + 1))
        case rel => exact ⟨k + 1, rfl, hkl, rfl, by ((repeat (first | with_reducible exact Ext.refl _ | with_reducible exact hw | with_reducible exact hb9 | with_reducible exact hb8 | with_reducible exact hb7 | with_reducible exact hb6 | with_reducible exact hb5 | with_reducible exact hb4 | with_reducible exact hb3 | with_reducible exact hb2 | with_reducible exact hb1 | with_reducible refine Ext.alloc ?_ _ | with_reducible refine Ext.drew ?_ | ((with_reducible refine Ext.set ?_ ?_ _); focus (dsimp only; omega)) | with_reducible refine Ext.trans ?_ hb9 | with_reducible refine Ext.trans ?_ hb8 | with_reducible refine Ext.trans ?_ hb7 | with_reducible refine Ext.trans ?_ hb6 | with_reducible refine Ext.trans ?_ hb5 | with_reducible refine Ext.trans ?_ hb4 | with_reducible refine Ext.trans ?_ hb3 | with_reducible refine Ext.trans ?_ hb2 | with_reducible refine Ext.trans ?_ hb1 | with_reducible refine Ext.trans ?_ hw))), by rw [hM, with_hi_z q h (by omega) h1]; exact (hB.ext hb2).set 1 _, (hC.ext hb2).setOther (by simp) _⟩
        case measure => omega
    · obtain rfl : k = hs.length := by omega
      rw [List.take_length] at c0 c1 hB
      go_wp2
      refine bodyPost_ret (v := .agg #[.int .u64 (lo (mwith m hs)), .int .u64 (hi (mwith m hs))]) (by simp [results, Tryz.results67, go_sem, z0, z1]) rfl ⟨rfl, ?_⟩
      (repeat (first | with_reducible exact Ext.refl _ | with_reducible exact hw | with_reducible exact hb9 | with_reducible exact hb8 | with_reducible exact hb7 | with_reducible exact hb6 | with_reducible exact hb5 | with_reducible exact hb4 | with_reducible exact hb3 | with_reducible exact hb2 | with_reducible exact hb1 | with_reducible refine Ext.alloc ?_ _ | with_reducible refine Ext.drew ?_ | ((with_reducible refine Ext.set ?_ ?_ _); focus (dsimp only; omega)) | with_reducible refine Ext.trans ?_ hb9 | with_reducible refine Ext.trans ?_ hb8 | with_reducible refine Ext.trans ?_ hb7 | with_reducible refine Ext.trans ?_ hb6 | with_reducible refine Ext.trans ?_ hb5 | with_reducible refine Ext.trans ?_ hb4 | with_reducible refine Ext.trans ?_ hb3 | with_reducible refine Ext.trans ?_ hb2 | with_reducible refine Ext.trans ?_ hb1 | with_reducible refine Ext.trans ?_ hw))
