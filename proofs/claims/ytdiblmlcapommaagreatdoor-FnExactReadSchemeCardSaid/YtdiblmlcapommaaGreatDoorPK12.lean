/-
  PK12: the texts F4 C6 F6 F6D C3 in one (written by pack.py).
-/
import Derived.Test.YtdiblmlcapommaaGreatDoorPK11
import Derived.Test.YtdiblmlcapommaaGreatDoorPK7
import Derived.Test.YtdiblmlcapommaaGreatDoorPK9
set_option linter.unusedVariables false
set_option linter.unusedSimpArgs false
set_option maxRecDepth 100000
namespace Go.Proofs.YtdiblmlcapommaaGreatDoor
open Go.RowKit
end Go.Proofs.YtdiblmlcapommaaGreatDoor
set_option linter.unusedVariables false
set_option linter.unusedSimpArgs false
namespace Go.Proofs.YtdiblmlcapommaaGreatDoor
open Go.RowKit
set_option maxHeartbeats 400000 in
theorem impl_with (m : Mask) (hs : List Int) (A : Option Addr) (cap : Nat) (w : World) (hR : Rd encI64 w A hs) (hn : hs.length ≤ 1048576) (hh : ∀ h ∈ hs, 0 ≤ h ∧ h < 128) :
    Calls Tryz.prog 65 #[.agg #[.int .u64 (lo m), .int .u64 (hi m)], .slice A hs.length cap] w fun e w' => e = .returned (.agg #[.int .u64 (lo (mwith m hs)), .int .u64 (hi (mwith m hs))]) ∧ Ext w w' := by
  have hx := @ExtOf.cell
  go_enter Tryz.func65, Tryz.ntmps65
  go_wp2
  go_loopg [9] hs.length (fun g i wr => ∃ k : Nat, g = hs.length - k ∧ k ≤ hs.length ∧ i = .int .i64 k ∧ Ext w wr ∧ BoxAt wr w.heap.size #[.int .u64 (lo (mwith m (hs.take k))), .int .u64 (hi (mwith m (hs.take k)))] 49 ∧ BoxAt wr (w.heap.size + 1) #[.int .u64 0, .int .u64 0] 49)
  case atStart => exact ⟨0, by omega, by omega, rfl, by ((repeat (first | with_reducible exact Ext.refl _ | with_reducible exact hw | with_reducible exact hb9 | with_reducible exact hb8 | with_reducible exact hb7 | with_reducible exact hb6 | with_reducible exact hb5 | with_reducible exact hb4 | with_reducible exact hb3 | with_reducible exact hb2 | with_reducible exact hb1 | with_reducible refine Ext.alloc ?_ _ | with_reducible refine Ext.drew ?_ | ((with_reducible refine Ext.set ?_ ?_ _); focus (dsimp only; omega)) | with_reducible refine Ext.trans ?_ hb9 | with_reducible refine Ext.trans ?_ hb8 | with_reducible refine Ext.trans ?_ hb7 | with_reducible refine Ext.trans ?_ hb6 | with_reducible refine Ext.trans ?_ hb5 | with_reducible refine Ext.trans ?_ hb4 | with_reducible refine Ext.trans ?_ hb3 | with_reducible refine Ext.trans ?_ hb2 | with_reducible refine Ext.trans ?_ hb1 | with_reducible refine Ext.trans ?_ hw))), (BoxAt.new' rfl).alloc _, BoxAt.new' (by simp)⟩
  case round =>
    obtain ⟨k, hg, hk, rfl, hw, hB, hC⟩ := hrel
    have c0 : wr.cell? ⟨w.heap.size, 0, none⟩ = some (.int .u64 (lo (mwith m (hs.take k)))) := hB.cell 0
    have c1 : wr.cell? ⟨w.heap.size, 1, none⟩ = some (.int .u64 (hi (mwith m (hs.take k)))) := hB.cell 1
    have z0 : wr.cell? ⟨w.heap.size + 1, 0, none⟩ = some (.int .u64 0) := hC.cell 0
    have z1 : wr.cell? ⟨w.heap.size + 1, 1, none⟩ = some (.int .u64 0) := hC.cell 1
    have f0 := hB.frozen 0
    have f1 := hB.frozen 1
    have y0 := hC.frozen 0
    have y1 := hC.frozen 1
    have l0 := hB.lt
    have l1 := hC.lt
    by_cases hkl : k < hs.length
    · obtain ⟨b, off, hA, hlt, _⟩ := hR k hkl
      subst hA
      have m0 := (hR.ext hw).i64 k hkl
      have hM := mwith_take m hs k hkl
      obtain ⟨h0, h1⟩ := hh hs[k] (List.getElem_mem hkl)
      generalize hs[k] = h at h0 h1 hM m0
      generalize mwith m (hs.take k) = q at hB c0 c1 hM
      by_cases hlo : h < 64
      · have e0 : h / 64 = 0 := by omega
        have e1 := with_lo q h h0 hlo
        go_wp2
        refine wp_region_ext_tail 8 8 (by kernel_rfl) (by kernel_rfl) (by intro d _ _ _ _ h; cases d <;> exact h) ?_
        simp only [List.take_succ_cons, List.take_zero, List.drop_succ_cons, List.drop_zero]
        repeat (first | go_big_quiet_step (fail) | quiet_step (fail))
        refine wpQuiet_nil ?_
        intro w2 hq2
        have hb2 := ext_of_class hq2
        clear hq2
        obtain ⟨hc2, hf2, hz2⟩ := bcell3 hb2
        try simp at hz2
        go_wp2
        go_roundg (hs.length - (k + 1))
        case rel => exact ⟨k + 1, rfl, hkl, rfl, by ((repeat (first | with_reducible exact Ext.refl _ | with_reducible exact hw | with_reducible exact hb9 | with_reducible exact hb8 | with_reducible exact hb7 | with_reducible exact hb6 | with_reducible exact hb5 | with_reducible exact hb4 | with_reducible exact hb3 | with_reducible exact hb2 | with_reducible exact hb1 | with_reducible refine Ext.alloc ?_ _ | with_reducible refine Ext.drew ?_ | ((with_reducible refine Ext.set ?_ ?_ _); focus (dsimp only; omega)) | with_reducible refine Ext.trans ?_ hb9 | with_reducible refine Ext.trans ?_ hb8 | with_reducible refine Ext.trans ?_ hb7 | with_reducible refine Ext.trans ?_ hb6 | with_reducible refine Ext.trans ?_ hb5 | with_reducible refine Ext.trans ?_ hb4 | with_reducible refine Ext.trans ?_ hb3 | with_reducible refine Ext.trans ?_ hb2 | with_reducible refine Ext.trans ?_ hb1 | with_reducible refine Ext.trans ?_ hw))), by rw [hM, with_lo_z q h h0 hlo]; exact (hB.ext hb2).set 0 _, (hC.ext hb2).setOther (by simp) _⟩
        case measure => omega
      · have e0 : h / 64 = 1 := by omega
        have e1 := with_hi q h (by omega) h1
        go_wp2
        refine wp_region_ext_tail 8 8 (by kernel_rfl) (by kernel_rfl) (by intro d _ _ _ _ h; cases d <;> exact h) ?_
        simp only [List.take_succ_cons, List.take_zero, List.drop_succ_cons, List.drop_zero]
        repeat (first | go_big_quiet_step (fail) | quiet_step (fail))
        refine wpQuiet_nil ?_
        intro w2 hq2
        have hb2 := ext_of_class hq2
        clear hq2
        obtain ⟨hc2, hf2, hz2⟩ := bcell3 hb2
        try simp at hz2
        go_wp2
        go_roundg (hs.length - (k + 1))
        case rel => exact ⟨k + 1, rfl, hkl, rfl, by ((repeat (first | with_reducible exact Ext.refl _ | with_reducible exact hw | with_reducible exact hb9 | with_reducible exact hb8 | with_reducible exact hb7 | with_reducible exact hb6 | with_reducible exact hb5 | with_reducible exact hb4 | with_reducible exact hb3 | with_reducible exact hb2 | with_reducible exact hb1 | with_reducible refine Ext.alloc ?_ _ | with_reducible refine Ext.drew ?_ | ((with_reducible refine Ext.set ?_ ?_ _); focus (dsimp only; omega)) | with_reducible refine Ext.trans ?_ hb9 | with_reducible refine Ext.trans ?_ hb8 | with_reducible refine Ext.trans ?_ hb7 | with_reducible refine Ext.trans ?_ hb6 | with_reducible refine Ext.trans ?_ hb5 | with_reducible refine Ext.trans ?_ hb4 | with_reducible refine Ext.trans ?_ hb3 | with_reducible refine Ext.trans ?_ hb2 | with_reducible refine Ext.trans ?_ hb1 | with_reducible refine Ext.trans ?_ hw))), by rw [hM, with_hi_z q h (by omega) h1]; exact (hB.ext hb2).set 1 _, (hC.ext hb2).setOther (by simp) _⟩
        case measure => omega
    · obtain rfl : k = hs.length := by omega
      rw [List.take_length] at c0 c1 hB
      go_wp2
      refine bodyPost_ret (v := .agg #[.int .u64 (lo (mwith m hs)), .int .u64 (hi (mwith m hs))]) (by simp [results, Tryz.results65, go_sem, z0, z1]) rfl ⟨rfl, ?_⟩
      (repeat (first | with_reducible exact Ext.refl _ | with_reducible exact hw | with_reducible exact hb9 | with_reducible exact hb8 | with_reducible exact hb7 | with_reducible exact hb6 | with_reducible exact hb5 | with_reducible exact hb4 | with_reducible exact hb3 | with_reducible exact hb2 | with_reducible exact hb1 | with_reducible refine Ext.alloc ?_ _ | with_reducible refine Ext.drew ?_ | ((with_reducible refine Ext.set ?_ ?_ _); focus (dsimp only; omega)) | with_reducible refine Ext.trans ?_ hb9 | with_reducible refine Ext.trans ?_ hb8 | with_reducible refine Ext.trans ?_ hb7 | with_reducible refine Ext.trans ?_ hb6 | with_reducible refine Ext.trans ?_ hb5 | with_reducible refine Ext.trans ?_ hb4 | with_reducible refine Ext.trans ?_ hb3 | with_reducible refine Ext.trans ?_ hb2 | with_reducible refine Ext.trans ?_ hb1 | with_reducible refine Ext.trans ?_ hw))
end Go.Proofs.YtdiblmlcapommaaGreatDoor
set_option linter.unusedVariables false
set_option linter.unusedSimpArgs false
set_option maxRecDepth 100000
namespace Go.Proofs.YtdiblmlcapommaaGreatDoor
open Go.RowKit
theorem i64_and1 (n : Int) : bits .and .i64 n 1 = n % 2 := by
  have h1 : (BitVec.ofInt 64 1).toNat = 2 ^ 1 - 1 := by decide
  have key : (BitVec.ofInt 64 n &&& BitVec.ofInt 64 1).toNat = (n % ((2 ^ 64 : Nat) : Int)).toNat % 2 ^ 1 := by
    rw [BitVec.toNat_and, BitVec.toNat_ofInt, h1, Nat.and_two_pow_sub_one_eq_mod]
  show IntKind.i64.wrap ((BitVec.ofInt 64 n &&& BitVec.ofInt 64 1).toNat : Nat) = n % 2
  rw [key, IntKind.wrap_i64]
  omega
set_option maxHeartbeats 1000000 in
theorem impl_rangeMask (st many : Int) (s0 : 0 ≤ st) (m0 : 0 ≤ many) (hb : st + many ≤ 96) (w : World) :
    Calls Tryz.prog 48 #[.int .i64 st, .int .i64 many] w fun e w' => e = .returned (.agg #[.int .u64 (lo (rangeM st many)), .int .u64 (hi (rangeM st many))]) ∧ Ext w w' := by
  unfold rangeM
  go_enter Tryz.func48, Tryz.ntmps48
  go_wp2
  go_loopg [6] many.toNat (fun g i wr => ∃ k : Nat, g = many.toNat - k ∧ k ≤ many.toNat ∧ i = .int .i64 (st + k) ∧ Ext w wr ∧ BoxAt wr (w.heap.size + 1) #[.int .u64 (lo (orTo (fun k => mbit (st + k)) k)), .int .u64 (hi (orTo (fun k => mbit (st + k)) k))] 49 ∧ BoxAt wr w.heap.size #[.int .u64 0, .int .u64 0] 49)
  case atStart => exact ⟨0, by omega, by omega, by simp, by ((repeat (first | with_reducible exact Ext.refl _ | with_reducible exact hw | with_reducible exact hb9 | with_reducible exact hb8 | with_reducible exact hb7 | with_reducible exact hb6 | with_reducible exact hb5 | with_reducible exact hb4 | with_reducible exact hb3 | with_reducible exact hb2 | with_reducible exact hb1 | with_reducible refine Ext.alloc ?_ _ | with_reducible refine Ext.drew ?_ | ((with_reducible refine Ext.set ?_ ?_ _); focus (dsimp only; omega)) | with_reducible refine Ext.trans ?_ hb9 | with_reducible refine Ext.trans ?_ hb8 | with_reducible refine Ext.trans ?_ hb7 | with_reducible refine Ext.trans ?_ hb6 | with_reducible refine Ext.trans ?_ hb5 | with_reducible refine Ext.trans ?_ hb4 | with_reducible refine Ext.trans ?_ hb3 | with_reducible refine Ext.trans ?_ hb2 | with_reducible refine Ext.trans ?_ hb1 | with_reducible refine Ext.trans ?_ hw))), by rw [show orTo (fun k => mbit (st + k)) 0 = 0 from rfl, lo_zero, hi_zero]; exact BoxAt.new' (by simp), (BoxAt.new' rfl).alloc _⟩
  case round =>
    obtain ⟨k, hg, hk, rfl, hw, hB, hC⟩ := hrel
    have c0 := hB.cell 0
    have c1 := hB.cell 1
    have l2 := hB.lt
    have wr1 : IntKind.i64.wrap (st + many) = st + many := IntWalk.i64_in _ (by omega)
    by_cases hkl : k < many.toNat
    · have hks : (k : Int) < many := by omega
      have wr1 : IntKind.i64.wrap (st + many) = st + many := IntWalk.i64_in _ (by omega)
      go_wp2_with fail
      refine Calls.mono (impl_with _ [st + (k : Int)] _ 1 _ (Rd.lit encI64 _ [st + (k : Int)] _ _ (by simp) rfl) (by simp) (by simp; omega)) ?_
      rintro e w3 ⟨rfl, hb3⟩
      have hB3 := (hB.alloc _).ext hb3
      have f0 := hB3.frozen 0
      have f1 := hB3.frozen 1
      have d0 := hB3.cell 0
      have d1 := hB3.cell 1
      go_wp2
      go_roundg (many.toNat - (k + 1))
      case rel => exact ⟨k + 1, rfl, hkl, by simp; omega, by ((repeat (first | with_reducible exact Ext.refl _ | with_reducible exact hw | with_reducible exact hb9 | with_reducible exact hb8 | with_reducible exact hb7 | with_reducible exact hb6 | with_reducible exact hb5 | with_reducible exact hb4 | with_reducible exact hb3 | with_reducible exact hb2 | with_reducible exact hb1 | with_reducible refine Ext.alloc ?_ _ | with_reducible refine Ext.drew ?_ | ((with_reducible refine Ext.set ?_ ?_ _); focus (dsimp only; omega)) | with_reducible refine Ext.trans ?_ hb9 | with_reducible refine Ext.trans ?_ hb8 | with_reducible refine Ext.trans ?_ hb7 | with_reducible refine Ext.trans ?_ hb6 | with_reducible refine Ext.trans ?_ hb5 | with_reducible refine Ext.trans ?_ hb4 | with_reducible refine Ext.trans ?_ hb3 | with_reducible refine Ext.trans ?_ hb2 | with_reducible refine Ext.trans ?_ hb1 | with_reducible refine Ext.trans ?_ hw))), by rw [orTo_succ]; exact (hB3.set 0 _).set 1 _, ((((hC.alloc _).ext hb3).setOther (by simp) _).setOther (by simp) _)⟩
      case measure => omega
    · obtain rfl : k = many.toNat := by omega
      have hks : ((many.toNat : Nat) : Int) = many := by omega
      have z0 := hC.frozen 0
      have z1 := hC.frozen 1
      have x0 : wr.cell? ⟨w.heap.size, 0, none⟩ = some (.int .u64 0) := hC.cell 0
      have x1 : wr.cell? ⟨w.heap.size, 1, none⟩ = some (.int .u64 0) := hC.cell 1
      go_wp2
      refine bodyPost_ret (v := .agg #[.int .u64 (lo (orTo (fun k => mbit (st + k)) many.toNat)), .int .u64 (hi (orTo (fun k => mbit (st + k)) many.toNat))]) (by simp [results, Tryz.results48, go_sem, x0, x1]) rfl ⟨rfl, ?_⟩
      (repeat (first | with_reducible exact Ext.refl _ | with_reducible exact hw | with_reducible exact hb9 | with_reducible exact hb8 | with_reducible exact hb7 | with_reducible exact hb6 | with_reducible exact hb5 | with_reducible exact hb4 | with_reducible exact hb3 | with_reducible exact hb2 | with_reducible exact hb1 | with_reducible refine Ext.alloc ?_ _ | with_reducible refine Ext.drew ?_ | ((with_reducible refine Ext.set ?_ ?_ _); focus (dsimp only; omega)) | with_reducible refine Ext.trans ?_ hb9 | with_reducible refine Ext.trans ?_ hb8 | with_reducible refine Ext.trans ?_ hb7 | with_reducible refine Ext.trans ?_ hb6 | with_reducible refine Ext.trans ?_ hb5 | with_reducible refine Ext.trans ?_ hb4 | with_reducible refine Ext.trans ?_ hb3 | with_reducible refine Ext.trans ?_ hb2 | with_reducible refine Ext.trans ?_ hb1 | with_reducible refine Ext.trans ?_ hw))
set_option maxHeartbeats 400000 in
theorem impl_part (nm : ByteArray) (kd st sz : Int) (hf : fldB ⟨nm, kd, st, sz⟩ = true) (w : World) :
    Calls Tryz.prog 31 #[.agg #[.string nm, .int .i8 kd, .int .i16 st, .int .i16 sz]] w fun e w' => e = .returned (.agg #[.int .u64 (lo (partF ⟨nm, kd, st, sz⟩)), .int .u64 (hi (partF ⟨nm, kd, st, sz⟩))]) ∧ Ext w w' := by
  have hx := @ExtOf.cell
  obtain ⟨_, k0, k3, s0, z0, z1, z2⟩ := fldB_parts hf
  dsimp only at k0 k3 s0 z0 z1 z2
  have hz : sz ≤ 24 := by unfold mostSz at z1; split at z1 <;> (first | omega | (split at z1 <;> omega))
  have hmb := manyF_bd kd sz z0 (by omega)
  have hmany := fun W => impl_many nm kd st sz (by omega) (by omega) W
  have hv := hd (show partF ⟨nm, kd, st, sz⟩ = rangeM st (manyF kd sz) from rfl)
  have hrm := fun W => impl_rangeMask st (manyF kd sz) s0 (by omega) z2 W
  generalize manyF kd sz = mv at hmany hrm hv hmb z2
  have wr1 : IntKind.i64.wrap st = st := IntWalk.i64_in _ (by omega)
  rw [hv.out]
  clear hv
  go_enter Tryz.func31, Tryz.ntmps31
  go_wp2
  refine wp_region_ext_tail 6 6 (by kernel_rfl) (by kernel_rfl) (by intro d _ _ _ _ h; cases d <;> exact h) ?_
  simp only [List.take_succ_cons, List.take_zero, List.drop_succ_cons, List.drop_zero]
  repeat (first | go_big_quiet_step ((first | (go_at_call 47; with_reducible exact Calls.ext_all (fun W _ => hmany W)) | (go_at_call 48; with_reducible exact Calls.ext_all (fun W _ => hrm W)))) | quiet_step ((first | (go_at_call 47; with_reducible exact Calls.ext_all (fun W _ => hmany W)) | (go_at_call 48; with_reducible exact Calls.ext_all (fun W _ => hrm W)))))
  refine wpQuiet_nil ?_
  intro w2 hq2
  have hb2 := ext_of_class hq2
  clear hq2
  obtain ⟨hc2, hf2, hz2⟩ := bcell3 hb2
  try simp at hz2
  have hz2_0 : w.heap.size < w2.heap.size := by omega
  have hz2_1 : w.heap.size + 1 < w2.heap.size := by omega
  go_wp2
  have c0 : w2.cell? ⟨w.heap.size + 1, 0, none⟩ = some (.int .u64 0) := by go_simp
  have c1 : w2.cell? ⟨w.heap.size + 1, 1, none⟩ = some (.int .u64 0) := by go_simp
  try clear hc1 hf1
  try clear hc2 hf2
  try clear hc3 hf3
  try clear hc4 hf4
  try clear hc5 hf5
  try clear hc6 hf6
  try clear hc7 hf7
  try clear hc8 hf8
  try clear hc9 hf9
  refine bodyPost_ret (v := .agg #[.int .u64 (lo (rangeM st mv)), .int .u64 (hi (rangeM st mv))]) (by simp [results, Tryz.results31, go_sem, c0, c1]) rfl ⟨rfl, ?_⟩
  (repeat (first | with_reducible exact Ext.refl _ | with_reducible exact hw | with_reducible exact hb9 | with_reducible exact hb8 | with_reducible exact hb7 | with_reducible exact hb6 | with_reducible exact hb5 | with_reducible exact hb4 | with_reducible exact hb3 | with_reducible exact hb2 | with_reducible exact hb1 | with_reducible refine Ext.alloc ?_ _ | with_reducible refine Ext.drew ?_ | ((with_reducible refine Ext.set ?_ ?_ _); focus (dsimp only; omega)) | with_reducible refine Ext.trans ?_ hb9 | with_reducible refine Ext.trans ?_ hb8 | with_reducible refine Ext.trans ?_ hb7 | with_reducible refine Ext.trans ?_ hb6 | with_reducible refine Ext.trans ?_ hb5 | with_reducible refine Ext.trans ?_ hb4 | with_reducible refine Ext.trans ?_ hb3 | with_reducible refine Ext.trans ?_ hb2 | with_reducible refine Ext.trans ?_ hb1 | with_reducible refine Ext.trans ?_ hw))
theorem mostF_le (f : Fld) (hf : fldB f = true) : 0 ≤ mostF f ∧ mostF f ≤ 9999 := by
  obtain ⟨_, k0, k3, s0, z0, z1, z2⟩ := fldB_parts hf
  obtain ⟨nm, kd, st, sz⟩ := f
  dsimp only at k0 k3 s0 z0 z1 z2
  unfold mostF
  dsimp only
  split
  · rename_i h; subst h; have : mostSz 0 = 24 := rfl; omega
  · split
    · rename_i h1 h
      subst h
      have : mostSz 3 = 12 := rfl
      rcases (show sz = 1 ∨ sz = 2 ∨ sz = 3 ∨ sz = 4 ∨ sz = 5 ∨ sz = 6 ∨ sz = 7 ∨ sz = 8 ∨ sz = 9 ∨ sz = 10 ∨ sz = 11 ∨ sz = 12 by omega) with rfl | rfl | rfl | rfl | rfl | rfl | rfl | rfl | rfl | rfl | rfl | rfl <;> decide
    · rename_i h0 h3
      have : sz ≤ 4 := by unfold mostSz at z1; rwa [if_neg h0, if_neg h3] at z1
      rcases (show sz = 1 ∨ sz = 2 ∨ sz = 3 ∨ sz = 4 by omega) with rfl | rfl | rfl | rfl <;> decide
theorem impl_with0 (hs : List Int) (A : Option Addr) (cap : Nat) (w : World) (hR : Rd encI64 w A hs) (hn : hs.length ≤ 1048576) (hh : ∀ h ∈ hs, 0 ≤ h ∧ h < 128) :
    Calls Tryz.prog 65 #[.agg #[.int .u64 0, .int .u64 0], .slice A hs.length cap] w fun e w' => e = .returned (.agg #[.int .u64 (lo (mwith 0 hs)), .int .u64 (hi (mwith 0 hs))]) ∧ Ext w w' := impl_with 0 hs A cap w hR hn hh
end Go.Proofs.YtdiblmlcapommaaGreatDoor
set_option linter.unusedVariables false
set_option linter.unusedSimpArgs false
set_option maxRecDepth 100000
namespace Go.Proofs.YtdiblmlcapommaaGreatDoor
open Go.RowKit
theorem Rd.keepB {α : Type} {e : Enc α} {w w' : World} {b off : Nat} {xs : List α} (h : Rd e w (some ⟨b, off, none⟩) xs) (hm : w'.heap[b]? = w.heap[b]?) : Rd e w' (some ⟨b, off, none⟩) xs := fun k hk => by
  obtain ⟨b', off', e1, hlt, hc⟩ := h k hk
  simp only [Option.some.injEq, Addr.mk.injEq, and_true] at e1
  obtain ⟨rfl, rfl⟩ := e1
  have hlt2 : b < w'.heap.size := by
    have h1 : w.heap[b]? = some w.heap[b] := Array.getElem?_eq_getElem hlt
    rw [h1] at hm
    exact (Array.getElem?_eq_some_iff.1 hm).1
  exact ⟨b, off, rfl, hlt2, fun j v hv => by have := hc j v hv; simpa only [World.cell?, hm] using this⟩
theorem Rd.setB {α : Type} {e : Enc α} {w : World} {b off : Nat} {xs : List α} (h : Rd e w (some ⟨b, off, none⟩) xs) {p : Addr} (hp : b ≠ p.block) (u : Value) : Rd e (w.setCell p u) (some ⟨b, off, none⟩) xs :=
  h.keepB (Below.heap_setCell w p u b hp)
theorem Rd.two {w : World} {b : Nat} {x y : Int} (hb : b < w.heap.size) (h0 : w.cell? ⟨b, 0, none⟩ = some (.int .i64 x)) (h1 : w.cell? ⟨b, 1, none⟩ = some (.int .i64 y)) : Rd encI64 w (some ⟨b, 0, none⟩) [x, y] := fun k hk => by
  refine ⟨b, 0, rfl, hb, fun j v hv => ?_⟩
  match k, hk, j, hv with
  | 0, _, 0, hv => cases hv; exact h0
  | 1, _, 0, hv => cases hv; exact h1
  | 0, _, j + 1, hv => simp [encI64] at hv
  | 1, _, j + 1, hv => simp [encI64] at hv
theorem Rd.one {w : World} {b : Nat} {x : Int} (hb : b < w.heap.size) (h0 : w.cell? ⟨b, 0, none⟩ = some (.int .i64 x)) : Rd encI64 w (some ⟨b, 0, none⟩) [x] := fun k hk => by
  refine ⟨b, 0, rfl, hb, fun j v hv => ?_⟩
  match k, hk, j, hv with
  | 0, _, 0, hv => cases hv; exact h0
  | 0, _, j + 1, hv => simp [encI64] at hv
end Go.Proofs.YtdiblmlcapommaaGreatDoor
set_option linter.unusedVariables false
set_option linter.unusedSimpArgs false
namespace Go.Proofs.YtdiblmlcapommaaGreatDoor
open Go.RowKit
end Go.Proofs.YtdiblmlcapommaaGreatDoor
