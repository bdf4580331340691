/-
  Contracts of the functions that list the values near a mask, program's and reference's.
-/
import Derived.Test.YtknbebglabpegaaDoorF14
import Derived.Test.YtknbebglabpegaaDoorC8
import Derived.Test.YtknbebglabpegaaDoorL5
set_option linter.unusedVariables false
set_option linter.unusedSimpArgs false
set_option maxRecDepth 100000
namespace Go.Proofs.YtknbebglabpegaaDoor
open Go.RowKit
set_option maxHeartbeats 1000000 in
theorem impl_near (nm : ByteArray) (kd st sz : Int) (hf : fldB ⟨nm, kd, st, sz⟩ = true) (m : Mask) (far : Int) (w : World) :
    Calls Tryd.prog 75 #[.agg #[.string nm, .int .i8 kd, .int .i16 st, .int .i16 sz], .agg #[.int .u64 (lo m), .int .u64 (hi m)], .int .i64 far] w fun e w' => ∃ v, e = .returned v ∧ Ow encI64 2 w' w.heap.size v (nearL ⟨nm, kd, st, sz⟩ m far) ∧ Ext w w' := by
  have hx := @ExtOf.cell
  obtain ⟨_, k0, k3, s0, z0, z1, z2⟩ := fldB_parts hf
  dsimp only at k0 k3 s0 z0 z1 z2
  have hmo := fun W => impl_most nm kd st sz k0 k3 z0 z1 W
  have hml := mostF_le _ hf
  have henc := fun (v : Int) (h0 : 0 ≤ v) (h1 : v ≤ mostF ⟨nm, kd, st, sz⟩) (W : World) => impl_encode nm kd st sz v hf h0 h1 W
  have hpa := fun W => impl_part nm kd st sz hf W
  have hv := hd (show nearL ⟨nm, kd, st, sz⟩ m far = nearTo ⟨nm, kd, st, sz⟩ (mmeet m (partF ⟨nm, kd, st, sz⟩)) far (mostF ⟨nm, kd, st, sz⟩ + 1).toNat from rfl)
  generalize nearL ⟨nm, kd, st, sz⟩ m far = nl at hv
  generalize partF ⟨nm, kd, st, sz⟩ = p at hpa hv
  generalize mostF ⟨nm, kd, st, sz⟩ = mo at hmo hml henc hv
  go_enter Tryd.func75, Tryd.ntmps75
  go_wp2_with fail
  refine wp_region_float 4 4 7 _ #[.int .u64 0, .int .u64 0] 33 (by kernel_rfl) (by kernel_rfl) rfl rfl rfl rfl (fun _ _ => by go_simp) (by intro d _ _ _ _ h; cases d <;> exact h) ?_
  simp only [List.take_succ_cons, List.take_zero, List.drop_succ_cons, List.drop_zero]
  repeat (refine wpX_step (fun K hK => ?_); go_simp; first | (refine hK _ ?_; clear hK K) | (apply Exists.intro; refine ⟨fun x => ?_, hK _ ?_⟩; ((first | (go_at_call 62; with_reducible exact hpa _) | (go_at_call 61; with_reducible exact impl_MeetMasks m p _))); clear hK K))
  refine wpX_nil ?_
  intro b2 w2 hb2 hbb2 hcb2
  obtain ⟨hc2, hf2, hz2⟩ := bcell3 hb2
  try simp at hz2
  try simp at hbb2
  have hz2_0 : w.heap.size < w2.heap.size := by omega
  have hn2_0 : ¬ (b2 = w.heap.size) := by omega
  have hz2_1 : w.heap.size + 1 < w2.heap.size := by omega
  have hn2_1 : ¬ (b2 = w.heap.size + 1) := by omega
  have hbl2 := blk_lt hcb2
  have hbf2 := blk_free hcb2
  have hbc2_0 : w2.cell? ⟨b2, 0, none⟩ = some (.int .u64 0) := blk_cell hcb2 0 rfl
  have hbc2_1 : w2.cell? ⟨b2, 1, none⟩ = some (.int .u64 0) := blk_cell hcb2 1 rfl
  clear hcb2
  generalize mmeet m p = x at hv
  have hw : Ext w ((w2.setCell ⟨b2, 0, none⟩ (.int .u64 (lo x))).setCell ⟨b2, 1, none⟩ (.int .u64 (hi x))) := by ((repeat (first | with_reducible exact Ext.refl _ | with_reducible exact hw | with_reducible exact hb9 | with_reducible exact hb8 | with_reducible exact hb7 | with_reducible exact hb6 | with_reducible exact hb5 | with_reducible exact hb4 | with_reducible exact hb3 | with_reducible exact hb2 | with_reducible exact hb1 | with_reducible refine Ext.alloc ?_ _ | with_reducible refine Ext.drew ?_ | ((with_reducible refine Ext.set ?_ ?_ _); focus (dsimp only; omega)) | with_reducible refine Ext.trans ?_ hb9 | with_reducible refine Ext.trans ?_ hb8 | with_reducible refine Ext.trans ?_ hb7 | with_reducible refine Ext.trans ?_ hb6 | with_reducible refine Ext.trans ?_ hb5 | with_reducible refine Ext.trans ?_ hb4 | with_reducible refine Ext.trans ?_ hb3 | with_reducible refine Ext.trans ?_ hb2 | with_reducible refine Ext.trans ?_ hb1 | with_reducible refine Ext.trans ?_ hw)))
  have o0 : ((w2.setCell ⟨b2, 0, none⟩ (.int .u64 (lo x))).setCell ⟨b2, 1, none⟩ (.int .u64 (hi x))).cell? ⟨b2, 0, none⟩ = some (.int .u64 (lo x)) := by go_simp
  have o1 : ((w2.setCell ⟨b2, 0, none⟩ (.int .u64 (lo x))).setCell ⟨b2, 1, none⟩ (.int .u64 (hi x))).cell? ⟨b2, 1, none⟩ = some (.int .u64 (hi x)) := by go_simp
  have m0 : ((w2.setCell ⟨b2, 0, none⟩ (.int .u64 (lo x))).setCell ⟨b2, 1, none⟩ (.int .u64 (hi x))).cell? ⟨w.heap.size, 0, none⟩ = some (.string nm) := by go_simp
  have m1 : ((w2.setCell ⟨b2, 0, none⟩ (.int .u64 (lo x))).setCell ⟨b2, 1, none⟩ (.int .u64 (hi x))).cell? ⟨w.heap.size, 1, none⟩ = some (.int .i8 kd) := by go_simp
  have m2 : ((w2.setCell ⟨b2, 0, none⟩ (.int .u64 (lo x))).setCell ⟨b2, 1, none⟩ (.int .u64 (hi x))).cell? ⟨w.heap.size, 2, none⟩ = some (.int .i16 st) := by go_simp
  have m3 : ((w2.setCell ⟨b2, 0, none⟩ (.int .u64 (lo x))).setCell ⟨b2, 1, none⟩ (.int .u64 (hi x))).cell? ⟨w.heap.size, 3, none⟩ = some (.int .i16 sz) := by go_simp
  have hsz := hd (show w2.heap.size = ((w2.setCell ⟨b2, 0, none⟩ (.int .u64 (lo x))).setCell ⟨b2, 1, none⟩ (.int .u64 (hi x))).heap.size by simp)
  go_wp2_with fail
  clear hc2 hf2 hb2 hbf2 hbc2_0 hbc2_1 hz2 hz2_0 hz2_1 hn2_0 hn2_1 hpa
  generalize (w2.setCell ⟨b2, 0, none⟩ (.int .u64 (lo x))).setCell ⟨b2, 1, none⟩ (.int .u64 (hi x)) = W2 at hw o0 o1 m0 m1 m2 m3 hsz
  refine Calls.mono (hmo _) ?_
  rintro e w4 ⟨rfl, hb4⟩
  have hO : Ow encI64 2 w4 W2.heap.size (.slice (some ⟨w2.heap.size, 0, none⟩) 0 0) [] := (Ow.made0 hsz.out (by have := hsz.out; omega)).ext hb4
  have hW : Ext W2 w4 := ((Ext.refl _).alloc _).trans hb4
  have wm : IntKind.i64.wrap (mo + 1) = mo + 1 := IntWalk.i64_in _ (by omega)
  clear hb4
  go_wp2
  go_loopg [8, 18] (mo + 1).toNat (fun g v i wr => ∃ k : Nat, g = (mo + 1).toNat - k ∧ k ≤ (mo + 1).toNat ∧ i = .int .i64 k ∧ Ext W2 wr ∧ Ow encI64 2 wr W2.heap.size v (nearTo ⟨nm, kd, st, sz⟩ x far k))
  case atStart => exact ⟨0, by omega, by omega, rfl, hW, by rw [nearTo_zero]; exact hO⟩
  case round =>
    obtain ⟨k, hg, hk, rfl, hW, hO⟩ := hrel
    have o0 := hW.cell o0
    have o1 := hW.cell o1
    have m0 := hW.cell m0
    have m1 := hW.cell m1
    have m2 := hW.cell m2
    have m3 := hW.cell m3
    have lb2 := World.block_lt_of_cell? _ _ o0
    have lw := World.block_lt_of_cell? _ _ m0
    dsimp only at lb2 lw
    by_cases hkl : k < (mo + 1).toNat
    · have hks : (k : Int) < mo + 1 := by omega
      have henk := fun W => henc k (by omega) (by omega) W
      have hdi : ∀ W, Calls Tryd.prog 64 #[.agg #[.int .u64 (lo (codeF ⟨nm, kd, st, sz⟩ k)), .int .u64 (hi (codeF ⟨nm, kd, st, sz⟩ k))], .agg #[.int .u64 (lo x), .int .u64 (hi x)]] W fun e w' => e = .returned (.int .i64 (dOf ⟨nm, kd, st, sz⟩ x k)) ∧ Ext W w' := fun W => impl_distance _ _ W
      have hhit := fun h => hd (nearTo_hit (f := ⟨nm, kd, st, sz⟩) (p := x) (far := far) (k := k) h)
      have hmiss := fun h => hd (nearTo_miss (f := ⟨nm, kd, st, sz⟩) (p := x) (far := far) (k := k) h)
      have hln := nearTo_len ⟨nm, kd, st, sz⟩ x far k
      generalize codeF ⟨nm, kd, st, sz⟩ k = cm at henk hdi
      generalize dOf ⟨nm, kd, st, sz⟩ x k = dd at hdi hhit hmiss
      by_cases hq : dd ≤ far
      · have hn := hhit hq
        clear hhit hmiss
        go_wp2
        refine wp_region_ext (by kernel_rfl) (by kernel_rfl) ?_
        repeat (first | go_big_quiet_step ((first | (go_at_call 65; with_reducible exact Calls.ext_all (fun W _ => henk W)) | (go_at_call 64; with_reducible exact Calls.ext_all (fun W _ => hdi W)))) | quiet_step ((first | (go_at_call 65; with_reducible exact Calls.ext_all (fun W _ => henk W)) | (go_at_call 64; with_reducible exact Calls.ext_all (fun W _ => hdi W)))))
        refine wpQuiet_nil ?_
        intro w5 hq5
        have hb5 := ext_of_class hq5
        clear hq5
        obtain ⟨hc5, hf5, hz5⟩ := bcell3 hb5
        try simp at hz5
        have hO5 := hO.ext hb5
        have hW5 := hW.trans hb5
        go_wp2_with (at_builtin; refine wpList_push2 (w0 := W2) (base := W2.heap.size) (xs := nearTo ⟨nm, kd, st, sz⟩ x far k) encI64 (by rfl) _ _ 44 (.int .i64 0) 8 (by rfl) Tryd.underlying44 info_i64 (by rfl) ((k : Int)) (by rfl) (by rfl) (by simp) (hO5) ((hW5 : Ext W2 _).size) (Nat.le_refl _) (hW5) (by omega) (by omega) ?_)
        intro v6 w6 hO6 hb6 hg6 _
        go_wp2
        go_roundg ((mo + 1).toNat - (k + 1))
        case rel => exact ⟨k + 1, rfl, hkl, by simp, hb6, by rw [hn.out]; exact hO6⟩
        case measure => omega
      · have hn := hmiss hq
        clear hhit hmiss
        go_wp2
        refine wp_region_ext (by kernel_rfl) (by kernel_rfl) ?_
        repeat (first | go_big_quiet_step ((first | (go_at_call 65; with_reducible exact Calls.ext_all (fun W _ => henk W)) | (go_at_call 64; with_reducible exact Calls.ext_all (fun W _ => hdi W)))) | quiet_step ((first | (go_at_call 65; with_reducible exact Calls.ext_all (fun W _ => henk W)) | (go_at_call 64; with_reducible exact Calls.ext_all (fun W _ => hdi W)))))
        refine wpQuiet_nil ?_
        intro w5 hq5
        have hb5 := ext_of_class hq5
        clear hq5
        obtain ⟨hc5, hf5, hz5⟩ := bcell3 hb5
        try simp at hz5
        go_wp2
        go_roundg ((mo + 1).toNat - (k + 1))
        case rel => exact ⟨k + 1, rfl, hkl, by simp, hW.trans hb5, by rw [hn.out]; exact hO.ext hb5⟩
        case measure => omega
    · obtain rfl : k = (mo + 1).toNat := by omega
      have hks : (((mo + 1).toNat : Nat) : Int) = mo + 1 := by omega
      rw [← hv.out] at hO
      go_wp2
      go_ret
      exact ⟨_, rfl, hO.lower hw.size, hw.trans hW⟩
set_option maxHeartbeats 1000000 in
theorem spec_l04Near (f : Fld) (hf : fldB f = true) (m : Mask) (far : Int) (b o : Nat) (w : World) (hF : FldAt w b o f) :
    Calls Tryd.prog 74 #[.pointer (some ⟨b, o, none⟩), .agg #[.int .u64 (lo m), .int .u64 (hi m)], .int .i64 far] w fun e w' => ∃ v, e = .returned v ∧ Ow encI64 2 w' w.heap.size v (nearL f m far) ∧ Ext w w' := by
  have hx := @ExtOf.cell
  have hlt : b < w.heap.size := World.block_lt_of_cell? w _ hF.1
  have hmo := fun (W : World) (h : FldAt W b o f) => spec_l01Most f hf b o W h
  have hml := mostF_le _ hf
  have hdif := fun (v : Int) (h0 : 0 ≤ v) (h1 : v ≤ mostF f) (p : Mask) (W : World) (h : FldAt W b o f) => spec_l04Differ f hf v h0 h1 p b o W h
  have hpa := fun (W : World) (h : Ext w W) => spec_l01Part f hf b o W (hF.ext h)
  have hv := hd (show nearL f m far = nearTo f (mmeet m (partF f)) far (mostF f + 1).toNat from rfl)
  generalize nearL f m far = nl at hv
  generalize partF f = p at hpa hv
  generalize mostF f = mo at hmo hml hdif hv
  go_enter Tryd.func74, Tryd.ntmps74
  go_wp2_with fail
  refine wp_region_float 4 4 7 _ #[.int .u64 0, .int .u64 0] 33 (by kernel_rfl) (by kernel_rfl) rfl rfl rfl rfl (fun _ _ => by go_simp) (by intro d _ _ _ _ h; cases d <;> exact h) ?_
  simp only [List.take_succ_cons, List.take_zero, List.drop_succ_cons, List.drop_zero]
  repeat (refine wpX_step (fun K hK => ?_); go_simp; first | (refine hK _ ?_; clear hK K) | (apply Exists.intro; refine ⟨fun x => ?_, hK _ ?_⟩; ((first | (go_at_call 56; with_reducible exact hpa _ (Ext.trans ((Ext.refl _).alloc _) (ExtOf.prop _))) | (go_at_call 55; with_reducible exact spec_l01Meet m p _))); clear hK K))
  refine wpX_nil ?_
  intro b2 w2 hb2 hbb2 hcb2
  obtain ⟨hc2, hf2, hz2⟩ := bcell3 hb2
  try simp at hz2
  try simp at hbb2
  have hz2_0 : w.heap.size < w2.heap.size := by omega
  have hn2_0 : ¬ (b2 = w.heap.size) := by omega
  have hbl2 := blk_lt hcb2
  have hbf2 := blk_free hcb2
  have hbc2_0 : w2.cell? ⟨b2, 0, none⟩ = some (.int .u64 0) := blk_cell hcb2 0 rfl
  have hbc2_1 : w2.cell? ⟨b2, 1, none⟩ = some (.int .u64 0) := blk_cell hcb2 1 rfl
  clear hcb2
  generalize mmeet m p = x at hv
  have hw : Ext w ((w2.setCell ⟨b2, 0, none⟩ (.int .u64 (lo x))).setCell ⟨b2, 1, none⟩ (.int .u64 (hi x))) := by ((repeat (first | with_reducible exact Ext.refl _ | with_reducible exact hw | with_reducible exact hb9 | with_reducible exact hb8 | with_reducible exact hb7 | with_reducible exact hb6 | with_reducible exact hb5 | with_reducible exact hb4 | with_reducible exact hb3 | with_reducible exact hb2 | with_reducible exact hb1 | with_reducible refine Ext.alloc ?_ _ | with_reducible refine Ext.drew ?_ | ((with_reducible refine Ext.set ?_ ?_ _); focus (dsimp only; omega)) | with_reducible refine Ext.trans ?_ hb9 | with_reducible refine Ext.trans ?_ hb8 | with_reducible refine Ext.trans ?_ hb7 | with_reducible refine Ext.trans ?_ hb6 | with_reducible refine Ext.trans ?_ hb5 | with_reducible refine Ext.trans ?_ hb4 | with_reducible refine Ext.trans ?_ hb3 | with_reducible refine Ext.trans ?_ hb2 | with_reducible refine Ext.trans ?_ hb1 | with_reducible refine Ext.trans ?_ hw)))
  have o0 : ((w2.setCell ⟨b2, 0, none⟩ (.int .u64 (lo x))).setCell ⟨b2, 1, none⟩ (.int .u64 (hi x))).cell? ⟨b2, 0, none⟩ = some (.int .u64 (lo x)) := by go_simp
  have o1 : ((w2.setCell ⟨b2, 0, none⟩ (.int .u64 (lo x))).setCell ⟨b2, 1, none⟩ (.int .u64 (hi x))).cell? ⟨b2, 1, none⟩ = some (.int .u64 (hi x)) := by go_simp
  have hsz := hd (show w2.heap.size = ((w2.setCell ⟨b2, 0, none⟩ (.int .u64 (lo x))).setCell ⟨b2, 1, none⟩ (.int .u64 (hi x))).heap.size by simp)
  go_wp2
  clear hc2 hf2 hb2 hbf2 hbc2_0 hbc2_1 hz2 hz2_0 hn2_0 hpa
  generalize (w2.setCell ⟨b2, 0, none⟩ (.int .u64 (lo x))).setCell ⟨b2, 1, none⟩ (.int .u64 (hi x)) = W2 at hw o0 o1 hsz
  go_loopg [8, 9] (mo + 1).toNat (fun g v i wr => ∃ k : Nat, g = (mo + 1).toNat - k ∧ k ≤ (mo + 1).toNat ∧ i = .int .i64 k ∧ Ext W2 wr ∧ Ow encI64 2 wr W2.heap.size v (nearTo f x far k))
  case atStart => exact ⟨0, by omega, by omega, rfl, (Ext.refl _).alloc _, by rw [nearTo_zero]; exact Ow.made0 hsz.out (by have := hsz.out; omega)⟩
  case round =>
    obtain ⟨k, hg, hk, rfl, hW, hO⟩ := hrel
    go_wp2_with fail
    refine Calls.mono (hmo _ (hF.ext (hw.trans hW))) ?_
    rintro e w3 ⟨rfl, hb3⟩
    have hW := hW.trans hb3
    have hO := hO.ext hb3
    clear hb3
    have o0 := hW.cell o0
    have o1 := hW.cell o1
    have hF3 := hF.ext (hw.trans hW)
    by_cases hkl : k < (mo + 1).toNat
    · have hks : (k : Int) ≤ mo := by omega
      have hdi : ∀ W, FldAt W b o f → Calls Tryd.prog 58 #[.pointer (some ⟨b, o, none⟩), .int .i64 k, .agg #[.int .u64 (lo x), .int .u64 (hi x)]] W fun e w' => e = .returned (.int .i64 (dOf f x k)) ∧ Ext W w' := fun W h => hdif k (by omega) hks x W h
      have hhit := fun h => hd (nearTo_hit (f := f) (p := x) (far := far) (k := k) h)
      have hmiss := fun h => hd (nearTo_miss (f := f) (p := x) (far := far) (k := k) h)
      have hln := nearTo_len f x far k
      generalize dOf f x k = dd at hdi hhit hmiss
      by_cases hq : dd ≤ far
      · have hn := hhit hq
        clear hhit hmiss
        go_wp2_with fail
        refine Calls.mono (hdi _ hF3) ?_
        rintro e w5 ⟨rfl, hb5⟩
        have hO5 := hO.ext hb5
        have hW5 := hW.trans hb5
        go_wp2_with (at_builtin; refine wpList_push2 (w0 := W2) (base := W2.heap.size) (xs := nearTo f x far k) encI64 (by rfl) _ _ 44 (.int .i64 0) 8 (by rfl) Tryd.underlying44 info_i64 (by rfl) ((k : Int)) (by rfl) (by rfl) (by simp) (hO5) ((hW5 : Ext W2 _).size) (Nat.le_refl _) (hW5) (by omega) (by omega) ?_)
        intro v6 w6 hO6 hb6 hg6 _
        go_wp2
        go_roundg ((mo + 1).toNat - (k + 1))
        case rel => exact ⟨k + 1, rfl, hkl, by simp, hb6, by rw [hn.out]; exact hO6⟩
        case measure => omega
      · have hn := hmiss hq
        clear hhit hmiss
        go_wp2_with fail
        refine Calls.mono (hdi _ hF3) ?_
        rintro e w5 ⟨rfl, hb5⟩
        go_wp2
        go_roundg ((mo + 1).toNat - (k + 1))
        case rel => exact ⟨k + 1, rfl, hkl, by simp, hW.trans hb5, by rw [hn.out]; exact hO.ext hb5⟩
        case measure => omega
    · obtain rfl : k = (mo + 1).toNat := by omega
      have hks : (((mo + 1).toNat : Nat) : Int) = mo + 1 := by omega
      rw [← hv.out] at hO
      go_wp2
      go_ret
      exact ⟨_, rfl, hO.lower hw.size, hw.trans hW⟩
set_option maxHeartbeats 1000000 in
theorem impl_ValuesNear (nm : ByteArray) (kd st sz : Int) (hok : Fld.ok ⟨nm, kd, st, sz⟩) (hnmx : nm.size ≤ 9223372036854775807) (m : Mask) (far : Int) (w : World) :
    Calls Tryd.prog 20 #[.agg #[.string nm, .int .i8 kd, .int .i16 st, .int .i16 sz], .agg #[.int .u64 (lo m), .int .u64 (hi m)], .int .i64 far] w fun e w' => ∃ v, e = .returned (.tuple #[v, .int .i64 (nearF ⟨nm, kd, st, sz⟩ m far).2]) ∧ Ow encI64 2 w' w.heap.size v (nearF ⟨nm, kd, st, sz⟩ m far).1 ∧ Ext w w' := by
  obtain ⟨⟨a0, a1⟩, ⟨a2, a3⟩, a4, a5⟩ := hok
  dsimp only at a0 a1 a2 a3 a4 a5
  have hif := fun W => impl_isField nm kd st sz a0 a1 a2 a3 a4 a5 hnmx W
  cases hf : fldB ⟨nm, kd, st, sz⟩ with
  | false =>
    have hv := hd (show nearF ⟨nm, kd, st, sz⟩ m far = ([], 1) by unfold nearF; rw [hf]; rfl)
    rw [hf] at hif
    go_enter Tryd.func20, Tryd.ntmps20
    go_wp2_with fail
    refine Calls.mono (hif _) ?_
    rintro e w1 ⟨rfl, hb1⟩
    go_wp2
    refine bodyPost_ret (v := .tuple #[.slice none 0 0, .int .i64 1]) (by simp [results, Tryd.results20, go_sem]) rfl ⟨_, by rw [hv.out], by rw [hv.out]; exact Ow.nil _ _ _ _, by ((repeat (first | with_reducible exact Ext.refl _ | with_reducible exact hw | with_reducible exact hb9 | with_reducible exact hb8 | with_reducible exact hb7 | with_reducible exact hb6 | with_reducible exact hb5 | with_reducible exact hb4 | with_reducible exact hb3 | with_reducible exact hb2 | with_reducible exact hb1 | with_reducible refine Ext.alloc ?_ _ | with_reducible refine Ext.drew ?_ | ((with_reducible refine Ext.set ?_ ?_ _); focus (dsimp only; omega)) | with_reducible refine Ext.trans ?_ hb9 | with_reducible refine Ext.trans ?_ hb8 | with_reducible refine Ext.trans ?_ hb7 | with_reducible refine Ext.trans ?_ hb6 | with_reducible refine Ext.trans ?_ hb5 | with_reducible refine Ext.trans ?_ hb4 | with_reducible refine Ext.trans ?_ hb3 | with_reducible refine Ext.trans ?_ hb2 | with_reducible refine Ext.trans ?_ hb1 | with_reducible refine Ext.trans ?_ hw)))⟩
  | true =>
    rw [hf] at hif
    have him := fun W => impl_isMask m W
    cases hm : isMaskB m with
    | false =>
      have hv := hd (show nearF ⟨nm, kd, st, sz⟩ m far = ([], 1) by unfold nearF; rw [hf, hm]; rfl)
      rw [hm] at him
      go_enter Tryd.func20, Tryd.ntmps20
      go_wp2_with fail
      refine Calls.mono (hif _) ?_
      rintro e w1 ⟨rfl, hb1⟩
      obtain ⟨hc1, hf1, hz1⟩ := bcell3 hb1
      try simp at hz1
      have hz1_0 : w.heap.size < w1.heap.size := by omega
      have hz1_1 : w.heap.size + 1 < w1.heap.size := by omega
      go_wp2_with fail
      refine Calls.mono (him _) ?_
      rintro e w2 ⟨rfl, hb2⟩
      go_wp2
      refine bodyPost_ret (v := .tuple #[.slice none 0 0, .int .i64 1]) (by simp [results, Tryd.results20, go_sem]) rfl ⟨_, by rw [hv.out], by rw [hv.out]; exact Ow.nil _ _ _ _, by ((repeat (first | with_reducible exact Ext.refl _ | with_reducible exact hw | with_reducible exact hb9 | with_reducible exact hb8 | with_reducible exact hb7 | with_reducible exact hb6 | with_reducible exact hb5 | with_reducible exact hb4 | with_reducible exact hb3 | with_reducible exact hb2 | with_reducible exact hb1 | with_reducible refine Ext.alloc ?_ _ | with_reducible refine Ext.drew ?_ | ((with_reducible refine Ext.set ?_ ?_ _); focus (dsimp only; omega)) | with_reducible refine Ext.trans ?_ hb9 | with_reducible refine Ext.trans ?_ hb8 | with_reducible refine Ext.trans ?_ hb7 | with_reducible refine Ext.trans ?_ hb6 | with_reducible refine Ext.trans ?_ hb5 | with_reducible refine Ext.trans ?_ hb4 | with_reducible refine Ext.trans ?_ hb3 | with_reducible refine Ext.trans ?_ hb2 | with_reducible refine Ext.trans ?_ hb1 | with_reducible refine Ext.trans ?_ hw)))⟩
    | true =>
      rw [hm] at him
      by_cases hr : 0 ≤ far ∧ far ≤ 2
      · have hv := hd (show nearF ⟨nm, kd, st, sz⟩ m far = (nearL ⟨nm, kd, st, sz⟩ m far, 0) by unfold nearF; rw [hf, hm, show (true && true) = true from rfl, if_pos rfl, if_pos hr])
        obtain ⟨r0, r1⟩ := hr
        have hne := fun W => impl_near nm kd st sz hf m far W
        generalize nearL ⟨nm, kd, st, sz⟩ m far = nl at hv hne
        go_enter Tryd.func20, Tryd.ntmps20
        go_wp2_with fail
        refine Calls.mono (hif _) ?_
        rintro e w1 ⟨rfl, hb1⟩
        obtain ⟨hc1, hf1, hz1⟩ := bcell3 hb1
        try simp at hz1
        have hz1_0 : w.heap.size < w1.heap.size := by omega
        have hz1_1 : w.heap.size + 1 < w1.heap.size := by omega
        go_wp2_with fail
        refine Calls.mono (him _) ?_
        rintro e w2 ⟨rfl, hb2⟩
        obtain ⟨hc2, hf2, hz2⟩ := bcell3 hb2
        try simp at hz2
        have hz2_0 : w.heap.size < w2.heap.size := by omega
        have hz2_1 : w.heap.size + 1 < w2.heap.size := by omega
        have hw : Ext w w2 := by ((repeat (first | with_reducible exact Ext.refl _ | with_reducible exact hw | with_reducible exact hb9 | with_reducible exact hb8 | with_reducible exact hb7 | with_reducible exact hb6 | with_reducible exact hb5 | with_reducible exact hb4 | with_reducible exact hb3 | with_reducible exact hb2 | with_reducible exact hb1 | with_reducible refine Ext.alloc ?_ _ | with_reducible refine Ext.drew ?_ | ((with_reducible refine Ext.set ?_ ?_ _); focus (dsimp only; omega)) | with_reducible refine Ext.trans ?_ hb9 | with_reducible refine Ext.trans ?_ hb8 | with_reducible refine Ext.trans ?_ hb7 | with_reducible refine Ext.trans ?_ hb6 | with_reducible refine Ext.trans ?_ hb5 | with_reducible refine Ext.trans ?_ hb4 | with_reducible refine Ext.trans ?_ hb3 | with_reducible refine Ext.trans ?_ hb2 | with_reducible refine Ext.trans ?_ hb1 | with_reducible refine Ext.trans ?_ hw)))
        go_wp2_with fail
        refine Calls.mono (hne _) ?_
        rintro e w3 ⟨v3, rfl, hO3, hb3⟩
        go_wp2
        refine bodyPost_ret (v := .tuple #[v3, .int .i64 0]) (by simp [results, Tryd.results20, go_sem]) rfl ⟨_, by rw [hv.out], by rw [hv.out]; exact hO3.lower hw.size, hw.trans hb3⟩
      · have hv := hd (show nearF ⟨nm, kd, st, sz⟩ m far = ([], 2) by unfold nearF; rw [hf, hm, show (true && true) = true from rfl, if_pos rfl, if_neg hr])
        by_cases r0 : far < 0
        · clear hr
          go_enter Tryd.func20, Tryd.ntmps20
          go_wp2_with fail
          refine Calls.mono (hif _) ?_
          rintro e w1 ⟨rfl, hb1⟩
          obtain ⟨hc1, hf1, hz1⟩ := bcell3 hb1
          try simp at hz1
          have hz1_0 : w.heap.size < w1.heap.size := by omega
          have hz1_1 : w.heap.size + 1 < w1.heap.size := by omega
          go_wp2_with fail
          refine Calls.mono (him _) ?_
          rintro e w2 ⟨rfl, hb2⟩
          go_wp2
          refine bodyPost_ret (v := .tuple #[.slice none 0 0, .int .i64 2]) (by simp [results, Tryd.results20, go_sem]) rfl ⟨_, by rw [hv.out], by rw [hv.out]; exact Ow.nil _ _ _ _, by ((repeat (first | with_reducible exact Ext.refl _ | with_reducible exact hw | with_reducible exact hb9 | with_reducible exact hb8 | with_reducible exact hb7 | with_reducible exact hb6 | with_reducible exact hb5 | with_reducible exact hb4 | with_reducible exact hb3 | with_reducible exact hb2 | with_reducible exact hb1 | with_reducible refine Ext.alloc ?_ _ | with_reducible refine Ext.drew ?_ | ((with_reducible refine Ext.set ?_ ?_ _); focus (dsimp only; omega)) | with_reducible refine Ext.trans ?_ hb9 | with_reducible refine Ext.trans ?_ hb8 | with_reducible refine Ext.trans ?_ hb7 | with_reducible refine Ext.trans ?_ hb6 | with_reducible refine Ext.trans ?_ hb5 | with_reducible refine Ext.trans ?_ hb4 | with_reducible refine Ext.trans ?_ hb3 | with_reducible refine Ext.trans ?_ hb2 | with_reducible refine Ext.trans ?_ hb1 | with_reducible refine Ext.trans ?_ hw)))⟩
        · have r1 : 2 < far := by omega
          clear hr
          go_enter Tryd.func20, Tryd.ntmps20
          go_wp2_with fail
          refine Calls.mono (hif _) ?_
          rintro e w1 ⟨rfl, hb1⟩
          obtain ⟨hc1, hf1, hz1⟩ := bcell3 hb1
          try simp at hz1
          have hz1_0 : w.heap.size < w1.heap.size := by omega
          have hz1_1 : w.heap.size + 1 < w1.heap.size := by omega
          go_wp2_with fail
          refine Calls.mono (him _) ?_
          rintro e w2 ⟨rfl, hb2⟩
          go_wp2
          refine bodyPost_ret (v := .tuple #[.slice none 0 0, .int .i64 2]) (by simp [results, Tryd.results20, go_sem]) rfl ⟨_, by rw [hv.out], by rw [hv.out]; exact Ow.nil _ _ _ _, by ((repeat (first | with_reducible exact Ext.refl _ | with_reducible exact hw | with_reducible exact hb9 | with_reducible exact hb8 | with_reducible exact hb7 | with_reducible exact hb6 | with_reducible exact hb5 | with_reducible exact hb4 | with_reducible exact hb3 | with_reducible exact hb2 | with_reducible exact hb1 | with_reducible refine Ext.alloc ?_ _ | with_reducible refine Ext.drew ?_ | ((with_reducible refine Ext.set ?_ ?_ _); focus (dsimp only; omega)) | with_reducible refine Ext.trans ?_ hb9 | with_reducible refine Ext.trans ?_ hb8 | with_reducible refine Ext.trans ?_ hb7 | with_reducible refine Ext.trans ?_ hb6 | with_reducible refine Ext.trans ?_ hb5 | with_reducible refine Ext.trans ?_ hb4 | with_reducible refine Ext.trans ?_ hb3 | with_reducible refine Ext.trans ?_ hb2 | with_reducible refine Ext.trans ?_ hb1 | with_reducible refine Ext.trans ?_ hw)))⟩
set_option maxHeartbeats 1000000 in
theorem spec_ValuesNear (nm : ByteArray) (kd st sz : Int) (hok : Fld.ok ⟨nm, kd, st, sz⟩) (hnmx : nm.size ≤ 9223372036854775807) (m : Mask) (far : Int) (w : World) :
    Calls Tryd.prog 19 #[.agg #[.string nm, .int .i8 kd, .int .i16 st, .int .i16 sz], .agg #[.int .u64 (lo m), .int .u64 (hi m)], .int .i64 far] w fun e w' => ∃ v, e = .returned (.tuple #[v, .int .i64 (nearF ⟨nm, kd, st, sz⟩ m far).2]) ∧ Ow encI64 2 w' w.heap.size v (nearF ⟨nm, kd, st, sz⟩ m far).1 ∧ Ext w w' := by
  obtain ⟨⟨a0, a1⟩, ⟨a2, a3⟩, a4, a5⟩ := hok
  dsimp only at a0 a1 a2 a3 a4 a5
  have hA : FldAt ((w.alloc (.cells #[.string nm, .int .i8 kd, .int .i16 st, .int .i16 sz] 31)).alloc (.cells #[.int .u64 (lo m), .int .u64 (hi m)] 33)) w.heap.size 0 ⟨nm, kd, st, sz⟩ := ⟨by go_simp, by go_simp, by go_simp, by go_simp⟩
  have hif := spec_l01Field nm kd st sz w.heap.size 0 a0 a1 a2 a3 a4 a5 hnmx _ hA (by simp <;> omega)
  cases hf : fldB ⟨nm, kd, st, sz⟩ with
  | false =>
    have hv := hd (show nearF ⟨nm, kd, st, sz⟩ m far = ([], 1) by unfold nearF; rw [hf]; rfl)
    rw [hf] at hif
    clear hA
    go_enter Tryd.func19, Tryd.ntmps19
    go_wp2_with fail
    refine Calls.mono (hif) ?_
    rintro e w1 ⟨rfl, hb1⟩
    go_wp2
    refine bodyPost_ret (v := .tuple #[.slice (some ⟨w1.heap.size, 0, none⟩) 0 0, .int .i64 1]) (by simp [results, Tryd.results19, go_sem]) rfl ⟨_, by rw [hv.out], by rw [hv.out]; exact Ow.made0 rfl (by have := hb1.size; simp at this; omega), by ((repeat (first | with_reducible exact Ext.refl _ | with_reducible exact hw | with_reducible exact hb9 | with_reducible exact hb8 | with_reducible exact hb7 | with_reducible exact hb6 | with_reducible exact hb5 | with_reducible exact hb4 | with_reducible exact hb3 | with_reducible exact hb2 | with_reducible exact hb1 | with_reducible refine Ext.alloc ?_ _ | with_reducible refine Ext.drew ?_ | ((with_reducible refine Ext.set ?_ ?_ _); focus (dsimp only; omega)) | with_reducible refine Ext.trans ?_ hb9 | with_reducible refine Ext.trans ?_ hb8 | with_reducible refine Ext.trans ?_ hb7 | with_reducible refine Ext.trans ?_ hb6 | with_reducible refine Ext.trans ?_ hb5 | with_reducible refine Ext.trans ?_ hb4 | with_reducible refine Ext.trans ?_ hb3 | with_reducible refine Ext.trans ?_ hb2 | with_reducible refine Ext.trans ?_ hb1 | with_reducible refine Ext.trans ?_ hw)))⟩
  | true =>
    rw [hf] at hif
    have him := fun W => spec_l01Mask m W
    cases hm : isMaskB m with
    | false =>
      have hv := hd (show nearF ⟨nm, kd, st, sz⟩ m far = ([], 1) by unfold nearF; rw [hf, hm]; rfl)
      rw [hm] at him
      clear hA
      go_enter Tryd.func19, Tryd.ntmps19
      go_wp2_with fail
      refine Calls.mono (hif) ?_
      rintro e w1 ⟨rfl, hb1⟩
      obtain ⟨hc1, hf1, hz1⟩ := bcell3 hb1
      try simp at hz1
      have hz1_0 : w.heap.size < w1.heap.size := by omega
      have hz1_1 : w.heap.size + 1 < w1.heap.size := by omega
      go_wp2_with fail
      refine Calls.mono (him _) ?_
      rintro e w2 ⟨rfl, hb2⟩
      have hw : Ext w w2 := by ((repeat (first | with_reducible exact Ext.refl _ | with_reducible exact hw | with_reducible exact hb9 | with_reducible exact hb8 | with_reducible exact hb7 | with_reducible exact hb6 | with_reducible exact hb5 | with_reducible exact hb4 | with_reducible exact hb3 | with_reducible exact hb2 | with_reducible exact hb1 | with_reducible refine Ext.alloc ?_ _ | with_reducible refine Ext.drew ?_ | ((with_reducible refine Ext.set ?_ ?_ _); focus (dsimp only; omega)) | with_reducible refine Ext.trans ?_ hb9 | with_reducible refine Ext.trans ?_ hb8 | with_reducible refine Ext.trans ?_ hb7 | with_reducible refine Ext.trans ?_ hb6 | with_reducible refine Ext.trans ?_ hb5 | with_reducible refine Ext.trans ?_ hb4 | with_reducible refine Ext.trans ?_ hb3 | with_reducible refine Ext.trans ?_ hb2 | with_reducible refine Ext.trans ?_ hb1 | with_reducible refine Ext.trans ?_ hw)))
      go_wp2
      refine bodyPost_ret (v := .tuple #[.slice (some ⟨w2.heap.size, 0, none⟩) 0 0, .int .i64 1]) (by simp [results, Tryd.results19, go_sem]) rfl ⟨_, by rw [hv.out], by rw [hv.out]; exact Ow.made0 rfl hw.size, hw.alloc _⟩
    | true =>
      rw [hm] at him
      by_cases hr : inB far 0 2 = true
      · have hr2 : 0 ≤ far ∧ far ≤ 2 := by unfold inB at hr; simpa using hr
        have hv := hd (show nearF ⟨nm, kd, st, sz⟩ m far = (nearL ⟨nm, kd, st, sz⟩ m far, 0) by unfold nearF; rw [hf, hm, show (true && true) = true from rfl, if_pos rfl, if_pos hr2])
        have hne := fun (W : World) (h : FldAt W w.heap.size 0 ⟨nm, kd, st, sz⟩) => spec_l04Near ⟨nm, kd, st, sz⟩ hf m far w.heap.size 0 W h
        have hin := fun W => spec_l00In far 0 2 W
        rw [hr] at hin
        clear hr hr2
        generalize nearL ⟨nm, kd, st, sz⟩ m far = nl at hv hne
        go_enter Tryd.func19, Tryd.ntmps19
        go_wp2_with fail
        refine Calls.mono (hif) ?_
        rintro e w1 ⟨rfl, hb1⟩
        obtain ⟨hc1, hf1, hz1⟩ := bcell3 hb1
        try simp at hz1
        have hz1_0 : w.heap.size < w1.heap.size := by omega
        have hz1_1 : w.heap.size + 1 < w1.heap.size := by omega
        have hA := hA.ext hb1
        go_wp2_with fail
        refine Calls.mono (him _) ?_
        rintro e w2 ⟨rfl, hb2⟩
        obtain ⟨hc2, hf2, hz2⟩ := bcell3 hb2
        try simp at hz2
        have hz2_0 : w.heap.size < w2.heap.size := by omega
        have hz2_1 : w.heap.size + 1 < w2.heap.size := by omega
        have hA := hA.ext hb2
        go_wp2_with fail
        refine Calls.mono (hin _) ?_
        rintro e w3 ⟨rfl, hb3⟩
        obtain ⟨hc3, hf3, hz3⟩ := bcell3 hb3
        try simp at hz3
        have hz3_0 : w.heap.size < w3.heap.size := by omega
        have hz3_1 : w.heap.size + 1 < w3.heap.size := by omega
        have hA := hA.ext hb3
        have hw : Ext w w3 := by ((repeat (first | with_reducible exact Ext.refl _ | with_reducible exact hw | with_reducible exact hb9 | with_reducible exact hb8 | with_reducible exact hb7 | with_reducible exact hb6 | with_reducible exact hb5 | with_reducible exact hb4 | with_reducible exact hb3 | with_reducible exact hb2 | with_reducible exact hb1 | with_reducible refine Ext.alloc ?_ _ | with_reducible refine Ext.drew ?_ | ((with_reducible refine Ext.set ?_ ?_ _); focus (dsimp only; omega)) | with_reducible refine Ext.trans ?_ hb9 | with_reducible refine Ext.trans ?_ hb8 | with_reducible refine Ext.trans ?_ hb7 | with_reducible refine Ext.trans ?_ hb6 | with_reducible refine Ext.trans ?_ hb5 | with_reducible refine Ext.trans ?_ hb4 | with_reducible refine Ext.trans ?_ hb3 | with_reducible refine Ext.trans ?_ hb2 | with_reducible refine Ext.trans ?_ hb1 | with_reducible refine Ext.trans ?_ hw)))
        go_wp2_with fail
        refine Calls.mono (hne _ hA) ?_
        rintro e w4 ⟨v4, rfl, hO4, hb4⟩
        go_wp2
        refine bodyPost_ret (v := .tuple #[v4, .int .i64 0]) (by simp [results, Tryd.results19, go_sem]) rfl ⟨_, by rw [hv.out], by rw [hv.out]; exact hO4.lower hw.size, hw.trans hb4⟩
      · have hr2 : ¬ (0 ≤ far ∧ far ≤ 2) := fun h => hr (by unfold inB; simpa using h)
        have hv := hd (show nearF ⟨nm, kd, st, sz⟩ m far = ([], 2) by unfold nearF; rw [hf, hm, show (true && true) = true from rfl, if_pos rfl, if_neg hr2])
        have hin := fun W => spec_l00In far 0 2 W
        rw [show inB far 0 2 = false by simpa using hr] at hin
        clear hr hr2
        go_enter Tryd.func19, Tryd.ntmps19
        go_wp2_with fail
        refine Calls.mono (hif) ?_
        rintro e w1 ⟨rfl, hb1⟩
        obtain ⟨hc1, hf1, hz1⟩ := bcell3 hb1
        try simp at hz1
        have hz1_0 : w.heap.size < w1.heap.size := by omega
        have hz1_1 : w.heap.size + 1 < w1.heap.size := by omega
        go_wp2_with fail
        refine Calls.mono (him _) ?_
        rintro e w2 ⟨rfl, hb2⟩
        obtain ⟨hc2, hf2, hz2⟩ := bcell3 hb2
        try simp at hz2
        have hz2_0 : w.heap.size < w2.heap.size := by omega
        have hz2_1 : w.heap.size + 1 < w2.heap.size := by omega
        go_wp2_with fail
        refine Calls.mono (hin _) ?_
        rintro e w3 ⟨rfl, hb3⟩
        have hw : Ext w w3 := by ((repeat (first | with_reducible exact Ext.refl _ | with_reducible exact hw | with_reducible exact hb9 | with_reducible exact hb8 | with_reducible exact hb7 | with_reducible exact hb6 | with_reducible exact hb5 | with_reducible exact hb4 | with_reducible exact hb3 | with_reducible exact hb2 | with_reducible exact hb1 | with_reducible refine Ext.alloc ?_ _ | with_reducible refine Ext.drew ?_ | ((with_reducible refine Ext.set ?_ ?_ _); focus (dsimp only; omega)) | with_reducible refine Ext.trans ?_ hb9 | with_reducible refine Ext.trans ?_ hb8 | with_reducible refine Ext.trans ?_ hb7 | with_reducible refine Ext.trans ?_ hb6 | with_reducible refine Ext.trans ?_ hb5 | with_reducible refine Ext.trans ?_ hb4 | with_reducible refine Ext.trans ?_ hb3 | with_reducible refine Ext.trans ?_ hb2 | with_reducible refine Ext.trans ?_ hb1 | with_reducible refine Ext.trans ?_ hw)))
        go_wp2
        refine bodyPost_ret (v := .tuple #[.slice (some ⟨w3.heap.size, 0, none⟩) 0 0, .int .i64 2]) (by simp [results, Tryd.results19, go_sem]) rfl ⟨_, by rw [hv.out], by rw [hv.out]; exact Ow.made0 rfl hw.size, hw.alloc _⟩
end Go.Proofs.YtknbebglabpegaaDoor
