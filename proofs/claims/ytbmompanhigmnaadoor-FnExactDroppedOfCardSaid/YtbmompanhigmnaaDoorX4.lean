/-
  Contracts of the functions that make the holes of words, and the part of a mix.
-/
import Derived.Test.YtbmompanhigmnaaDoorX3
set_option linter.unusedVariables false
set_option linter.unusedSimpArgs false
set_option maxRecDepth 100000
namespace Go.Proofs.YtbmompanhigmnaaDoor
open Go.RowKit
def partX (x : Mx) : Mask := rangeM x.st x.sz
set_option maxHeartbeats 1000000 in
theorem impl_holesOf (x : Mx) (hmx : mixB x = true) (ws : List ByteArray) (A : Option Addr) (cap : Nat) (w : World) (hR : Rd encStr w A ws) (hn : ws.length ≤ 1048576) (hok : ∀ x ∈ ws, StrIn x) :
    Calls Tryd.prog 47 #[.agg #[.int .i16 x.st, .int .i16 x.sz, .int .i16 x.per], .slice A ws.length cap] w fun e w' => e = .returned (.agg #[.int .u64 (lo (wallM x ws)), .int .u64 (hi (wallM x ws))]) ∧ Ext w w' := by
  have hx := @ExtOf.cell
  have hwh := fun k (h : k < ws.length) W => impl_wordHoles x hmx ws[k] (hok _ (List.getElem_mem h)) W
  have htk := fun k (h : k < ws.length) => wallM_take x ws k h
  have hz : wallM x (ws.take 0) = 0 := by rw [List.take_zero]; exact wallM_nil x
  have hall : wallM x (ws.take ws.length) = wallM x ws := by rw [List.take_length]
  generalize wallM x ws = r at hall
  obtain ⟨st, sz, per⟩ := x
  dsimp only at hwh
  go_enter Tryd.func47, Tryd.ntmps47
  go_wp2
  go_loopg [11] ws.length (fun g i wr => ∃ k : Nat, ∃ m : Mask, g = ws.length - k ∧ k ≤ ws.length ∧ i = .int .i64 k ∧ Hd (wallM ⟨st, sz, per⟩ (ws.take k) = m) ∧ Ext w wr ∧ BoxAt wr (w.heap.size + 1 + 1) #[.int .u64 (lo m), .int .u64 (hi m)] 53 ∧ BoxAt wr (w.heap.size + 1) #[.int .u64 0, .int .u64 0] 53 ∧ BoxAt wr w.heap.size #[.int .i16 st, .int .i16 sz, .int .i16 per] 30)
  case atStart => exact ⟨0, 0, by omega, by omega, rfl, hd hz, by ((repeat (first | with_reducible exact Ext.refl _ | with_reducible exact hw | with_reducible exact hb9 | with_reducible exact hb8 | with_reducible exact hb7 | with_reducible exact hb6 | with_reducible exact hb5 | with_reducible exact hb4 | with_reducible exact hb3 | with_reducible exact hb2 | with_reducible exact hb1 | with_reducible refine Ext.alloc ?_ _ | with_reducible refine Ext.drew ?_ | ((with_reducible refine Ext.set ?_ ?_ _); focus (dsimp only; omega)) | with_reducible refine Ext.trans ?_ hb9 | with_reducible refine Ext.trans ?_ hb8 | with_reducible refine Ext.trans ?_ hb7 | with_reducible refine Ext.trans ?_ hb6 | with_reducible refine Ext.trans ?_ hb5 | with_reducible refine Ext.trans ?_ hb4 | with_reducible refine Ext.trans ?_ hb3 | with_reducible refine Ext.trans ?_ hb2 | with_reducible refine Ext.trans ?_ hb1 | with_reducible refine Ext.trans ?_ hw))), BoxAt.new' (by simp), (BoxAt.new' (by simp)).alloc _, ((BoxAt.new' rfl).alloc _).alloc _⟩
  case round =>
    obtain ⟨k, m, hg, hk, rfl, hm, hw, hB, hC, hX⟩ := hrel
    have c0 : wr.cell? ⟨w.heap.size + 1 + 1, 0, none⟩ = some (.int .u64 (lo m)) := hB.cell 0
    have c1 : wr.cell? ⟨w.heap.size + 1 + 1, 1, none⟩ = some (.int .u64 (hi m)) := hB.cell 1
    have x0 : wr.cell? ⟨w.heap.size, 0, none⟩ = some (.int .i16 st) := hX.cell 0
    have x1 : wr.cell? ⟨w.heap.size, 1, none⟩ = some (.int .i16 sz) := hX.cell 1
    have x2 : wr.cell? ⟨w.heap.size, 2, none⟩ = some (.int .i16 per) := hX.cell 2
    have lB := hB.lt
    have lX := hX.lt
    by_cases hkl : k < ws.length
    · obtain ⟨b, off, hA, hlt, _⟩ := hR k hkl
      subst hA
      obtain ⟨m0, m1⟩ := (hR.ext hw).strs k hkl
      have hcall := hwh k hkl
      have hnext := hd (htk k hkl)
      generalize wholes ⟨st, sz, per⟩ ws[k] = q at hcall hnext
      clear hwh htk
      go_wp2
      refine wp_region_ext_tail 5 5 (by kernel_rfl) (by kernel_rfl) (by intro d _ _ _ _ h; cases d <;> exact h) ?_
      simp only [List.take_succ_cons, List.take_zero, List.drop_succ_cons, List.drop_zero]
      repeat (first | go_big_quiet_step ((first | (go_at_call 79; with_reducible exact Calls.ext_all (fun W _ => hcall W)) | (go_at_call 78; with_reducible exact Calls.ext_all (fun W _ => impl_JoinMasks m q W)))) | quiet_step ((first | (go_at_call 79; with_reducible exact Calls.ext_all (fun W _ => hcall W)) | (go_at_call 78; with_reducible exact Calls.ext_all (fun W _ => impl_JoinMasks m q W)))))
      refine wpQuiet_nil ?_
      intro w2 hq2
      have hb2 := ext_of_class hq2
      clear hq2
      obtain ⟨hc2, hf2, hz2⟩ := bcell3 hb2
      try simp at hz2
      have hB := hB.ext hb2
      have hC := hC.ext hb2
      have hX := hX.ext hb2
      have f0 := hB.frozen 0
      have f1 := hB.frozen 1
      have d0 : w2.cell? ⟨w.heap.size + 1 + 1, 0, none⟩ = some (.int .u64 (lo m)) := hB.cell 0
      have d1 : w2.cell? ⟨w.heap.size + 1 + 1, 1, none⟩ = some (.int .u64 (hi m)) := hB.cell 1
      have lB := hB.lt
      clear hc2 hf2 hz2
      go_wp2
      go_roundg (ws.length - (k + 1))
      case rel => exact ⟨k + 1, mjoin m q, rfl, hkl, rfl, hd (by rw [hnext.out, hm.out]), by ((repeat (first | with_reducible exact Ext.refl _ | with_reducible exact hw | with_reducible exact hb9 | with_reducible exact hb8 | with_reducible exact hb7 | with_reducible exact hb6 | with_reducible exact hb5 | with_reducible exact hb4 | with_reducible exact hb3 | with_reducible exact hb2 | with_reducible exact hb1 | with_reducible refine Ext.alloc ?_ _ | with_reducible refine Ext.drew ?_ | ((with_reducible refine Ext.set ?_ ?_ _); focus (dsimp only; omega)) | with_reducible refine Ext.trans ?_ hb9 | with_reducible refine Ext.trans ?_ hb8 | with_reducible refine Ext.trans ?_ hb7 | with_reducible refine Ext.trans ?_ hb6 | with_reducible refine Ext.trans ?_ hb5 | with_reducible refine Ext.trans ?_ hb4 | with_reducible refine Ext.trans ?_ hb3 | with_reducible refine Ext.trans ?_ hb2 | with_reducible refine Ext.trans ?_ hb1 | with_reducible refine Ext.trans ?_ hw))), (hB.set 0 _).set 1 _, (hC.setOther (by simp) _).setOther (by simp) _, (hX.setOther (by simp; omega) _).setOther (by simp; omega) _⟩
      case measure => omega
    · obtain rfl : k = ws.length := by omega
      have hv := hm.out.symm.trans hall
      subst hv
      have z0 := hC.frozen 0
      have z1 := hC.frozen 1
      have y0 : wr.cell? ⟨w.heap.size + 1, 0, none⟩ = some (.int .u64 0) := hC.cell 0
      have y1 : wr.cell? ⟨w.heap.size + 1, 1, none⟩ = some (.int .u64 0) := hC.cell 1
      have lC := hC.lt
      go_wp2
      refine bodyPost_ret (v := .agg #[.int .u64 (lo m), .int .u64 (hi m)]) (by simp [results, Tryd.results47, go_sem, c0, c1, y0, y1, lC, lB]) rfl ⟨rfl, ?_⟩
      (repeat (first | with_reducible exact Ext.refl _ | with_reducible exact hw | with_reducible exact hb9 | with_reducible exact hb8 | with_reducible exact hb7 | with_reducible exact hb6 | with_reducible exact hb5 | with_reducible exact hb4 | with_reducible exact hb3 | with_reducible exact hb2 | with_reducible exact hb1 | with_reducible refine Ext.alloc ?_ _ | with_reducible refine Ext.drew ?_ | ((with_reducible refine Ext.set ?_ ?_ _); focus (dsimp only; omega)) | with_reducible refine Ext.trans ?_ hb9 | with_reducible refine Ext.trans ?_ hb8 | with_reducible refine Ext.trans ?_ hb7 | with_reducible refine Ext.trans ?_ hb6 | with_reducible refine Ext.trans ?_ hb5 | with_reducible refine Ext.trans ?_ hb4 | with_reducible refine Ext.trans ?_ hb3 | with_reducible refine Ext.trans ?_ hb2 | with_reducible refine Ext.trans ?_ hb1 | with_reducible refine Ext.trans ?_ hw))
set_option maxHeartbeats 1000000 in
theorem spec_l03All (x : Mx) (hmx : mixB x = true) (ws : List ByteArray) (A : Option Addr) (cap : Nat) (b0 o0 : Nat) (w : World) (hM : MixAt w b0 o0 x) (hR : Rd encStr w A ws) (hn : ws.length ≤ 1048576) (hok : ∀ x ∈ ws, StrIn x) :
    Calls Tryd.prog 51 #[.pointer (some ⟨b0, o0, none⟩), .slice A ws.length cap] w fun e w' => e = .returned (.agg #[.int .u64 (lo (wallM x ws)), .int .u64 (hi (wallM x ws))]) ∧ Ext w w' := by
  have hx := @ExtOf.cell
  have hwh := fun k (h : k < ws.length) (W : World) (hE : Ext w W) => spec_l03Holes x hmx ws[k] (hok _ (List.getElem_mem h)) b0 o0 W (hM.ext hE)
  have htk := fun k (h : k < ws.length) => wallM_take x ws k h
  have hz : wallM x (ws.take 0) = 0 := by rw [List.take_zero]; exact wallM_nil x
  have hall : wallM x (ws.take ws.length) = wallM x ws := by rw [List.take_length]
  generalize wallM x ws = r at hall
  go_enter Tryd.func51, Tryd.ntmps51
  go_wp2
  go_loopg [6] ws.length (fun g i wr => ∃ k : Nat, ∃ m : Mask, g = ws.length - k ∧ k ≤ ws.length ∧ i = .int .i64 k ∧ Hd (wallM x (ws.take k) = m) ∧ Ext w wr ∧ BoxAt wr (w.heap.size + 1) #[.int .u64 (lo m), .int .u64 (hi m)] 53 ∧ BoxAt wr w.heap.size #[.int .u64 0, .int .u64 0] 53)
  case atStart => exact ⟨0, 0, by omega, by omega, rfl, hd hz, by ((repeat (first | with_reducible exact Ext.refl _ | with_reducible exact hw | with_reducible exact hb9 | with_reducible exact hb8 | with_reducible exact hb7 | with_reducible exact hb6 | with_reducible exact hb5 | with_reducible exact hb4 | with_reducible exact hb3 | with_reducible exact hb2 | with_reducible exact hb1 | with_reducible refine Ext.alloc ?_ _ | with_reducible refine Ext.drew ?_ | ((with_reducible refine Ext.set ?_ ?_ _); focus (dsimp only; omega)) | with_reducible refine Ext.trans ?_ hb9 | with_reducible refine Ext.trans ?_ hb8 | with_reducible refine Ext.trans ?_ hb7 | with_reducible refine Ext.trans ?_ hb6 | with_reducible refine Ext.trans ?_ hb5 | with_reducible refine Ext.trans ?_ hb4 | with_reducible refine Ext.trans ?_ hb3 | with_reducible refine Ext.trans ?_ hb2 | with_reducible refine Ext.trans ?_ hb1 | with_reducible refine Ext.trans ?_ hw))), BoxAt.new' (by simp), (BoxAt.new' rfl).alloc _⟩
  case round =>
    obtain ⟨k, m, hg, hk, rfl, hm, hw, hB, hC⟩ := hrel
    have c0 : wr.cell? ⟨w.heap.size + 1, 0, none⟩ = some (.int .u64 (lo m)) := hB.cell 0
    have c1 : wr.cell? ⟨w.heap.size + 1, 1, none⟩ = some (.int .u64 (hi m)) := hB.cell 1
    have lB := hB.lt
    by_cases hkl : k < ws.length
    · obtain ⟨b, off, hA, hlt, _⟩ := hR k hkl
      subst hA
      obtain ⟨m0, m1⟩ := (hR.ext hw).strs k hkl
      have hcall := hwh k hkl
      have hnext := hd (htk k hkl)
      generalize wholes x ws[k] = q at hcall hnext
      clear hwh htk
      go_wp2
      refine wp_region_ext_tail 8 8 (by kernel_rfl) (by kernel_rfl) (by intro d _ _ _ _ h; cases d <;> exact h) ?_
      simp only [List.take_succ_cons, List.take_zero, List.drop_succ_cons, List.drop_zero]
      repeat (first | go_big_quiet_step ((first | (go_at_call 82; with_reducible exact Calls.ext_all (fun W hE => hcall W (hw.trans hE))) | (go_at_call 60; with_reducible exact Calls.ext_all (fun W _ => spec_JoinMasks m q W)))) | quiet_step ((first | (go_at_call 82; with_reducible exact Calls.ext_all (fun W hE => hcall W (hw.trans hE))) | (go_at_call 60; with_reducible exact Calls.ext_all (fun W _ => spec_JoinMasks m q W)))))
      refine wpQuiet_nil ?_
      intro w2 hq2
      have hb2 := ext_of_class hq2
      clear hq2
      obtain ⟨hc2, hf2, hz2⟩ := bcell3 hb2
      try simp at hz2
      have hB := hB.ext hb2
      have hC := hC.ext hb2
      have f0 := hB.frozen 0
      have f1 := hB.frozen 1
      have d0 : w2.cell? ⟨w.heap.size + 1, 0, none⟩ = some (.int .u64 (lo m)) := hB.cell 0
      have d1 : w2.cell? ⟨w.heap.size + 1, 1, none⟩ = some (.int .u64 (hi m)) := hB.cell 1
      have lB := hB.lt
      clear hc2 hf2 hz2
      go_wp2
      go_roundg (ws.length - (k + 1))
      case rel => exact ⟨k + 1, mjoin m q, rfl, hkl, rfl, hd (by rw [hnext.out, hm.out]), by ((repeat (first | with_reducible exact Ext.refl _ | with_reducible exact hw | with_reducible exact hb9 | with_reducible exact hb8 | with_reducible exact hb7 | with_reducible exact hb6 | with_reducible exact hb5 | with_reducible exact hb4 | with_reducible exact hb3 | with_reducible exact hb2 | with_reducible exact hb1 | with_reducible refine Ext.alloc ?_ _ | with_reducible refine Ext.drew ?_ | ((with_reducible refine Ext.set ?_ ?_ _); focus (dsimp only; omega)) | with_reducible refine Ext.trans ?_ hb9 | with_reducible refine Ext.trans ?_ hb8 | with_reducible refine Ext.trans ?_ hb7 | with_reducible refine Ext.trans ?_ hb6 | with_reducible refine Ext.trans ?_ hb5 | with_reducible refine Ext.trans ?_ hb4 | with_reducible refine Ext.trans ?_ hb3 | with_reducible refine Ext.trans ?_ hb2 | with_reducible refine Ext.trans ?_ hb1 | with_reducible refine Ext.trans ?_ hw))), (hB.set 0 _).set 1 _, (hC.setOther (by simp) _).setOther (by simp) _⟩
      case measure => omega
    · obtain rfl : k = ws.length := by omega
      have hv := hm.out.symm.trans hall
      subst hv
      have z0 := hC.frozen 0
      have z1 := hC.frozen 1
      have y0 : wr.cell? ⟨w.heap.size, 0, none⟩ = some (.int .u64 0) := hC.cell 0
      have y1 : wr.cell? ⟨w.heap.size, 1, none⟩ = some (.int .u64 0) := hC.cell 1
      have lC := hC.lt
      go_wp2
      refine bodyPost_ret (v := .agg #[.int .u64 (lo m), .int .u64 (hi m)]) (by simp [results, Tryd.results51, go_sem, c0, c1, y0, y1, lC, lB]) rfl ⟨rfl, ?_⟩
      (repeat (first | with_reducible exact Ext.refl _ | with_reducible exact hw | with_reducible exact hb9 | with_reducible exact hb8 | with_reducible exact hb7 | with_reducible exact hb6 | with_reducible exact hb5 | with_reducible exact hb4 | with_reducible exact hb3 | with_reducible exact hb2 | with_reducible exact hb1 | with_reducible refine Ext.alloc ?_ _ | with_reducible refine Ext.drew ?_ | ((with_reducible refine Ext.set ?_ ?_ _); focus (dsimp only; omega)) | with_reducible refine Ext.trans ?_ hb9 | with_reducible refine Ext.trans ?_ hb8 | with_reducible refine Ext.trans ?_ hb7 | with_reducible refine Ext.trans ?_ hb6 | with_reducible refine Ext.trans ?_ hb5 | with_reducible refine Ext.trans ?_ hb4 | with_reducible refine Ext.trans ?_ hb3 | with_reducible refine Ext.trans ?_ hb2 | with_reducible refine Ext.trans ?_ hb1 | with_reducible refine Ext.trans ?_ hw))
set_option maxHeartbeats 400000 in
theorem impl_part (x : Mx) (hmx : mixB x = true) (w : World) :
    Calls Tryd.prog 64 #[.agg #[.int .i16 x.st, .int .i16 x.sz, .int .i16 x.per]] w fun e w' => e = .returned (.agg #[.int .u64 (lo (partX x)), .int .u64 (hi (partX x))]) ∧ Ext w w' := by
  obtain ⟨b1, b2, b3, b4, b5, b6, b7⟩ := (mixB_iff x).1 hmx
  have hrm := fun W => impl_rangeMask x.st x.sz b6 (by omega) (by omega) W
  rw [show rangeM x.st x.sz = partX x from rfl] at hrm
  have wr1 : IntKind.i64.wrap x.st = x.st := IntWalk.i64_in _ (by omega)
  have wr2 : IntKind.i64.wrap x.sz = x.sz := IntWalk.i64_in _ (by omega)
  generalize partX x = r at hrm
  obtain ⟨st, sz, per⟩ := x
  dsimp only at hrm wr1 wr2 b1 b2 b3 b4 b5 b6 b7
  go_enter Tryd.func64, Tryd.ntmps64
  go_wp2_with fail
  refine Calls.mono (hrm _) ?_
  rintro e w1 ⟨rfl, hb1⟩
  have hC : BoxAt w1 (w.heap.size + 1) #[.int .u64 0, .int .u64 0] 53 := (BoxAt.new' (by simp)).ext hb1
  have z0 := hC.frozen 0
  have z1 := hC.frozen 1
  have y0 : w1.cell? ⟨w.heap.size + 1, 0, none⟩ = some (.int .u64 0) := hC.cell 0
  have y1 : w1.cell? ⟨w.heap.size + 1, 1, none⟩ = some (.int .u64 0) := hC.cell 1
  have lC := hC.lt
  go_wp2
  refine bodyPost_ret (v := .agg #[.int .u64 (lo r), .int .u64 (hi r)]) (by simp [results, Tryd.results64, go_sem, y0, y1, lC]) rfl ⟨rfl, ?_⟩
  (repeat (first | with_reducible exact Ext.refl _ | with_reducible exact hw | with_reducible exact hb9 | with_reducible exact hb8 | with_reducible exact hb7 | with_reducible exact hb6 | with_reducible exact hb5 | with_reducible exact hb4 | with_reducible exact hb3 | with_reducible exact hb2 | with_reducible exact hb1 | with_reducible refine Ext.alloc ?_ _ | with_reducible refine Ext.drew ?_ | ((with_reducible refine Ext.set ?_ ?_ _); focus (dsimp only; omega)) | with_reducible refine Ext.trans ?_ hb9 | with_reducible refine Ext.trans ?_ hb8 | with_reducible refine Ext.trans ?_ hb7 | with_reducible refine Ext.trans ?_ hb6 | with_reducible refine Ext.trans ?_ hb5 | with_reducible refine Ext.trans ?_ hb4 | with_reducible refine Ext.trans ?_ hb3 | with_reducible refine Ext.trans ?_ hb2 | with_reducible refine Ext.trans ?_ hb1 | with_reducible refine Ext.trans ?_ hw))
set_option maxHeartbeats 1000000 in
theorem spec_l03Part (x : Mx) (hmx : mixB x = true) (b o : Nat) (w : World) (hA : MixAt w b o x) :
    Calls Tryd.prog 86 #[.pointer (some ⟨b, o, none⟩)] w fun e w' => e = .returned (.agg #[.int .u64 (lo (partX x)), .int .u64 (hi (partX x))]) ∧ Ext w w' := by
  obtain ⟨b1, b2, b3, b4, b5, b6, b7⟩ := (mixB_iff x).1 hmx
  have wr1 : IntKind.i64.wrap x.st = x.st := IntWalk.i64_in _ (by omega)
  have wr2 : IntKind.i64.wrap x.sz = x.sz := IntWalk.i64_in _ (by omega)
  have hr : partX x = orTo (fun k => mbit (x.st + k)) x.sz.toNat := rfl
  rw [hr]
  clear hr
  obtain ⟨st, sz, per⟩ := x
  dsimp only at wr1 wr2 b1 b2 b3 b4 b5 b6 b7 ⊢
  have hlA := hA.lt
  go_enter Tryd.func86, Tryd.ntmps86
  go_wp2
  go_loopg [4] sz.toNat (fun g i wr => ∃ k : Nat, g = sz.toNat - k ∧ k ≤ sz.toNat ∧ i = .int .i64 k ∧ Ext w wr ∧ BoxAt wr (w.heap.size + 1) #[.int .u64 (lo (orTo (fun k => mbit (st + k)) k)), .int .u64 (hi (orTo (fun k => mbit (st + k)) k))] 53 ∧ BoxAt wr w.heap.size #[.int .u64 0, .int .u64 0] 53)
  case atStart => exact ⟨0, by omega, by omega, rfl, by ((repeat (first | with_reducible exact Ext.refl _ | with_reducible exact hw | with_reducible exact hb9 | with_reducible exact hb8 | with_reducible exact hb7 | with_reducible exact hb6 | with_reducible exact hb5 | with_reducible exact hb4 | with_reducible exact hb3 | with_reducible exact hb2 | with_reducible exact hb1 | with_reducible refine Ext.alloc ?_ _ | with_reducible refine Ext.drew ?_ | ((with_reducible refine Ext.set ?_ ?_ _); focus (dsimp only; omega)) | with_reducible refine Ext.trans ?_ hb9 | with_reducible refine Ext.trans ?_ hb8 | with_reducible refine Ext.trans ?_ hb7 | with_reducible refine Ext.trans ?_ hb6 | with_reducible refine Ext.trans ?_ hb5 | with_reducible refine Ext.trans ?_ hb4 | with_reducible refine Ext.trans ?_ hb3 | with_reducible refine Ext.trans ?_ hb2 | with_reducible refine Ext.trans ?_ hb1 | with_reducible refine Ext.trans ?_ hw))), by rw [show orTo (fun k => mbit (st + k)) 0 = 0 from rfl, lo_zero, hi_zero]; exact BoxAt.new' (by simp), (BoxAt.new' rfl).alloc _⟩
  case round =>
    obtain ⟨k, hg, hk, rfl, hw, hB, hC⟩ := hrel
    obtain ⟨x0, x1, x2⟩ := hA.ext hw
    dsimp only at x0 x1 x2
    have lX := Nat.lt_of_lt_of_le hlA hw.size
    have c0 := hB.cell 0
    have c1 := hB.cell 1
    have lB := hB.lt
    by_cases hkl : k < sz.toNat
    · have hks : ((k : Int) < sz) = True := eq_true (by omega)
      have wr3 : IntKind.i64.wrap (st + k) = st + k := IntWalk.i64_in _ (by omega)
      have hsu := hd (orTo_succ (fun k => mbit (st + k)) k)
      generalize orTo (fun k => mbit (st + k)) k = m at hB c0 c1 hsu
      go_wp2_with fail
      refine Calls.mono (spec_l03Put m (st + k) (by omega) (by omega) _ _ hB) ?_
      rintro e w4 ⟨rfl, hB4, hg4⟩
      have hC4 : BoxAt w4 w.heap.size #[.int .u64 0, .int .u64 0] 53 := (hg4.block _ hC.lt (by intro e; simp only [Option.some.injEq] at e; omega)).trans hC
      go_wp2
      go_roundg (sz.toNat - (k + 1))
      case rel => exact ⟨k + 1, rfl, hkl, by simp, hw.trans' hg4 (fun k hk => by simp only [Option.some.injEq] at hk; omega), by rw [hsu.out]; exact hB4, hC4⟩
      case measure => omega
    · obtain rfl : k = sz.toNat := by omega
      have hks : (((sz.toNat : Nat) : Int) < sz) = False := eq_false (by omega)
      have z0 := hC.frozen 0
      have z1 := hC.frozen 1
      have y0 : wr.cell? ⟨w.heap.size, 0, none⟩ = some (.int .u64 0) := hC.cell 0
      have y1 : wr.cell? ⟨w.heap.size, 1, none⟩ = some (.int .u64 0) := hC.cell 1
      have lC := hC.lt
      go_wp2
      refine bodyPost_ret (v := .agg #[.int .u64 (lo (orTo (fun k => mbit (st + k)) sz.toNat)), .int .u64 (hi (orTo (fun k => mbit (st + k)) sz.toNat))]) (by simp [results, Tryd.results86, go_sem, y0, y1, lC, lB]) rfl ⟨rfl, ?_⟩
      (repeat (first | with_reducible exact Ext.refl _ | with_reducible exact hw | with_reducible exact hb9 | with_reducible exact hb8 | with_reducible exact hb7 | with_reducible exact hb6 | with_reducible exact hb5 | with_reducible exact hb4 | with_reducible exact hb3 | with_reducible exact hb2 | with_reducible exact hb1 | with_reducible refine Ext.alloc ?_ _ | with_reducible refine Ext.drew ?_ | ((with_reducible refine Ext.set ?_ ?_ _); focus (dsimp only; omega)) | with_reducible refine Ext.trans ?_ hb9 | with_reducible refine Ext.trans ?_ hb8 | with_reducible refine Ext.trans ?_ hb7 | with_reducible refine Ext.trans ?_ hb6 | with_reducible refine Ext.trans ?_ hb5 | with_reducible refine Ext.trans ?_ hb4 | with_reducible refine Ext.trans ?_ hb3 | with_reducible refine Ext.trans ?_ hb2 | with_reducible refine Ext.trans ?_ hb1 | with_reducible refine Ext.trans ?_ hw))
end Go.Proofs.YtbmompanhigmnaaDoor
