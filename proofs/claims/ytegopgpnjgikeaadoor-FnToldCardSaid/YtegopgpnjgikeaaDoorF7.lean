/-
  Contract of the program's function that makes the mask of a value of a field.
-/
import Derived.Test.YtegopgpnjgikeaaDoorF6
import Derived.Test.YtegopgpnjgikeaaDoorF6D
import Derived.Test.YtegopgpnjgikeaaDoorC3
set_option linter.unusedVariables false
set_option linter.unusedSimpArgs false
set_option maxRecDepth 100000
namespace Go.Proofs.YtegopgpnjgikeaaDoor
open Go.RowKit
theorem notch_odd (m : Mask) (st sz v : Int) (k : Nat) : (v / 2 ^ (sz - 1 - k).toNat % 2 == 1) = decide (v / 2 ^ (sz - 1 - k).toNat % 2 = 1) := by
  rw [Bool.eq_iff_iff]; simp
theorem digStep {g : Nat → Mask} {q T : Mask} {k : Nat} (h : mjoin q (orTo g (k + 1)) = T) : mjoin (mjoin q (g k)) (orTo g k) = T := by
  rw [← h, orTo_succ, mjoin_assoc, mjoin_comm (g k)]
theorem digAt_next {sz v x : Int} {j : Nat} (h : x = v / 10 ^ j) (hj : (j : Int) < sz) : digAt sz v (sz.toNat - 1 - j) = x % 10 := by
  unfold digAt
  rw [h, show (sz - 1 - ((sz.toNat - 1 - j : Nat) : Int)).toNat = j by omega]
theorem mwith_mapTake (q : Mask) (L : List Int) (a : Int) (k : Nat) (hk : k < L.length) : mwith q ((L.map (a + ·)).take (k + 1)) = mjoin (mwith q ((L.map (a + ·)).take k)) (mbit (a + L[k])) := by
  rw [mwith_take _ _ k (by rw [List.length_map]; exact hk), List.getElem_map]
theorem map_takeAll (L : List Int) (a : Int) : (L.map (a + ·)).take L.length = L.map (a + ·) := List.take_of_length_le (by rw [List.length_map]; exact Nat.le_refl _)
theorem dig_div {v x : Int} {j : Nat} (h : x = v / 10 ^ j) : x / 10 = v / 10 ^ (j + 1) := by
  rw [h, Int.pow_succ, Int.ediv_ediv_of_nonneg (Int.le_of_lt (Int.pow_pos (by omega)))]
set_option maxHeartbeats 2000000 in
theorem impl_encode (nm : ByteArray) (kd st sz v : Int) (hf : fldB ⟨nm, kd, st, sz⟩ = true) (v0 : 0 ≤ v) (v1 : v ≤ mostF ⟨nm, kd, st, sz⟩) (w : World) :
    Calls Tryd.prog 70 #[.agg #[.string nm, .int .i8 kd, .int .i16 st, .int .i16 sz], .int .i64 v] w fun e w' => e = .returned (.agg #[.int .u64 (lo (codeF ⟨nm, kd, st, sz⟩ v)), .int .u64 (hi (codeF ⟨nm, kd, st, sz⟩ v))]) ∧ Ext w w' := by
  have hm9 := (mostF_le _ hf).2
  obtain ⟨_, k0, k3, s0, z0, z1, z2⟩ := fldB_parts hf
  dsimp only at k0 k3 s0 z0 z1 z2
  have hx := @ExtOf.cell
  have wst : IntKind.i64.wrap st = st := IntWalk.i64_in _ (by have := (manyF_bd kd sz z0 (by unfold mostSz at z1; split at z1 <;> (first | omega | (split at z1 <;> omega)))).1; omega)
  have wsz : IntKind.i64.wrap sz = sz := IntWalk.i64_in _ (by unfold mostSz at z1; split at z1 <;> (first | omega | (split at z1 <;> omega)))
  rcases (show kd = 0 ∨ kd = 3 ∨ kd = 1 ∨ kd = 2 by omega) with rfl | rfl | rfl | rfl
  · have hv := hd (show codeF ⟨nm, 0, st, sz⟩ v = mwith 0 [st + v] by rw [mwith_one, zero_mjoin]; rfl)
    have v2 : v ≤ sz - 1 := v1
    rw [manyF0 sz (by decide) (by decide) (by decide)] at z2
    have hz : sz ≤ 24 := z1
    rw [hv.out]
    clear hv
    go_enter Tryd.func70, Tryd.ntmps70
    go_wp2
    refine wp_region_ext (by kernel_rfl) (by kernel_rfl) ?_
    repeat (first | go_big_quiet_step (fail) | quiet_step (fail))
    refine wpQuiet_nil ?_
    intro w2 hq2
    have hb2 := ext_of_class hq2
    clear hq2
    obtain ⟨hc2, hf2, hz2⟩ := bcell3 hb2
    try simp at hz2
    have hz2_0 : w.heap.size < w2.heap.size := by omega
    have hz2_1 : w.heap.size + 1 < w2.heap.size := by omega
    have hz2_2 : w.heap.size + 1 + 1 < w2.heap.size := by omega
    go_wp2_with fail
    refine Calls.mono (impl_with0 [st + v] _ 1 _ (Rd.lit encI64 _ [st + v] _ _ (by simp) rfl) (by simp) (by simp; omega)) ?_
    rintro e w3 ⟨rfl, hb3⟩
    have bC : BoxAt w3 (w.heap.size + 1) #[.int .u64 0, .int .u64 0] 33 := ((((BoxAt.new' (by simp)).alloc _).ext hb2).alloc _).ext hb3
    have x0 : w3.cell? ⟨w.heap.size + 1, 0, none⟩ = some (.int .u64 0) := bC.cell 0
    have x1 : w3.cell? ⟨w.heap.size + 1, 1, none⟩ = some (.int .u64 0) := bC.cell 1
    have g0 := bC.frozen 0
    have g1 := bC.frozen 1
    have l3 := bC.lt
    have hw3 : Ext w w3 := by ((repeat (first | with_reducible exact Ext.refl _ | with_reducible exact hw | with_reducible exact hb9 | with_reducible exact hb8 | with_reducible exact hb7 | with_reducible exact hb6 | with_reducible exact hb5 | with_reducible exact hb4 | with_reducible exact hb3 | with_reducible exact hb2 | with_reducible exact hb1 | with_reducible refine Ext.alloc ?_ _ | with_reducible refine Ext.drew ?_ | ((with_reducible refine Ext.set ?_ ?_ _); focus (dsimp only; omega)) | with_reducible refine Ext.trans ?_ hb9 | with_reducible refine Ext.trans ?_ hb8 | with_reducible refine Ext.trans ?_ hb7 | with_reducible refine Ext.trans ?_ hb6 | with_reducible refine Ext.trans ?_ hb5 | with_reducible refine Ext.trans ?_ hb4 | with_reducible refine Ext.trans ?_ hb3 | with_reducible refine Ext.trans ?_ hb2 | with_reducible refine Ext.trans ?_ hb1 | with_reducible refine Ext.trans ?_ hw)))
    clear hc2 hf2 hb2 hb3
    go_wp2
    refine bodyPost_ret (v := .agg #[.int .u64 (lo (mwith 0 [st + v])), .int .u64 (hi (mwith 0 [st + v]))]) (by simp [results, Tryd.results70, go_sem, x0, x1]) rfl ⟨rfl, ?_⟩
    exact (hw3.setCell (by simp) _).setCell (by simp) _
  · have h12 : sz ≤ 12 := z1
    rw [manyF3] at z2
    have hm9b : v ≤ 9999 := by omega
    clear v1
    have hv := hd (show codeF ⟨nm, 3, st, sz⟩ v = binF st sz v from rfl)
    rw [hv.out]
    clear hv
    go_enter Tryd.func70, Tryd.ntmps70
    go_wp2
    refine wp_region_ext (by kernel_rfl) (by kernel_rfl) ?_
    repeat (first | go_big_quiet_step (fail) | quiet_step (fail))
    refine wpQuiet_nil ?_
    intro w2 hq2
    have hb2 := ext_of_class hq2
    clear hq2
    obtain ⟨hc2, hf2, hz2⟩ := bcell3 hb2
    try simp at hz2
    have hz2_0 : w.heap.size < w2.heap.size := by omega
    have hz2_1 : w.heap.size + 1 < w2.heap.size := by omega
    have hz2_2 : w.heap.size + 1 + 1 < w2.heap.size := by omega
    have bC : BoxAt w2 (w.heap.size + 1) #[.int .u64 0, .int .u64 0] 33 := ((BoxAt.new' (by simp)).alloc _).ext hb2
    have bB : BoxAt w2 (w.heap.size + 1 + 1) #[.int .u64 0, .int .u64 0] 33 := (BoxAt.new' (by simp)).ext hb2
    have bF : BoxAt w2 w.heap.size #[.string nm, .int .i8 3, .int .i16 st, .int .i16 sz] 48 := (((BoxAt.new' rfl).alloc _).alloc _).ext hb2
    have m1 := bF.cell 1
    have l2 := bF.lt
    have hw2 : Ext w w2 := by ((repeat (first | with_reducible exact Ext.refl _ | with_reducible exact hw | with_reducible exact hb9 | with_reducible exact hb8 | with_reducible exact hb7 | with_reducible exact hb6 | with_reducible exact hb5 | with_reducible exact hb4 | with_reducible exact hb3 | with_reducible exact hb2 | with_reducible exact hb1 | with_reducible refine Ext.alloc ?_ _ | with_reducible refine Ext.drew ?_ | ((with_reducible refine Ext.set ?_ ?_ _); focus (dsimp only; omega)) | with_reducible refine Ext.trans ?_ hb9 | with_reducible refine Ext.trans ?_ hb8 | with_reducible refine Ext.trans ?_ hb7 | with_reducible refine Ext.trans ?_ hb6 | with_reducible refine Ext.trans ?_ hb5 | with_reducible refine Ext.trans ?_ hb4 | with_reducible refine Ext.trans ?_ hb3 | with_reducible refine Ext.trans ?_ hb2 | with_reducible refine Ext.trans ?_ hb1 | with_reducible refine Ext.trans ?_ hw)))
    clear hc2 hf2 hb2 hz2 hz2_0 hz2_1 hz2_2
    go_wp2
    clear m1 l2
    go_loopg [33] sz.toNat (fun g i wr => ∃ k : Nat, g = sz.toNat - k ∧ k ≤ sz.toNat ∧ i = .int .i64 k ∧ Ext w wr ∧ BoxAt wr (w.heap.size + 1 + 1) #[.int .u64 (lo (notchTo 0 st sz v k)), .int .u64 (hi (notchTo 0 st sz v k))] 33 ∧ BoxAt wr (w.heap.size + 1) #[.int .u64 0, .int .u64 0] 33)
    case atStart => exact ⟨0, by omega, by omega, rfl, hw2, by rw [notchTo_zero, lo_zero, hi_zero]; exact bB, bC⟩
    case round =>
      obtain ⟨k, hg, hk, rfl, hw, hB, hC⟩ := hrel
      clear bB bC bF hw2
      have c0 := hB.cell 0
      have c1 := hB.cell 1
      have l2 := hB.lt
      by_cases hkl : k < sz.toNat
      · have hks : (k : Int) < sz := by omega
        have wr1 : IntKind.i64.wrap (sz - 1) = sz - 1 := IntWalk.i64_in _ (by omega)
        have wr2 : IntKind.i64.wrap (sz - 1 - k) = sz - 1 - k := IntWalk.i64_in _ (by omega)
        have heq : (sz - 1 - (k : Int)).toNat = sz.toNat - 1 - k := by omega
        by_cases hq : v / 2 ^ (sz.toNat - 1 - k) % 2 = 1
        · have hs := hd (notchTo_hit (m := 0) (st := st) (holes := sz) (b := v) (k := k) (by rw [heq]; exact hq))
          have e1 : (bits .and .i64 (v / 2 ^ (sz.toNat - 1 - k)) 1 == 1) = true := by rw [i64_and1, hq]; rfl
          clear hq heq
          go_wp2_with fail
          refine Calls.mono (impl_with _ [st + (k : Int)] _ 1 _ (Rd.lit encI64 _ [st + (k : Int)] _ _ (by simp) rfl) (by simp) (by simp; omega)) ?_
          rintro e w3 ⟨rfl, hb3⟩
          have hB3 := (hB.alloc _).ext hb3
          have f0 := hB3.frozen 0
          have f1 := hB3.frozen 1
          have d0 := hB3.cell 0
          have d1 := hB3.cell 1
          go_wp2
          go_roundg (sz.toNat - (k + 1))
          case rel => exact ⟨k + 1, rfl, hkl, by simp, by ((repeat (first | with_reducible exact Ext.refl _ | with_reducible exact hw | with_reducible exact hb9 | with_reducible exact hb8 | with_reducible exact hb7 | with_reducible exact hb6 | with_reducible exact hb5 | with_reducible exact hb4 | with_reducible exact hb3 | with_reducible exact hb2 | with_reducible exact hb1 | with_reducible refine Ext.alloc ?_ _ | with_reducible refine Ext.drew ?_ | ((with_reducible refine Ext.set ?_ ?_ _); focus (dsimp only; omega)) | with_reducible refine Ext.trans ?_ hb9 | with_reducible refine Ext.trans ?_ hb8 | with_reducible refine Ext.trans ?_ hb7 | with_reducible refine Ext.trans ?_ hb6 | with_reducible refine Ext.trans ?_ hb5 | with_reducible refine Ext.trans ?_ hb4 | with_reducible refine Ext.trans ?_ hb3 | with_reducible refine Ext.trans ?_ hb2 | with_reducible refine Ext.trans ?_ hb1 | with_reducible refine Ext.trans ?_ hw))), by rw [hs.out]; exact (hB3.set 0 _).set 1 _, ((((hC.alloc _).ext hb3).setOther (by first | omega | (simp; done) | (simp; omega) | (dsimp only; omega)) _).setOther (by first | omega | (simp; done) | (simp; omega) | (dsimp only; omega)) _)⟩
          case measure => omega
        · have hs := hd (notchTo_miss (m := 0) (st := st) (holes := sz) (b := v) (k := k) (by rw [heq]; exact hq))
          have e2 : (bits .and .i64 (v / 2 ^ (sz.toNat - 1 - k)) 1 == 1) = false := by rw [i64_and1]; simp [hq]
          clear hq heq
          go_wp2
          go_roundg (sz.toNat - (k + 1))
          case rel => exact ⟨k + 1, rfl, hkl, by simp, hw, by rw [hs.out]; exact hB, hC⟩
          case measure => omega
      · obtain rfl : k = sz.toNat := by omega
        have hks : ((sz.toNat : Nat) : Int) = sz := by omega
        have hp := hd (show binF st sz v = if mcount (notchTo 0 st sz v sz.toNat) % 2 = 0 then mjoin (notchTo 0 st sz v sz.toNat) (mbit (st + sz)) else notchTo 0 st sz v sz.toNat from rfl)
        generalize notchTo 0 st sz v sz.toNat = q at hB c0 c1 hp
        have hcn := mcount_ge q
        have hcl := mcount_le q
        go_wp2_with fail
        refine Calls.mono (impl_CountHoles q _) ?_
        rintro e w3 ⟨rfl, hb3⟩
        have hB3 := hB.ext hb3
        have hC3 := hC.ext hb3
        have d0 := hB3.cell 0
        have d1 := hB3.cell 1
        have l3 := hB3.lt
        have hw := hw.trans hb3
        clear c0 c1 hB hb3
        by_cases hpar : mcount q % 2 = 0
        · have hp2 := hd (hp.out.trans (if_pos hpar))
          clear hp
          generalize mcount q = cn at hpar hcn hcl
          go_wp2_with fail
          refine Calls.mono (impl_with q [st + sz] _ 1 _ (Rd.lit encI64 _ [st + sz] _ _ (by simp) rfl) (by simp) (by simp; omega)) ?_
          rintro e w4 ⟨rfl, hb4⟩
          have hB4 := (hB3.alloc _).ext hb4
          have f0 := hB4.frozen 0
          have f1 := hB4.frozen 1
          have hC4 := (hC3.alloc _).ext hb4
          have g0 := hC4.frozen 0
          have g1 := hC4.frozen 1
          have y0 := hB4.cell 0
          have y1 := hB4.cell 1
          have x0 : w4.cell? ⟨w.heap.size + 1, 0, none⟩ = some (.int .u64 0) := hC4.cell 0
          have x1 : w4.cell? ⟨w.heap.size + 1, 1, none⟩ = some (.int .u64 0) := hC4.cell 1
          go_wp2
          rw [hp2.out]
          refine bodyPost_ret (v := .agg #[.int .u64 (lo (mjoin q (mbit (st + sz)))), .int .u64 (hi (mjoin q (mbit (st + sz))))]) (by simp [results, Tryd.results70, go_sem, mwith_one, x0, x1]) rfl ⟨rfl, ?_⟩
          (repeat (first | with_reducible exact Ext.refl _ | with_reducible exact hw | with_reducible exact hb9 | with_reducible exact hb8 | with_reducible exact hb7 | with_reducible exact hb6 | with_reducible exact hb5 | with_reducible exact hb4 | with_reducible exact hb3 | with_reducible exact hb2 | with_reducible exact hb1 | with_reducible refine Ext.alloc ?_ _ | with_reducible refine Ext.drew ?_ | ((with_reducible refine Ext.set ?_ ?_ _); focus (dsimp only; omega)) | with_reducible refine Ext.trans ?_ hb9 | with_reducible refine Ext.trans ?_ hb8 | with_reducible refine Ext.trans ?_ hb7 | with_reducible refine Ext.trans ?_ hb6 | with_reducible refine Ext.trans ?_ hb5 | with_reducible refine Ext.trans ?_ hb4 | with_reducible refine Ext.trans ?_ hb3 | with_reducible refine Ext.trans ?_ hb2 | with_reducible refine Ext.trans ?_ hb1 | with_reducible refine Ext.trans ?_ hw))
        · have hp2 := hd (hp.out.trans (if_neg hpar))
          clear hp
          generalize mcount q = cn at hpar hcn hcl
          have g0 := hC3.frozen 0
          have g1 := hC3.frozen 1
          have x0 : w3.cell? ⟨w.heap.size + 1, 0, none⟩ = some (.int .u64 0) := hC3.cell 0
          have x1 : w3.cell? ⟨w.heap.size + 1, 1, none⟩ = some (.int .u64 0) := hC3.cell 1
          go_wp2
          rw [hp2.out]
          refine bodyPost_ret (v := .agg #[.int .u64 (lo q), .int .u64 (hi q)]) (by simp [results, Tryd.results70, go_sem, x0, x1]) rfl ⟨rfl, ?_⟩
          (repeat (first | with_reducible exact Ext.refl _ | with_reducible exact hw | with_reducible exact hb9 | with_reducible exact hb8 | with_reducible exact hb7 | with_reducible exact hb6 | with_reducible exact hb5 | with_reducible exact hb4 | with_reducible exact hb3 | with_reducible exact hb2 | with_reducible exact hb1 | with_reducible refine Ext.alloc ?_ _ | with_reducible refine Ext.drew ?_ | ((with_reducible refine Ext.set ?_ ?_ _); focus (dsimp only; omega)) | with_reducible refine Ext.trans ?_ hb9 | with_reducible refine Ext.trans ?_ hb8 | with_reducible refine Ext.trans ?_ hb7 | with_reducible refine Ext.trans ?_ hb6 | with_reducible refine Ext.trans ?_ hb5 | with_reducible refine Ext.trans ?_ hb4 | with_reducible refine Ext.trans ?_ hb3 | with_reducible refine Ext.trans ?_ hb2 | with_reducible refine Ext.trans ?_ hb1 | with_reducible refine Ext.trans ?_ hw))
  · have hz4 : sz ≤ 4 := z1
    have hm9b : v ≤ 9999 := by omega
    clear v1
    have hmany := fun W => impl_many nm 1 st sz (by omega) (by omega) W
    rw [manyF1] at hmany z2
    have hv := hd (show codeF ⟨nm, 1, st, sz⟩ v = orTo (digG 1 st sz v) sz.toNat from rfl)
    have hdg := fun (d : Int) (h0 : 0 ≤ d) (h1 : d < 10) (W : World) => impl_digitHoles nm 1 st sz d (by decide) h0 h1 W
    have wq : (4 * sz).tdiv sz = 4 := Int.mul_tdiv_cancel 4 (by omega)
    rw [hv.out]
    clear hv
    go_enter Tryd.func70, Tryd.ntmps70
    go_wp2
    refine wp_region_ext (by kernel_rfl) (by kernel_rfl) ?_
    repeat (first | go_big_quiet_step (fail) | quiet_step (fail))
    refine wpQuiet_nil ?_
    intro w2 hq2
    have hb2 := ext_of_class hq2
    clear hq2
    obtain ⟨hc2, hf2, hz2⟩ := bcell3 hb2
    try simp at hz2
    have hz2_0 : w.heap.size < w2.heap.size := by omega
    have hz2_1 : w.heap.size + 1 < w2.heap.size := by omega
    have hz2_2 : w.heap.size + 1 + 1 < w2.heap.size := by omega
    have bF : BoxAt w2 w.heap.size #[.string nm, .int .i8 1, .int .i16 st, .int .i16 sz] 48 := (((BoxAt.new' rfl).alloc _).alloc _).ext hb2
    have bC : BoxAt w2 (w.heap.size + 1) #[.int .u64 0, .int .u64 0] 33 := ((BoxAt.new' (by simp)).alloc _).ext hb2
    have bB : BoxAt w2 (w.heap.size + 1 + 1) #[.int .u64 0, .int .u64 0] 33 := (BoxAt.new' (by simp)).ext hb2
    have m0 := bF.cell 0
    have m1 := bF.cell 1
    have m2 := bF.cell 2
    have m3 := bF.cell 3
    have l2 := bF.lt
    have hw2 : Ext w w2 := by ((repeat (first | with_reducible exact Ext.refl _ | with_reducible exact hw | with_reducible exact hb9 | with_reducible exact hb8 | with_reducible exact hb7 | with_reducible exact hb6 | with_reducible exact hb5 | with_reducible exact hb4 | with_reducible exact hb3 | with_reducible exact hb2 | with_reducible exact hb1 | with_reducible refine Ext.alloc ?_ _ | with_reducible refine Ext.drew ?_ | ((with_reducible refine Ext.set ?_ ?_ _); focus (dsimp only; omega)) | with_reducible refine Ext.trans ?_ hb9 | with_reducible refine Ext.trans ?_ hb8 | with_reducible refine Ext.trans ?_ hb7 | with_reducible refine Ext.trans ?_ hb6 | with_reducible refine Ext.trans ?_ hb5 | with_reducible refine Ext.trans ?_ hb4 | with_reducible refine Ext.trans ?_ hb3 | with_reducible refine Ext.trans ?_ hb2 | with_reducible refine Ext.trans ?_ hb1 | with_reducible refine Ext.trans ?_ hw)))
    clear hc2 hf2 hb2 hz2 hz2_0 hz2_1 hz2_2
    go_wp2_with fail
    refine Calls.mono (hmany _) ?_
    rintro e w3 ⟨rfl, hb3⟩
    have hw3 := hw2.trans hb3
    have bF := bF.ext hb3
    have bC := bC.ext hb3
    have bB := bB.ext hb3
    clear m0 m1 m2 m3 l2 hb3 hw2
    go_wp2
    have hGo : ∀ q : Mask, mjoin q (orTo (digG 1 st sz v) 0) = q := fun q => mjoin_zero q
    generalize hT : orTo (digG 1 st sz v) sz.toNat = T
    go_loopg [10, 1] sz.toNat (fun g i x wr => ∃ (j : Nat) (q : Mask) (y : Int), g = sz.toNat - j ∧ j ≤ sz.toNat ∧ i = .int .i64 (sz - 1 - j) ∧ x = .int .i64 y ∧ Hd (y = v / 10 ^ j) ∧ 0 ≤ y ∧ y ≤ 9999 ∧ Hd (mjoin q (orTo (digG 1 st sz v) (sz.toNat - j)) = T) ∧ Ext w wr ∧ BoxAt wr w.heap.size #[.string nm, .int .i8 1, .int .i16 st, .int .i16 sz] 48 ∧ BoxAt wr (w.heap.size + 1 + 1) #[.int .u64 (lo q), .int .u64 (hi q)] 33 ∧ BoxAt wr (w.heap.size + 1) #[.int .u64 0, .int .u64 0] 33)
    case atStart => exact ⟨0, 0, v, by omega, by omega, by simp, rfl, hd (by simp), by omega, by omega, hd (by rw [zero_mjoin]; exact hT), hw3, bF, by rw [lo_zero, hi_zero]; exact bB, bC⟩
    case round =>
      obtain ⟨j, q, y, hg, hj, rfl, rfl, hy, y0, y9, hq, hw, hF, hB, hC⟩ := hrel
      clear bF bB bC hw3
      have m0 := hF.cell 0
      have m1 := hF.cell 1
      have m2 := hF.cell 2
      have m3 := hF.cell 3
      have c0 := hB.cell 0
      have c1 := hB.cell 1
      have l2 := hB.lt
      by_cases hjl : j < sz.toNat
      · have hjs : (j : Int) < sz := by omega
        have hi0 : 0 ≤ sz - 1 - (j : Int) := by omega
        have hrem : y.tmod 10 = y % 10 := IntWalk.rem_in _ _ y0
        have hD : digL 1 (y % 10) = digL 1 (digAt sz v (sz.toNat - 1 - j)) := by rw [digAt_next hy.out hjs]
        have hsm := fun x (h : x ∈ digL 1 (y % 10)) => digL_small 1 (y % 10) x h
        have hln := digL_len 1 (y % 10)
        have hdc := fun W => hdg (y % 10) (by omega) (by omega) W
        rw [show digW 1 = 4 from rfl] at hsm
        have hstep := hd (show mwith q ((digL 1 (y % 10)).map (st + (sz - 1 - (j : Int)) * 4 + ·)) = mjoin q (digG 1 st sz v (sz.toNat - 1 - j)) by
          rw [mwith_from, hD]
          unfold digG digP
          rw [show st + digW 1 * ((sz.toNat - 1 - j : Nat) : Int) = st + (sz - 1 - (j : Int)) * 4 by rw [show digW 1 = 4 from rfl]; omega])
        clear hD
        generalize hLL : digL 1 (y % 10) = L at hsm hln hdc hstep
        clear hLL
        go_wp2_with fail
        refine Calls.mono (hdc _) ?_
        rintro e w4 ⟨bA, cap, rfl, hl4, hR4, hb4⟩
        have hF4 := hF.ext hb4
        have hB4 := hB.ext hb4
        have hC4 := hC.ext hb4
        have hw4 := hw.trans hb4
        have hl5 : w.heap.size + 1 + 1 < bA := by omega
        clear m0 m1 m2 m3 c0 c1 hF hB hC hb4 hw hl4
        go_wp2
        go_loopg [77] L.length (fun g i wr => ∃ k : Nat, g = L.length - k ∧ k ≤ L.length ∧ i = .int .i64 k ∧ Ext w wr ∧ BoxAt wr w.heap.size #[.string nm, .int .i8 1, .int .i16 st, .int .i16 sz] 48 ∧ BoxAt wr (w.heap.size + 1 + 1) #[.int .u64 (lo (mwith q ((L.map (st + (sz - 1 - (j : Int)) * 4 + ·)).take k))), .int .u64 (hi (mwith q ((L.map (st + (sz - 1 - (j : Int)) * 4 + ·)).take k)))] 33 ∧ BoxAt wr (w.heap.size + 1) #[.int .u64 0, .int .u64 0] 33 ∧ Rd encI64 wr (some ⟨bA, 0, none⟩) L ∧ w.heap.size + 1 + 1 < bA)
        case atStart => exact ⟨0, by omega, by omega, rfl, hw4, hF4, hB4, hC4, hR4, hl5⟩
        case round =>
          obtain ⟨k, hg2, hk, rfl, hw, hF, hB, hC, hR, hbl⟩ := hrel
          clear hF4 hB4 hC4 hw4 hR4
          have c0 := hB.cell 0
          have c1 := hB.cell 1
          have l2 := hB.lt
          by_cases hkl : k < L.length
          · have m0 : wr.cell? ⟨bA, k, none⟩ = some (.int .i64 L[k]) := by have := hR.i64 k hkl; rwa [Nat.zero_add] at this
            obtain ⟨h0, h1⟩ := hsm L[k] (List.getElem_mem hkl)
            have hM := hd (mwith_mapTake q L (st + (sz - 1 - (j : Int)) * 4) k hkl)
            generalize L[k] = h at h0 h1 hM m0
            have wr1 : IntKind.i64.wrap ((sz - 1 - (j : Int)) * 4) = (sz - 1 - (j : Int)) * 4 := IntWalk.i64_in _ (by omega)
            have wr2 : IntKind.i64.wrap (st + (sz - 1 - (j : Int)) * 4) = st + (sz - 1 - (j : Int)) * 4 := IntWalk.i64_in _ (by omega)
            have wr3 : IntKind.i64.wrap (st + (sz - 1 - (j : Int)) * 4 + h) = st + (sz - 1 - (j : Int)) * 4 + h := IntWalk.i64_in _ (by omega)
            go_wp2_with fail
            refine Calls.mono (impl_with _ [st + (sz - 1 - (j : Int)) * 4 + h] _ 1 _ (Rd.lit encI64 _ [st + (sz - 1 - (j : Int)) * 4 + h] _ _ (by simp) rfl) (by simp) (by simp; omega)) ?_
            rintro e w5 ⟨rfl, hb5⟩
            have hB5 := (hB.alloc _).ext hb5
            have hR5 := (hR.ext (by ((repeat (first | with_reducible exact Ext.refl _ | with_reducible exact hw | with_reducible exact hb9 | with_reducible exact hb8 | with_reducible exact hb7 | with_reducible exact hb6 | with_reducible exact hb5 | with_reducible exact hb4 | with_reducible exact hb3 | with_reducible exact hb2 | with_reducible exact hb1 | with_reducible refine Ext.alloc ?_ _ | with_reducible refine Ext.drew ?_ | ((with_reducible refine Ext.set ?_ ?_ _); focus (dsimp only; omega)) | with_reducible refine Ext.trans ?_ hb9 | with_reducible refine Ext.trans ?_ hb8 | with_reducible refine Ext.trans ?_ hb7 | with_reducible refine Ext.trans ?_ hb6 | with_reducible refine Ext.trans ?_ hb5 | with_reducible refine Ext.trans ?_ hb4 | with_reducible refine Ext.trans ?_ hb3 | with_reducible refine Ext.trans ?_ hb2 | with_reducible refine Ext.trans ?_ hb1 | with_reducible refine Ext.trans ?_ hw))) : Ext wr _)).ext hb5
            have f0 := hB5.frozen 0
            have f1 := hB5.frozen 1
            have d0 := hB5.cell 0
            have d1 := hB5.cell 1
            go_wp2
            go_roundg (L.length - (k + 1))
            case rel => exact ⟨k + 1, rfl, hkl, by simp, by ((repeat (first | with_reducible exact Ext.refl _ | with_reducible exact hw | with_reducible exact hb9 | with_reducible exact hb8 | with_reducible exact hb7 | with_reducible exact hb6 | with_reducible exact hb5 | with_reducible exact hb4 | with_reducible exact hb3 | with_reducible exact hb2 | with_reducible exact hb1 | with_reducible refine Ext.alloc ?_ _ | with_reducible refine Ext.drew ?_ | ((with_reducible refine Ext.set ?_ ?_ _); focus (dsimp only; omega)) | with_reducible refine Ext.trans ?_ hb9 | with_reducible refine Ext.trans ?_ hb8 | with_reducible refine Ext.trans ?_ hb7 | with_reducible refine Ext.trans ?_ hb6 | with_reducible refine Ext.trans ?_ hb5 | with_reducible refine Ext.trans ?_ hb4 | with_reducible refine Ext.trans ?_ hb3 | with_reducible refine Ext.trans ?_ hb2 | with_reducible refine Ext.trans ?_ hb1 | with_reducible refine Ext.trans ?_ hw))), ((((hF.alloc _).ext hb5).setOther (by first | omega | (simp; done) | (simp; omega) | (dsimp only; omega)) _).setOther (by first | omega | (simp; done) | (simp; omega) | (dsimp only; omega)) _), by rw [hM.out]; exact (hB5.set 0 _).set 1 _, ((((hC.alloc _).ext hb5).setOther (by first | omega | (simp; done) | (simp; omega) | (dsimp only; omega)) _).setOther (by first | omega | (simp; done) | (simp; omega) | (dsimp only; omega)) _), (hR5.setB (by first | omega | (simp; done) | (simp; omega) | (dsimp only; omega)) _).setB (by first | omega | (simp; done) | (simp; omega) | (dsimp only; omega)) _, (by first | omega | (simp; done) | (simp; omega) | (dsimp only; omega))⟩
            case measure => omega
          · obtain rfl : k = L.length := by omega
            rw [map_takeAll, hstep.out] at hB c0 c1
            have hy2 := hd (dig_div hy.out)
            have hq2 := hd (digStep (g := digG 1 st sz v) (q := q) (T := T) (k := sz.toNat - 1 - j) (by rw [show sz.toNat - 1 - j + 1 = sz.toNat - j by omega]; exact hq.out))
            have wd : IntKind.i64.wrap (y.tdiv 10) = y / 10 := IntWalk.i64_quo _ _ (by omega)
            have wi : IntKind.i64.wrap (sz - 1 - (j : Int) - 1) = sz - 1 - (j : Int) - 1 := IntWalk.i64_in _ (by omega)
            go_wp2
            go_roundg (sz.toNat - (j + 1))
            case rel => exact ⟨j + 1, _, y / 10, rfl, hjl, by simp; omega, rfl, hy2, by omega, by omega, hd (by rw [show sz.toNat - (j + 1) = sz.toNat - 1 - j by omega]; exact hq2.out), hw, hF, hB, hC⟩
            case measure => omega
      · obtain rfl : j = sz.toNat := by omega
        have hjs : ((sz.toNat : Nat) : Int) = sz := by omega
        have hqT : q = T := by have := hq.out; rwa [Nat.sub_self, hGo] at this
        subst hqT
        have g0 := hC.frozen 0
        have g1 := hC.frozen 1
        have x0 : wr.cell? ⟨w.heap.size + 1, 0, none⟩ = some (.int .u64 0) := hC.cell 0
        have x1 : wr.cell? ⟨w.heap.size + 1, 1, none⟩ = some (.int .u64 0) := hC.cell 1
        go_wp2
        refine bodyPost_ret (v := .agg #[.int .u64 (lo q), .int .u64 (hi q)]) (by simp [results, Tryd.results70, go_sem, x0, x1]) rfl ⟨by rw [hT], ?_⟩
        (repeat (first | with_reducible exact Ext.refl _ | with_reducible exact hw | with_reducible exact hb9 | with_reducible exact hb8 | with_reducible exact hb7 | with_reducible exact hb6 | with_reducible exact hb5 | with_reducible exact hb4 | with_reducible exact hb3 | with_reducible exact hb2 | with_reducible exact hb1 | with_reducible refine Ext.alloc ?_ _ | with_reducible refine Ext.drew ?_ | ((with_reducible refine Ext.set ?_ ?_ _); focus (dsimp only; omega)) | with_reducible refine Ext.trans ?_ hb9 | with_reducible refine Ext.trans ?_ hb8 | with_reducible refine Ext.trans ?_ hb7 | with_reducible refine Ext.trans ?_ hb6 | with_reducible refine Ext.trans ?_ hb5 | with_reducible refine Ext.trans ?_ hb4 | with_reducible refine Ext.trans ?_ hb3 | with_reducible refine Ext.trans ?_ hb2 | with_reducible refine Ext.trans ?_ hb1 | with_reducible refine Ext.trans ?_ hw))
  · have hz4 : sz ≤ 4 := z1
    have hm9b : v ≤ 9999 := by omega
    clear v1
    have hmany := fun W => impl_many nm 2 st sz (by omega) (by omega) W
    rw [manyF2] at hmany z2
    have hv := hd (show codeF ⟨nm, 2, st, sz⟩ v = orTo (digG 2 st sz v) sz.toNat from rfl)
    have hdg := fun (d : Int) (h0 : 0 ≤ d) (h1 : d < 10) (W : World) => impl_digitHoles nm 2 st sz d (by decide) h0 h1 W
    have wq : (5 * sz).tdiv sz = 5 := Int.mul_tdiv_cancel 5 (by omega)
    rw [hv.out]
    clear hv
    go_enter Tryd.func70, Tryd.ntmps70
    go_wp2
    refine wp_region_ext (by kernel_rfl) (by kernel_rfl) ?_
    repeat (first | go_big_quiet_step (fail) | quiet_step (fail))
    refine wpQuiet_nil ?_
    intro w2 hq2
    have hb2 := ext_of_class hq2
    clear hq2
    obtain ⟨hc2, hf2, hz2⟩ := bcell3 hb2
    try simp at hz2
    have hz2_0 : w.heap.size < w2.heap.size := by omega
    have hz2_1 : w.heap.size + 1 < w2.heap.size := by omega
    have hz2_2 : w.heap.size + 1 + 1 < w2.heap.size := by omega
    have bF : BoxAt w2 w.heap.size #[.string nm, .int .i8 2, .int .i16 st, .int .i16 sz] 48 := (((BoxAt.new' rfl).alloc _).alloc _).ext hb2
    have bC : BoxAt w2 (w.heap.size + 1) #[.int .u64 0, .int .u64 0] 33 := ((BoxAt.new' (by simp)).alloc _).ext hb2
    have bB : BoxAt w2 (w.heap.size + 1 + 1) #[.int .u64 0, .int .u64 0] 33 := (BoxAt.new' (by simp)).ext hb2
    have m0 := bF.cell 0
    have m1 := bF.cell 1
    have m2 := bF.cell 2
    have m3 := bF.cell 3
    have l2 := bF.lt
    have hw2 : Ext w w2 := by ((repeat (first | with_reducible exact Ext.refl _ | with_reducible exact hw | with_reducible exact hb9 | with_reducible exact hb8 | with_reducible exact hb7 | with_reducible exact hb6 | with_reducible exact hb5 | with_reducible exact hb4 | with_reducible exact hb3 | with_reducible exact hb2 | with_reducible exact hb1 | with_reducible refine Ext.alloc ?_ _ | with_reducible refine Ext.drew ?_ | ((with_reducible refine Ext.set ?_ ?_ _); focus (dsimp only; omega)) | with_reducible refine Ext.trans ?_ hb9 | with_reducible refine Ext.trans ?_ hb8 | with_reducible refine Ext.trans ?_ hb7 | with_reducible refine Ext.trans ?_ hb6 | with_reducible refine Ext.trans ?_ hb5 | with_reducible refine Ext.trans ?_ hb4 | with_reducible refine Ext.trans ?_ hb3 | with_reducible refine Ext.trans ?_ hb2 | with_reducible refine Ext.trans ?_ hb1 | with_reducible refine Ext.trans ?_ hw)))
    clear hc2 hf2 hb2 hz2 hz2_0 hz2_1 hz2_2
    go_wp2_with fail
    refine Calls.mono (hmany _) ?_
    rintro e w3 ⟨rfl, hb3⟩
    have hw3 := hw2.trans hb3
    have bF := bF.ext hb3
    have bC := bC.ext hb3
    have bB := bB.ext hb3
    clear m0 m1 m2 m3 l2 hb3 hw2
    go_wp2
    have hGo : ∀ q : Mask, mjoin q (orTo (digG 2 st sz v) 0) = q := fun q => mjoin_zero q
    generalize hT : orTo (digG 2 st sz v) sz.toNat = T
    go_loopg [10, 1] sz.toNat (fun g i x wr => ∃ (j : Nat) (q : Mask) (y : Int), g = sz.toNat - j ∧ j ≤ sz.toNat ∧ i = .int .i64 (sz - 1 - j) ∧ x = .int .i64 y ∧ Hd (y = v / 10 ^ j) ∧ 0 ≤ y ∧ y ≤ 9999 ∧ Hd (mjoin q (orTo (digG 2 st sz v) (sz.toNat - j)) = T) ∧ Ext w wr ∧ BoxAt wr w.heap.size #[.string nm, .int .i8 2, .int .i16 st, .int .i16 sz] 48 ∧ BoxAt wr (w.heap.size + 1 + 1) #[.int .u64 (lo q), .int .u64 (hi q)] 33 ∧ BoxAt wr (w.heap.size + 1) #[.int .u64 0, .int .u64 0] 33)
    case atStart => exact ⟨0, 0, v, by omega, by omega, by simp, rfl, hd (by simp), by omega, by omega, hd (by rw [zero_mjoin]; exact hT), hw3, bF, by rw [lo_zero, hi_zero]; exact bB, bC⟩
    case round =>
      obtain ⟨j, q, y, hg, hj, rfl, rfl, hy, y0, y9, hq, hw, hF, hB, hC⟩ := hrel
      clear bF bB bC hw3
      have m0 := hF.cell 0
      have m1 := hF.cell 1
      have m2 := hF.cell 2
      have m3 := hF.cell 3
      have c0 := hB.cell 0
      have c1 := hB.cell 1
      have l2 := hB.lt
      by_cases hjl : j < sz.toNat
      · have hjs : (j : Int) < sz := by omega
        have hi0 : 0 ≤ sz - 1 - (j : Int) := by omega
        have hrem : y.tmod 10 = y % 10 := IntWalk.rem_in _ _ y0
        have hD : digL 2 (y % 10) = digL 2 (digAt sz v (sz.toNat - 1 - j)) := by rw [digAt_next hy.out hjs]
        have hsm := fun x (h : x ∈ digL 2 (y % 10)) => digL_small 2 (y % 10) x h
        have hln := digL_len 2 (y % 10)
        have hdc := fun W => hdg (y % 10) (by omega) (by omega) W
        rw [show digW 2 = 5 from rfl] at hsm
        have hstep := hd (show mwith q ((digL 2 (y % 10)).map (st + (sz - 1 - (j : Int)) * 5 + ·)) = mjoin q (digG 2 st sz v (sz.toNat - 1 - j)) by
          rw [mwith_from, hD]
          unfold digG digP
          rw [show st + digW 2 * ((sz.toNat - 1 - j : Nat) : Int) = st + (sz - 1 - (j : Int)) * 5 by rw [show digW 2 = 5 from rfl]; omega])
        clear hD
        generalize hLL : digL 2 (y % 10) = L at hsm hln hdc hstep
        clear hLL
        go_wp2_with fail
        refine Calls.mono (hdc _) ?_
        rintro e w4 ⟨bA, cap, rfl, hl4, hR4, hb4⟩
        have hF4 := hF.ext hb4
        have hB4 := hB.ext hb4
        have hC4 := hC.ext hb4
        have hw4 := hw.trans hb4
        have hl5 : w.heap.size + 1 + 1 < bA := by omega
        clear m0 m1 m2 m3 c0 c1 hF hB hC hb4 hw hl4
        go_wp2
        go_loopg [77] L.length (fun g i wr => ∃ k : Nat, g = L.length - k ∧ k ≤ L.length ∧ i = .int .i64 k ∧ Ext w wr ∧ BoxAt wr w.heap.size #[.string nm, .int .i8 2, .int .i16 st, .int .i16 sz] 48 ∧ BoxAt wr (w.heap.size + 1 + 1) #[.int .u64 (lo (mwith q ((L.map (st + (sz - 1 - (j : Int)) * 5 + ·)).take k))), .int .u64 (hi (mwith q ((L.map (st + (sz - 1 - (j : Int)) * 5 + ·)).take k)))] 33 ∧ BoxAt wr (w.heap.size + 1) #[.int .u64 0, .int .u64 0] 33 ∧ Rd encI64 wr (some ⟨bA, 0, none⟩) L ∧ w.heap.size + 1 + 1 < bA)
        case atStart => exact ⟨0, by omega, by omega, rfl, hw4, hF4, hB4, hC4, hR4, hl5⟩
        case round =>
          obtain ⟨k, hg2, hk, rfl, hw, hF, hB, hC, hR, hbl⟩ := hrel
          clear hF4 hB4 hC4 hw4 hR4
          have c0 := hB.cell 0
          have c1 := hB.cell 1
          have l2 := hB.lt
          by_cases hkl : k < L.length
          · have m0 : wr.cell? ⟨bA, k, none⟩ = some (.int .i64 L[k]) := by have := hR.i64 k hkl; rwa [Nat.zero_add] at this
            obtain ⟨h0, h1⟩ := hsm L[k] (List.getElem_mem hkl)
            have hM := hd (mwith_mapTake q L (st + (sz - 1 - (j : Int)) * 5) k hkl)
            generalize L[k] = h at h0 h1 hM m0
            have wr1 : IntKind.i64.wrap ((sz - 1 - (j : Int)) * 5) = (sz - 1 - (j : Int)) * 5 := IntWalk.i64_in _ (by omega)
            have wr2 : IntKind.i64.wrap (st + (sz - 1 - (j : Int)) * 5) = st + (sz - 1 - (j : Int)) * 5 := IntWalk.i64_in _ (by omega)
            have wr3 : IntKind.i64.wrap (st + (sz - 1 - (j : Int)) * 5 + h) = st + (sz - 1 - (j : Int)) * 5 + h := IntWalk.i64_in _ (by omega)
            go_wp2_with fail
            refine Calls.mono (impl_with _ [st + (sz - 1 - (j : Int)) * 5 + h] _ 1 _ (Rd.lit encI64 _ [st + (sz - 1 - (j : Int)) * 5 + h] _ _ (by simp) rfl) (by simp) (by simp; omega)) ?_
            rintro e w5 ⟨rfl, hb5⟩
            have hB5 := (hB.alloc _).ext hb5
            have hR5 := (hR.ext (by ((repeat (first | with_reducible exact Ext.refl _ | with_reducible exact hw | with_reducible exact hb9 | with_reducible exact hb8 | with_reducible exact hb7 | with_reducible exact hb6 | with_reducible exact hb5 | with_reducible exact hb4 | with_reducible exact hb3 | with_reducible exact hb2 | with_reducible exact hb1 | with_reducible refine Ext.alloc ?_ _ | with_reducible refine Ext.drew ?_ | ((with_reducible refine Ext.set ?_ ?_ _); focus (dsimp only; omega)) | with_reducible refine Ext.trans ?_ hb9 | with_reducible refine Ext.trans ?_ hb8 | with_reducible refine Ext.trans ?_ hb7 | with_reducible refine Ext.trans ?_ hb6 | with_reducible refine Ext.trans ?_ hb5 | with_reducible refine Ext.trans ?_ hb4 | with_reducible refine Ext.trans ?_ hb3 | with_reducible refine Ext.trans ?_ hb2 | with_reducible refine Ext.trans ?_ hb1 | with_reducible refine Ext.trans ?_ hw))) : Ext wr _)).ext hb5
            have f0 := hB5.frozen 0
            have f1 := hB5.frozen 1
            have d0 := hB5.cell 0
            have d1 := hB5.cell 1
            go_wp2
            go_roundg (L.length - (k + 1))
            case rel => exact ⟨k + 1, rfl, hkl, by simp, by ((repeat (first | with_reducible exact Ext.refl _ | with_reducible exact hw | with_reducible exact hb9 | with_reducible exact hb8 | with_reducible exact hb7 | with_reducible exact hb6 | with_reducible exact hb5 | with_reducible exact hb4 | with_reducible exact hb3 | with_reducible exact hb2 | with_reducible exact hb1 | with_reducible refine Ext.alloc ?_ _ | with_reducible refine Ext.drew ?_ | ((with_reducible refine Ext.set ?_ ?_ _); focus (dsimp only; omega)) | with_reducible refine Ext.trans ?_ hb9 | with_reducible refine Ext.trans ?_ hb8 | with_reducible refine Ext.trans ?_ hb7 | with_reducible refine Ext.trans ?_ hb6 | with_reducible refine Ext.trans ?_ hb5 | with_reducible refine Ext.trans ?_ hb4 | with_reducible refine Ext.trans ?_ hb3 | with_reducible refine Ext.trans ?_ hb2 | with_reducible refine Ext.trans ?_ hb1 | with_reducible refine Ext.trans ?_ hw))), ((((hF.alloc _).ext hb5).setOther (by first | omega | (simp; done) | (simp; omega) | (dsimp only; omega)) _).setOther (by first | omega | (simp; done) | (simp; omega) | (dsimp only; omega)) _), by rw [hM.out]; exact (hB5.set 0 _).set 1 _, ((((hC.alloc _).ext hb5).setOther (by first | omega | (simp; done) | (simp; omega) | (dsimp only; omega)) _).setOther (by first | omega | (simp; done) | (simp; omega) | (dsimp only; omega)) _), (hR5.setB (by first | omega | (simp; done) | (simp; omega) | (dsimp only; omega)) _).setB (by first | omega | (simp; done) | (simp; omega) | (dsimp only; omega)) _, (by first | omega | (simp; done) | (simp; omega) | (dsimp only; omega))⟩
            case measure => omega
          · obtain rfl : k = L.length := by omega
            rw [map_takeAll, hstep.out] at hB c0 c1
            have hy2 := hd (dig_div hy.out)
            have hq2 := hd (digStep (g := digG 2 st sz v) (q := q) (T := T) (k := sz.toNat - 1 - j) (by rw [show sz.toNat - 1 - j + 1 = sz.toNat - j by omega]; exact hq.out))
            have wd : IntKind.i64.wrap (y.tdiv 10) = y / 10 := IntWalk.i64_quo _ _ (by omega)
            have wi : IntKind.i64.wrap (sz - 1 - (j : Int) - 1) = sz - 1 - (j : Int) - 1 := IntWalk.i64_in _ (by omega)
            go_wp2
            go_roundg (sz.toNat - (j + 1))
            case rel => exact ⟨j + 1, _, y / 10, rfl, hjl, by simp; omega, rfl, hy2, by omega, by omega, hd (by rw [show sz.toNat - (j + 1) = sz.toNat - 1 - j by omega]; exact hq2.out), hw, hF, hB, hC⟩
            case measure => omega
      · obtain rfl : j = sz.toNat := by omega
        have hjs : ((sz.toNat : Nat) : Int) = sz := by omega
        have hqT : q = T := by have := hq.out; rwa [Nat.sub_self, hGo] at this
        subst hqT
        have g0 := hC.frozen 0
        have g1 := hC.frozen 1
        have x0 : wr.cell? ⟨w.heap.size + 1, 0, none⟩ = some (.int .u64 0) := hC.cell 0
        have x1 : wr.cell? ⟨w.heap.size + 1, 1, none⟩ = some (.int .u64 0) := hC.cell 1
        go_wp2
        refine bodyPost_ret (v := .agg #[.int .u64 (lo q), .int .u64 (hi q)]) (by simp [results, Tryd.results70, go_sem, x0, x1]) rfl ⟨by rw [hT], ?_⟩
        (repeat (first | with_reducible exact Ext.refl _ | with_reducible exact hw | with_reducible exact hb9 | with_reducible exact hb8 | with_reducible exact hb7 | with_reducible exact hb6 | with_reducible exact hb5 | with_reducible exact hb4 | with_reducible exact hb3 | with_reducible exact hb2 | with_reducible exact hb1 | with_reducible refine Ext.alloc ?_ _ | with_reducible refine Ext.drew ?_ | ((with_reducible refine Ext.set ?_ ?_ _); focus (dsimp only; omega)) | with_reducible refine Ext.trans ?_ hb9 | with_reducible refine Ext.trans ?_ hb8 | with_reducible refine Ext.trans ?_ hb7 | with_reducible refine Ext.trans ?_ hb6 | with_reducible refine Ext.trans ?_ hb5 | with_reducible refine Ext.trans ?_ hb4 | with_reducible refine Ext.trans ?_ hb3 | with_reducible refine Ext.trans ?_ hb2 | with_reducible refine Ext.trans ?_ hb1 | with_reducible refine Ext.trans ?_ hw))
end Go.Proofs.YtegopgpnjgikeaaDoor
