/-
  The contract of the reference's ChanceWear.
-/
import Derived.Test.YthkphhacmneeiaaGreatDoorH0
import Derived.Test.YthkphhacmneeiaaGreatDoorC6
import Derived.RegionTactic
import Derived.ChangeAlike
set_option linter.unusedVariables false
set_option linter.unusedSimpArgs false
namespace Go.Proofs.YthkphhacmneeiaaGreatDoor
open Go.RowKit
set_option maxRecDepth 100000 in
set_option maxHeartbeats 1000000 in
theorem spec_ChanceWear (x : Crd) (hnm : x.nm.size ≤ 9223372036854775807) (seed torn filled : Int) (s0 : 0 ≤ seed) (s1 : seed < 4294967296) (hcard : isCardB x = true) (t0 : 0 ≤ torn) (t1 : torn ≤ 1000) (g0 : 0 ≤ filled) (g1 : filled ≤ 1000) (w : World) :
    Calls Tryz.prog 18 #[.agg #[.string x.nm, .int .u64 (lo x.m), .int .u64 (hi x.m)], .int .u32 seed, .int .i64 torn, .int .i64 filled] w fun e w' => e = .returned (.tuple #[.agg #[.string x.nm, .int .u64 (lo (wornM (chTo x.m torn filled seed 96).2.1 (chTo x.m torn filled seed 96).2.2 x.m)), .int .u64 (hi (wornM (chTo x.m torn filled seed 96).2.1 (chTo x.m torn filled seed 96).2.2 x.m))], .agg #[.int .u64 (lo (chTo x.m torn filled seed 96).2.1), .int .u64 (hi (chTo x.m torn filled seed 96).2.1), .int .u64 (lo (chTo x.m torn filled seed 96).2.2), .int .u64 (hi (chTo x.m torn filled seed 96).2.2)], .int .u32 (chTo x.m torn filled seed 96).1, .int .i64 0]) ∧ Ext w w' := by
  have hx := @ExtOf.cell
  have i0 : inB torn 0 1000 = true := by simp [inB]; omega
  have i1 : inB filled 0 1000 = true := by simp [inB]; omega
  go_enter Tryz.func18, Tryz.ntmps18
  go_wp2_with fail
  refine Calls.mono (spec_l01Ok x hnm w.heap.size 0 _ (by first | omega | (simp <;> omega)) (by go_simp) (by go_simp) (by go_simp)) ?_
  rintro e w1 ⟨rfl, hb1⟩
  obtain ⟨hc1, hf1, hz1⟩ := bcell3 hb1
  try simp at hz1
  have hz1_0 : w.heap.size < w1.heap.size := by omega
  have hz1_1 : w.heap.size + 1 < w1.heap.size := by omega
  have hz1_2 : w.heap.size + 1 + 1 < w1.heap.size := by omega
  have c0_0 : w1.cell? ⟨w.heap.size, 0, none⟩ = some (.string x.nm) := by go_simp
  have f0_0 : w1.frozen? ⟨w.heap.size, 0, none⟩ = false := by go_simp
  have c0_1 : w1.cell? ⟨w.heap.size, 1, none⟩ = some (.int .u64 (lo x.m)) := by go_simp
  have f0_1 : w1.frozen? ⟨w.heap.size, 1, none⟩ = false := by go_simp
  have c0_2 : w1.cell? ⟨w.heap.size, 2, none⟩ = some (.int .u64 (hi x.m)) := by go_simp
  have f0_2 : w1.frozen? ⟨w.heap.size, 2, none⟩ = false := by go_simp
  have c1_0 : w1.cell? ⟨w.heap.size + 1, 0, none⟩ = some (.string ⟨#[]⟩) := by go_simp
  have f1_0 : w1.frozen? ⟨w.heap.size + 1, 0, none⟩ = false := by go_simp
  have c1_1 : w1.cell? ⟨w.heap.size + 1, 1, none⟩ = some (.int .u64 0) := by go_simp
  have f1_1 : w1.frozen? ⟨w.heap.size + 1, 1, none⟩ = false := by go_simp
  have c1_2 : w1.cell? ⟨w.heap.size + 1, 2, none⟩ = some (.int .u64 0) := by go_simp
  have f1_2 : w1.frozen? ⟨w.heap.size + 1, 2, none⟩ = false := by go_simp
  have c2_0 : w1.cell? ⟨w.heap.size + 1 + 1, 0, none⟩ = some (.int .u64 0) := by go_simp
  have f2_0 : w1.frozen? ⟨w.heap.size + 1 + 1, 0, none⟩ = false := by go_simp
  have c2_1 : w1.cell? ⟨w.heap.size + 1 + 1, 1, none⟩ = some (.int .u64 0) := by go_simp
  have f2_1 : w1.frozen? ⟨w.heap.size + 1 + 1, 1, none⟩ = false := by go_simp
  have c2_2 : w1.cell? ⟨w.heap.size + 1 + 1, 2, none⟩ = some (.int .u64 0) := by go_simp
  have f2_2 : w1.frozen? ⟨w.heap.size + 1 + 1, 2, none⟩ = false := by go_simp
  have c2_3 : w1.cell? ⟨w.heap.size + 1 + 1, 3, none⟩ = some (.int .u64 0) := by go_simp
  have f2_3 : w1.frozen? ⟨w.heap.size + 1 + 1, 3, none⟩ = false := by go_simp
  try clear hc1 hf1
  try clear hc2 hf2
  try clear hc3 hf3
  try clear hc4 hf4
  try clear hc5 hf5
  try clear hc6 hf6
  try clear hc7 hf7
  try clear hc8 hf8
  try clear hc9 hf9
  have hb1' := hd hb1
  go_wp2_with fail
  refine Calls.mono (spec_l00In torn 0 1000 _) ?_
  rintro e w1a ⟨rfl, hb1a⟩
  go_wp2_with fail
  refine Calls.mono (spec_l00In filled 0 1000 _) ?_
  rintro e w1b ⟨rfl, hb1b⟩
  have z1a := hb1a.size
  have z1b := hb1b.size
  have hE1b : Ext w w1b := by
    refine Ext.trans (Ext.trans ?_ hb1a) hb1b
    (repeat (first | with_reducible exact Ext.refl _ | with_reducible exact hw | with_reducible exact hb9 | with_reducible exact hb8 | with_reducible exact hb7 | with_reducible exact hb6 | with_reducible exact hb5 | with_reducible exact hb4 | with_reducible exact hb3 | with_reducible exact hb2 | with_reducible exact hb1 | with_reducible refine Ext.alloc ?_ _ | with_reducible refine Ext.drew ?_ | ((with_reducible refine Ext.set ?_ ?_ _); focus (dsimp only; omega)) | with_reducible refine Ext.trans ?_ hb9 | with_reducible refine Ext.trans ?_ hb8 | with_reducible refine Ext.trans ?_ hb7 | with_reducible refine Ext.trans ?_ hb6 | with_reducible refine Ext.trans ?_ hb5 | with_reducible refine Ext.trans ?_ hb4 | with_reducible refine Ext.trans ?_ hb3 | with_reducible refine Ext.trans ?_ hb2 | with_reducible refine Ext.trans ?_ hb1 | with_reducible refine Ext.trans ?_ hw))
  go_wp2
  go_loopg [13, 1] 96 (fun g i sd wr => ∃ k : Nat, ∃ s : Int, g = 96 - k ∧ k ≤ 96 ∧ i = .int .i64 k ∧ sd = .int .u32 s ∧ (chTo x.m torn filled seed k).1 = s ∧ 0 ≤ s ∧ s < 4294967296 ∧ Ext w wr ∧ BoxAt wr w1b.heap.size #[.int .u64 (lo (chTo x.m torn filled seed k).2.1), .int .u64 (hi (chTo x.m torn filled seed k).2.1), .int .u64 (lo (chTo x.m torn filled seed k).2.2), .int .u64 (hi (chTo x.m torn filled seed k).2.2)] 31 ∧ BoxAt wr w.heap.size #[.string x.nm, .int .u64 (lo x.m), .int .u64 (hi x.m)] 29 ∧ BoxAt wr (w.heap.size + 1) #[.string ⟨#[]⟩, .int .u64 0, .int .u64 0] 29 ∧ BoxAt wr (w.heap.size + 1 + 1) #[.int .u64 0, .int .u64 0, .int .u64 0, .int .u64 0] 31)
  case atStart => exact ⟨0, seed, by omega, by omega, rfl, rfl, by rw [chTo_zero], s0, s1, hE1b.alloc _, by rw [chTo_zero, lo_zero, hi_zero]; exact BoxAt.new' rfl, ((((BoxAt.new' rfl).alloc _).alloc _).ext (hb1.trans (hb1a.trans hb1b))).alloc _, (((BoxAt.new' (by simp)).alloc _).ext (hb1.trans (hb1a.trans hb1b))).alloc _, ((BoxAt.new' (by simp)).ext (hb1.trans (hb1a.trans hb1b))).alloc _⟩
  case round =>
    obtain ⟨k, s, hg, hk, rfl, rfl, hS, hs0, hs1, hw, hB, hC, hZ, hY⟩ := hrel
    by_cases hkl : k < 96
    · have n0 := nextC_ge s
      have n1 := nextC_lt s
      have hf1 := chTo_fill x.m torn filled seed k
      have hf2 := chTo_keep1 x.m torn filled seed k
      have hf3 := chTo_tear x.m torn filled seed k
      have hf4 := chTo_keep2 x.m torn filled seed k
      rw [hS] at hf1 hf2 hf3 hf4
      generalize (chTo x.m torn filled seed k).2.1 = tm at hf1 hf2 hf3 hf4 hB
      generalize (chTo x.m torn filled seed k).2.2 = fm at hf1 hf2 hf3 hf4 hB
      have hf1' := hd hf1
      have hf2' := hd hf2
      have hf3' := hd hf3
      have hf4' := hd hf4
      clear hf1 hf2 hf3 hf4 hS
      have hnx : (1664525 * s % 4294967296 + 1013904223) % 4294967296 = nextC s := by unfold nextC; rfl
      have hb2 := Ext.refl wr
      have c0 : wr.cell? ⟨w.heap.size, 1, none⟩ = some (.int .u64 (lo x.m)) := hC.cell 1
      have c1 : wr.cell? ⟨w.heap.size, 2, none⟩ = some (.int .u64 (hi x.m)) := hC.cell 2
      cases hm : mhas x.m k with
      | true =>
        go_wp2_with fail
        refine Calls.mono (spec_l01Has x.m k (by omega) (by omega) _) ?_
        rintro e w3 ⟨rfl, hb3⟩
        by_cases hr : nextC s / 65536 % 1000 < filled
        · have hB2 := (hB.ext hb2).ext hb3
          have e0 : w3.cell? ⟨w1b.heap.size, 2, none⟩ = some (.int .u64 (lo fm)) := hB2.cell 2
          have e1 : w3.cell? ⟨w1b.heap.size, 3, none⟩ = some (.int .u64 (hi fm)) := hB2.cell 3
          have l2 := hB2.lt
          have y0 := hB2.frozen 2
          have y1 := hB2.frozen 3
          go_wp2
          refine wp_region_ext_tail 5 5 (by kernel_rfl) (by kernel_rfl) (by intro d _ _ _ _ h; cases d <;> exact h) ?_
          simp only [List.take_succ_cons, List.take_zero, List.drop_succ_cons, List.drop_zero]
          repeat (first | go_big_quiet_step ((first | (go_at_call 25; with_reducible exact Calls.ext_of (spec_l01Bit k (by omega) (by omega) _)) | (go_at_call 24; with_reducible exact Calls.ext_of (spec_l01Join _ _ _)))) | quiet_step ((first | (go_at_call 25; with_reducible exact Calls.ext_of (spec_l01Bit k (by omega) (by omega) _)) | (go_at_call 24; with_reducible exact Calls.ext_of (spec_l01Join _ _ _)))))
          refine wpQuiet_nil ?_
          intro w4 hq4
          have hb4 := ext_of_class hq4
          clear hq4
          obtain ⟨hc4, hf4, hz4⟩ := bcell3 hb4
          try simp at hz4
          have hB3 := hB2.ext hb4
          have f0 := hB3.frozen 2
          have f1 := hB3.frozen 3
          have d0 := hB3.cell 2
          have d1 := hB3.cell 3
          go_wp2
          go_roundg (96 - (k + 1))
          case rel => exact ⟨k + 1, nextC s, rfl, hkl, rfl, rfl, by rw [hf1'.out hm hr], n0, n1, by ((repeat (first | with_reducible exact Ext.refl _ | with_reducible exact hw | with_reducible exact hb9 | with_reducible exact hb8 | with_reducible exact hb7 | with_reducible exact hb6 | with_reducible exact hb5 | with_reducible exact hb4 | with_reducible exact hb3 | with_reducible exact hb2 | with_reducible exact hb1 | with_reducible refine Ext.alloc ?_ _ | with_reducible refine Ext.drew ?_ | ((with_reducible refine Ext.set ?_ ?_ _); focus (dsimp only; omega)) | with_reducible refine Ext.trans ?_ hb9 | with_reducible refine Ext.trans ?_ hb8 | with_reducible refine Ext.trans ?_ hb7 | with_reducible refine Ext.trans ?_ hb6 | with_reducible refine Ext.trans ?_ hb5 | with_reducible refine Ext.trans ?_ hb4 | with_reducible refine Ext.trans ?_ hb3 | with_reducible refine Ext.trans ?_ hb2 | with_reducible refine Ext.trans ?_ hb1 | with_reducible refine Ext.trans ?_ hw))), by rw [hf1'.out hm hr]; exact (hB3.set 2 _).set 3 _, ((((((hC.ext hb2).ext hb3)).ext hb4).setOther (by simp; omega) _).setOther (by simp; omega) _), ((((((hZ.ext hb2).ext hb3)).ext hb4).setOther (by simp; omega) _).setOther (by simp; omega) _), ((((((hY.ext hb2).ext hb3)).ext hb4).setOther (by simp; omega) _).setOther (by simp; omega) _)⟩
          case measure => omega
        · go_wp2
          go_roundg (96 - (k + 1))
          case rel => exact ⟨k + 1, nextC s, rfl, hkl, rfl, rfl, by rw [hf2'.out hm hr], n0, n1, by ((repeat (first | with_reducible exact Ext.refl _ | with_reducible exact hw | with_reducible exact hb9 | with_reducible exact hb8 | with_reducible exact hb7 | with_reducible exact hb6 | with_reducible exact hb5 | with_reducible exact hb4 | with_reducible exact hb3 | with_reducible exact hb2 | with_reducible exact hb1 | with_reducible refine Ext.alloc ?_ _ | with_reducible refine Ext.drew ?_ | ((with_reducible refine Ext.set ?_ ?_ _); focus (dsimp only; omega)) | with_reducible refine Ext.trans ?_ hb9 | with_reducible refine Ext.trans ?_ hb8 | with_reducible refine Ext.trans ?_ hb7 | with_reducible refine Ext.trans ?_ hb6 | with_reducible refine Ext.trans ?_ hb5 | with_reducible refine Ext.trans ?_ hb4 | with_reducible refine Ext.trans ?_ hb3 | with_reducible refine Ext.trans ?_ hb2 | with_reducible refine Ext.trans ?_ hb1 | with_reducible refine Ext.trans ?_ hw))), by rw [hf2'.out hm hr]; exact (hB.ext hb2).ext hb3, (hC.ext hb2).ext hb3, (hZ.ext hb2).ext hb3, (hY.ext hb2).ext hb3⟩
          case measure => omega
      | false =>
        go_wp2_with fail
        refine Calls.mono (spec_l01Has x.m k (by omega) (by omega) _) ?_
        rintro e w3 ⟨rfl, hb3⟩
        by_cases hr : nextC s / 65536 % 1000 < torn
        · have hB2 := (hB.ext hb2).ext hb3
          have e0 : w3.cell? ⟨w1b.heap.size, 0, none⟩ = some (.int .u64 (lo tm)) := hB2.cell 0
          have e1 : w3.cell? ⟨w1b.heap.size, 1, none⟩ = some (.int .u64 (hi tm)) := hB2.cell 1
          have l2 := hB2.lt
          have y0 := hB2.frozen 0
          have y1 := hB2.frozen 1
          go_wp2
          refine wp_region_ext_tail 5 5 (by kernel_rfl) (by kernel_rfl) (by intro d _ _ _ _ h; cases d <;> exact h) ?_
          simp only [List.take_succ_cons, List.take_zero, List.drop_succ_cons, List.drop_zero]
          repeat (first | go_big_quiet_step ((first | (go_at_call 25; with_reducible exact Calls.ext_of (spec_l01Bit k (by omega) (by omega) _)) | (go_at_call 24; with_reducible exact Calls.ext_of (spec_l01Join _ _ _)))) | quiet_step ((first | (go_at_call 25; with_reducible exact Calls.ext_of (spec_l01Bit k (by omega) (by omega) _)) | (go_at_call 24; with_reducible exact Calls.ext_of (spec_l01Join _ _ _)))))
          refine wpQuiet_nil ?_
          intro w4 hq4
          have hb4 := ext_of_class hq4
          clear hq4
          obtain ⟨hc4, hf4, hz4⟩ := bcell3 hb4
          try simp at hz4
          have hB3 := hB2.ext hb4
          have f0 := hB3.frozen 0
          have f1 := hB3.frozen 1
          have d0 := hB3.cell 0
          have d1 := hB3.cell 1
          go_wp2
          go_roundg (96 - (k + 1))
          case rel => exact ⟨k + 1, nextC s, rfl, hkl, rfl, rfl, by rw [hf3'.out hm hr], n0, n1, by ((repeat (first | with_reducible exact Ext.refl _ | with_reducible exact hw | with_reducible exact hb9 | with_reducible exact hb8 | with_reducible exact hb7 | with_reducible exact hb6 | with_reducible exact hb5 | with_reducible exact hb4 | with_reducible exact hb3 | with_reducible exact hb2 | with_reducible exact hb1 | with_reducible refine Ext.alloc ?_ _ | with_reducible refine Ext.drew ?_ | ((with_reducible refine Ext.set ?_ ?_ _); focus (dsimp only; omega)) | with_reducible refine Ext.trans ?_ hb9 | with_reducible refine Ext.trans ?_ hb8 | with_reducible refine Ext.trans ?_ hb7 | with_reducible refine Ext.trans ?_ hb6 | with_reducible refine Ext.trans ?_ hb5 | with_reducible refine Ext.trans ?_ hb4 | with_reducible refine Ext.trans ?_ hb3 | with_reducible refine Ext.trans ?_ hb2 | with_reducible refine Ext.trans ?_ hb1 | with_reducible refine Ext.trans ?_ hw))), by rw [hf3'.out hm hr]; exact (hB3.set 0 _).set 1 _, ((((((hC.ext hb2).ext hb3)).ext hb4).setOther (by simp; omega) _).setOther (by simp; omega) _), ((((((hZ.ext hb2).ext hb3)).ext hb4).setOther (by simp; omega) _).setOther (by simp; omega) _), ((((((hY.ext hb2).ext hb3)).ext hb4).setOther (by simp; omega) _).setOther (by simp; omega) _)⟩
          case measure => omega
        · go_wp2
          go_roundg (96 - (k + 1))
          case rel => exact ⟨k + 1, nextC s, rfl, hkl, rfl, rfl, by rw [hf4'.out hm hr], n0, n1, by ((repeat (first | with_reducible exact Ext.refl _ | with_reducible exact hw | with_reducible exact hb9 | with_reducible exact hb8 | with_reducible exact hb7 | with_reducible exact hb6 | with_reducible exact hb5 | with_reducible exact hb4 | with_reducible exact hb3 | with_reducible exact hb2 | with_reducible exact hb1 | with_reducible refine Ext.alloc ?_ _ | with_reducible refine Ext.drew ?_ | ((with_reducible refine Ext.set ?_ ?_ _); focus (dsimp only; omega)) | with_reducible refine Ext.trans ?_ hb9 | with_reducible refine Ext.trans ?_ hb8 | with_reducible refine Ext.trans ?_ hb7 | with_reducible refine Ext.trans ?_ hb6 | with_reducible refine Ext.trans ?_ hb5 | with_reducible refine Ext.trans ?_ hb4 | with_reducible refine Ext.trans ?_ hb3 | with_reducible refine Ext.trans ?_ hb2 | with_reducible refine Ext.trans ?_ hb1 | with_reducible refine Ext.trans ?_ hw))), by rw [hf4'.out hm hr]; exact (hB.ext hb2).ext hb3, (hC.ext hb2).ext hb3, (hZ.ext hb2).ext hb3, (hY.ext hb2).ext hb3⟩
          case measure => omega
    · obtain rfl : k = 96 := by omega
      generalize htm : (chTo x.m torn filled seed 96).2.1 = tm at hB
      generalize hfm : (chTo x.m torn filled seed 96).2.2 = fm at hB
      have hS' := hd hS
      have htm' := hd htm
      have hfm' := hd hfm
      clear hS htm hfm
      have a0 : wr.cell? ⟨w1b.heap.size, 0, none⟩ = some (.int .u64 (lo tm)) := hB.cell 0
      have a1 : wr.cell? ⟨w1b.heap.size, 1, none⟩ = some (.int .u64 (hi tm)) := hB.cell 1
      have a2 : wr.cell? ⟨w1b.heap.size, 2, none⟩ = some (.int .u64 (lo fm)) := hB.cell 2
      have a3 : wr.cell? ⟨w1b.heap.size, 3, none⟩ = some (.int .u64 (hi fm)) := hB.cell 3
      have b0 : wr.cell? ⟨w.heap.size, 0, none⟩ = some (.string x.nm) := hC.cell 0
      have b1 : wr.cell? ⟨w.heap.size, 1, none⟩ = some (.int .u64 (lo x.m)) := hC.cell 1
      have b2 : wr.cell? ⟨w.heap.size, 2, none⟩ = some (.int .u64 (hi x.m)) := hC.cell 2
      go_wp2_with fail
      refine Calls.mono (spec_l04Worn tm fm x.m w1b.heap.size 0 _ hB.lt a0 a1 a2 a3) ?_
      rintro e w2 ⟨rfl, hb2⟩
      have hB2 := hB.ext hb2
      have hC2 := hC.ext hb2
      have hZ2 := hZ.ext hb2
      have hY2 := hY.ext hb2
      have l0 := hB2.lt
      have l1 := hC2.lt
      have l2 := hZ2.lt
      have l3 := hY2.lt
      have p0 : w2.cell? ⟨w1b.heap.size, 0, none⟩ = some (.int .u64 (lo tm)) := hB2.cell 0
      have p1 : w2.cell? ⟨w1b.heap.size, 1, none⟩ = some (.int .u64 (hi tm)) := hB2.cell 1
      have p2 : w2.cell? ⟨w1b.heap.size, 2, none⟩ = some (.int .u64 (lo fm)) := hB2.cell 2
      have p3 : w2.cell? ⟨w1b.heap.size, 3, none⟩ = some (.int .u64 (hi fm)) := hB2.cell 3
      have q0 : w2.cell? ⟨w.heap.size, 0, none⟩ = some (.string x.nm) := hC2.cell 0
      have q1 : w2.cell? ⟨w.heap.size, 1, none⟩ = some (.int .u64 (lo x.m)) := hC2.cell 1
      have q2 : w2.cell? ⟨w.heap.size, 2, none⟩ = some (.int .u64 (hi x.m)) := hC2.cell 2
      have r0 : w2.cell? ⟨w.heap.size + 1, 0, none⟩ = some (.string ⟨#[]⟩) := hZ2.cell 0
      have r1 : w2.cell? ⟨w.heap.size + 1, 1, none⟩ = some (.int .u64 0) := hZ2.cell 1
      have r2 : w2.cell? ⟨w.heap.size + 1, 2, none⟩ = some (.int .u64 0) := hZ2.cell 2
      have u0 : w2.cell? ⟨w.heap.size + 1 + 1, 0, none⟩ = some (.int .u64 0) := hY2.cell 0
      have u1 : w2.cell? ⟨w.heap.size + 1 + 1, 1, none⟩ = some (.int .u64 0) := hY2.cell 1
      have u2 : w2.cell? ⟨w.heap.size + 1 + 1, 2, none⟩ = some (.int .u64 0) := hY2.cell 2
      have u3 : w2.cell? ⟨w.heap.size + 1 + 1, 3, none⟩ = some (.int .u64 0) := hY2.cell 3
      have fC := hC2.frozen
      have fZ := hZ2.frozen
      have fY := hY2.frozen
      have ne1 : w.heap.size + 1 + 1 < w1b.heap.size := by have := hb1a.size; have := hb1b.size; omega
      go_wp2_with fail
      go_region
      go_wp2
      refine bodyPost_ret (v := .tuple #[.agg #[.string x.nm, .int .u64 (lo (wornM tm fm x.m)), .int .u64 (hi (wornM tm fm x.m))], .agg #[.int .u64 (lo tm), .int .u64 (hi tm), .int .u64 (lo fm), .int .u64 (hi fm)], .int .u32 s, .int .i64 0]) (by simp [results, Tryz.results18, go_sem, r0, r1, r2, u0, u1, u2, u3]) rfl ⟨by rw [htm'.out, hfm'.out, hS'.out], ?_⟩
      (repeat (first | with_reducible exact Ext.refl _ | with_reducible exact hw | with_reducible exact hb9 | with_reducible exact hb8 | with_reducible exact hb7 | with_reducible exact hb6 | with_reducible exact hb5 | with_reducible exact hb4 | with_reducible exact hb3 | with_reducible exact hb2 | with_reducible exact hb1 | with_reducible refine Ext.alloc ?_ _ | with_reducible refine Ext.drew ?_ | ((with_reducible refine Ext.set ?_ ?_ _); focus (dsimp only; omega)) | with_reducible refine Ext.trans ?_ hb9 | with_reducible refine Ext.trans ?_ hb8 | with_reducible refine Ext.trans ?_ hb7 | with_reducible refine Ext.trans ?_ hb6 | with_reducible refine Ext.trans ?_ hb5 | with_reducible refine Ext.trans ?_ hb4 | with_reducible refine Ext.trans ?_ hb3 | with_reducible refine Ext.trans ?_ hb2 | with_reducible refine Ext.trans ?_ hb1 | with_reducible refine Ext.trans ?_ hw))
