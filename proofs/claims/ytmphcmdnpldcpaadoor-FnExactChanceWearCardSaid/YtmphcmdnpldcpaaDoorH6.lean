/-
  The walk of the law FnExactChanceWear.
-/
import Derived.Test.YtmphcmdnpldcpaaDoorH5
set_option linter.unusedVariables false
set_option linter.unusedSimpArgs false
namespace Go.Proofs.YtmphcmdnpldcpaaDoor
open Go.RowKit
set_option maxRecDepth 100000 in
set_option maxHeartbeats 1000000 in
theorem laws_FnExactChanceWear (y : Crd) (hnm : y.nm.size ≤ 9223372036854775807) (seed torn filled : Int) (s0 : 0 ≤ seed) (s1 : seed < 4294967296) (w : World) :
    Calls Tryd.prog 5 #[.agg #[.string y.nm, .int .u64 (lo y.m), .int .u64 (hi y.m)], .int .u32 seed, .int .i64 torn, .int .i64 filled] w fun e w' => e = .returned (.bool true) ∧ Ext w w' := by
  have r1 := crdB_refl (chF y seed torn filled).1
  have r2 : meqB (chF y seed torn filled).2.1 (chF y seed torn filled).2.1 = true := by simp [meqB]
  have r3 : meqB (chF y seed torn filled).2.2.1 (chF y seed torn filled).2.2.1 = true := by simp [meqB]
  go_enter Tryd.func5, Tryd.ntmps5
  go_wp2_with fail
  refine Calls.mono (laws_szCard y 1048576 (by omega) (by omega) hnm _) ?_
  rintro e w1 ⟨rfl, hb1⟩
  obtain ⟨hc1, hf1, hz1⟩ := bcell3 hb1
  try simp at hz1
  have hz1_0 : w.heap.size < w1.heap.size := by omega
  by_cases hr : szF y.nm.size 1048576 < 0
  · generalize szF y.nm.size 1048576 = r at hr
    go_wp2
    go_ret
    refine ⟨rfl, ?_⟩
    (repeat (first | with_reducible exact Ext.refl _ | with_reducible exact hw | with_reducible exact hb9 | with_reducible exact hb8 | with_reducible exact hb7 | with_reducible exact hb6 | with_reducible exact hb5 | with_reducible exact hb4 | with_reducible exact hb3 | with_reducible exact hb2 | with_reducible exact hb1 | with_reducible refine Ext.alloc ?_ _ | with_reducible refine Ext.drew ?_ | ((with_reducible refine Ext.set ?_ ?_ _); focus (dsimp only; omega)) | with_reducible refine Ext.trans ?_ hb9 | with_reducible refine Ext.trans ?_ hb8 | with_reducible refine Ext.trans ?_ hb7 | with_reducible refine Ext.trans ?_ hb6 | with_reducible refine Ext.trans ?_ hb5 | with_reducible refine Ext.trans ?_ hb4 | with_reducible refine Ext.trans ?_ hb3 | with_reducible refine Ext.trans ?_ hb2 | with_reducible refine Ext.trans ?_ hb1 | with_reducible refine Ext.trans ?_ hw))
  · generalize szF y.nm.size 1048576 = r at hr
    have c0_0 : w1.cell? ⟨w.heap.size, 0, none⟩ = some (.string y.nm) := by go_simp
    have f0_0 : w1.frozen? ⟨w.heap.size, 0, none⟩ = false := by go_simp
    have c0_1 : w1.cell? ⟨w.heap.size, 1, none⟩ = some (.int .u64 (lo y.m)) := by go_simp
    have f0_1 : w1.frozen? ⟨w.heap.size, 1, none⟩ = false := by go_simp
    have c0_2 : w1.cell? ⟨w.heap.size, 2, none⟩ = some (.int .u64 (hi y.m)) := by go_simp
    have f0_2 : w1.frozen? ⟨w.heap.size, 2, none⟩ = false := by go_simp
    try clear hc1 hf1
    try clear hc2 hf2
    try clear hc3 hf3
    try clear hc4 hf4
    try clear hc5 hf5
    try clear hc6 hf6
    try clear hc7 hf7
    try clear hc8 hf8
    try clear hc9 hf9
    go_wp2_with fail
    refine Calls.mono (laws_toCard y _) ?_
    rintro e w2 ⟨rfl, hb2⟩
    obtain ⟨hc2, hf2, hz2⟩ := bcell3 hb2
    try simp at hz2
    have hz2_0 : w.heap.size < w2.heap.size := by omega
    go_wp2_with fail
    refine Calls.mono (spec_Chance y hnm seed torn filled s0 s1 _) ?_
    rintro e w3 ⟨rfl, hb3⟩
    obtain ⟨hc3, hf3, hz3⟩ := bcell3 hb3
    try simp at hz3
    have hz3_0 : w.heap.size < w3.heap.size := by omega
    go_wp2_with fail
    refine Calls.mono (laws_toCard y _) ?_
    rintro e w4 ⟨rfl, hb4⟩
    obtain ⟨hc4, hf4, hz4⟩ := bcell3 hb4
    try simp at hz4
    have hz4_0 : w.heap.size < w4.heap.size := by omega
    have q4 : w3.heap.size < w4.heap.size := by omega
    have q4' : w3.heap.size + 1 < w4.heap.size := by omega
    go_wp2_with fail
    refine Calls.mono (impl_Chance y hnm seed torn filled s0 s1 _) ?_
    rintro e w5 ⟨rfl, hb5⟩
    obtain ⟨hc5, hf5, hz5⟩ := bcell3 hb5
    try simp at hz5
    have hz5_0 : w.heap.size < w5.heap.size := by omega
    have q5 : w3.heap.size < w5.heap.size := by omega
    have q5' : w3.heap.size + 1 < w5.heap.size := by omega
    go_wp2_with fail
    refine Calls.mono (laws_eqCard (chF y seed torn filled).1 (chF y seed torn filled).1 _) ?_
    rintro e w6 ⟨rfl, hb6⟩
    obtain ⟨hc6, hf6, hz6⟩ := bcell3 hb6
    try simp at hz6
    have hz6_0 : w.heap.size < w6.heap.size := by omega
    have q6 : w3.heap.size < w6.heap.size := by omega
    have q6' : w3.heap.size + 1 < w6.heap.size := by omega
    have q7 : w5.heap.size < w6.heap.size := by omega
    have q7' : w5.heap.size + 1 < w6.heap.size := by omega
    go_wp2_with fail
    refine Calls.mono (laws_eqWear _ _ _ _ _) ?_
    rintro e w7 ⟨rfl, hb7⟩
    obtain ⟨hc7, hf7, hz7⟩ := bcell3 hb7
    try simp at hz7
    have hz7_0 : w.heap.size < w7.heap.size := by omega
    go_wp2
    go_ret
    refine ⟨rfl, ?_⟩
    (repeat (first | with_reducible exact Ext.refl _ | with_reducible exact hw | with_reducible exact hb9 | with_reducible exact hb8 | with_reducible exact hb7 | with_reducible exact hb6 | with_reducible exact hb5 | with_reducible exact hb4 | with_reducible exact hb3 | with_reducible exact hb2 | with_reducible exact hb1 | with_reducible refine Ext.alloc ?_ _ | with_reducible refine Ext.drew ?_ | ((with_reducible refine Ext.set ?_ ?_ _); focus (dsimp only; omega)) | with_reducible refine Ext.trans ?_ hb9 | with_reducible refine Ext.trans ?_ hb8 | with_reducible refine Ext.trans ?_ hb7 | with_reducible refine Ext.trans ?_ hb6 | with_reducible refine Ext.trans ?_ hb5 | with_reducible refine Ext.trans ?_ hb4 | with_reducible refine Ext.trans ?_ hb3 | with_reducible refine Ext.trans ?_ hb2 | with_reducible refine Ext.trans ?_ hb1 | with_reducible refine Ext.trans ?_ hw))
