/-
  The reference's ChanceWear at chances out of range.
-/
import Derived.Test.YthkphhacmneeiaaGreatDoorH0
set_option linter.unusedVariables false
set_option linter.unusedSimpArgs false
namespace Go.Proofs.YthkphhacmneeiaaGreatDoor
open Go.RowKit
set_option maxRecDepth 100000 in
set_option maxHeartbeats 1000000 in
theorem spec_ChanceWear_bad2 (x : Crd) (hnm : x.nm.size ≤ 9223372036854775807) (seed torn filled : Int) (hcard : isCardB x = true) (hr : ¬ (0 ≤ torn ∧ torn ≤ 1000 ∧ 0 ≤ filled ∧ filled ≤ 1000)) (w : World) :
    Calls Tryz.prog 18 #[.agg #[.string x.nm, .int .u64 (lo x.m), .int .u64 (hi x.m)], .int .u32 seed, .int .i64 torn, .int .i64 filled] w fun e w' => e = .returned (.tuple #[.agg #[.string ⟨#[]⟩, .int .u64 0, .int .u64 0], .agg #[.int .u64 0, .int .u64 0, .int .u64 0, .int .u64 0], .int .u32 0, .int .i64 2]) ∧ Ext w w' := by
  cases h1 : inB torn 0 1000
  · clear hr
    go_enter Tryz.func18, Tryz.ntmps18
    go_wp2_with fail
    refine Calls.mono (spec_l01Ok x hnm w.heap.size 0 _ (by first | omega | (simp <;> omega)) (by go_simp) (by go_simp) (by go_simp)) ?_
    rintro e w1 ⟨rfl, hb1⟩
    obtain ⟨hc1, hf1, hz1⟩ := bcell3 hb1
    try simp at hz1
    have hz1_0 : w.heap.size < w1.heap.size := by omega
    have hz1_1 : w.heap.size + 1 < w1.heap.size := by omega
    have hz1_2 : w.heap.size + 1 + 1 < w1.heap.size := by omega
    go_wp2_with fail
    refine Calls.mono (spec_l00In torn 0 1000 _) ?_
    rintro e w2 ⟨rfl, hb2⟩
    obtain ⟨hc2, hf2, hz2⟩ := bcell3 hb2
    try simp at hz2
    have hz2_0 : w.heap.size < w2.heap.size := by omega
    have hz2_1 : w.heap.size + 1 < w2.heap.size := by omega
    have hz2_2 : w.heap.size + 1 + 1 < w2.heap.size := by omega
    have c1_0 : w2.cell? ⟨w.heap.size + 1, 0, none⟩ = some (.string ⟨#[]⟩) := by go_simp
    have f1_0 : w2.frozen? ⟨w.heap.size + 1, 0, none⟩ = false := by go_simp
    have c1_1 : w2.cell? ⟨w.heap.size + 1, 1, none⟩ = some (.int .u64 0) := by go_simp
    have f1_1 : w2.frozen? ⟨w.heap.size + 1, 1, none⟩ = false := by go_simp
    have c1_2 : w2.cell? ⟨w.heap.size + 1, 2, none⟩ = some (.int .u64 0) := by go_simp
    have f1_2 : w2.frozen? ⟨w.heap.size + 1, 2, none⟩ = false := by go_simp
    have c2_0 : w2.cell? ⟨w.heap.size + 1 + 1, 0, none⟩ = some (.int .u64 0) := by go_simp
    have f2_0 : w2.frozen? ⟨w.heap.size + 1 + 1, 0, none⟩ = false := by go_simp
    have c2_1 : w2.cell? ⟨w.heap.size + 1 + 1, 1, none⟩ = some (.int .u64 0) := by go_simp
    have f2_1 : w2.frozen? ⟨w.heap.size + 1 + 1, 1, none⟩ = false := by go_simp
    have c2_2 : w2.cell? ⟨w.heap.size + 1 + 1, 2, none⟩ = some (.int .u64 0) := by go_simp
    have f2_2 : w2.frozen? ⟨w.heap.size + 1 + 1, 2, none⟩ = false := by go_simp
    have c2_3 : w2.cell? ⟨w.heap.size + 1 + 1, 3, none⟩ = some (.int .u64 0) := by go_simp
    have f2_3 : w2.frozen? ⟨w.heap.size + 1 + 1, 3, none⟩ = false := by go_simp
    try clear hc1 hf1
    try clear hc2 hf2
    try clear hc3 hf3
    try clear hc4 hf4
    try clear hc5 hf5
    try clear hc6 hf6
    try clear hc7 hf7
    try clear hc8 hf8
    try clear hc9 hf9
    go_wp2
    refine bodyPost_ret (v := .tuple #[.agg #[.string ⟨#[]⟩, .int .u64 0, .int .u64 0], .agg #[.int .u64 0, .int .u64 0, .int .u64 0, .int .u64 0], .int .u32 0, .int .i64 2]) (by simp [results, Tryz.results18, go_sem, c1_0, c1_1, c1_2, c2_0, c2_1, c2_2, c2_3]) rfl ⟨rfl, ?_⟩
    (repeat (first | with_reducible exact Ext.refl _ | with_reducible exact hw | with_reducible exact hb9 | with_reducible exact hb8 | with_reducible exact hb7 | with_reducible exact hb6 | with_reducible exact hb5 | with_reducible exact hb4 | with_reducible exact hb3 | with_reducible exact hb2 | with_reducible exact hb1 | with_reducible refine Ext.alloc ?_ _ | with_reducible refine Ext.drew ?_ | ((with_reducible refine Ext.set ?_ ?_ _); focus (dsimp only; omega)) | with_reducible refine Ext.trans ?_ hb9 | with_reducible refine Ext.trans ?_ hb8 | with_reducible refine Ext.trans ?_ hb7 | with_reducible refine Ext.trans ?_ hb6 | with_reducible refine Ext.trans ?_ hb5 | with_reducible refine Ext.trans ?_ hb4 | with_reducible refine Ext.trans ?_ hb3 | with_reducible refine Ext.trans ?_ hb2 | with_reducible refine Ext.trans ?_ hb1 | with_reducible refine Ext.trans ?_ hw))
  · have h2 : inB filled 0 1000 = false := by simp [inB] at h1 ⊢; omega
    clear hr
    go_enter Tryz.func18, Tryz.ntmps18
    go_wp2_with fail
    refine Calls.mono (spec_l01Ok x hnm w.heap.size 0 _ (by first | omega | (simp <;> omega)) (by go_simp) (by go_simp) (by go_simp)) ?_
    rintro e w1 ⟨rfl, hb1⟩
    obtain ⟨hc1, hf1, hz1⟩ := bcell3 hb1
    try simp at hz1
    have hz1_0 : w.heap.size < w1.heap.size := by omega
    have hz1_1 : w.heap.size + 1 < w1.heap.size := by omega
    have hz1_2 : w.heap.size + 1 + 1 < w1.heap.size := by omega
    go_wp2_with fail
    refine Calls.mono (spec_l00In torn 0 1000 _) ?_
    rintro e w2 ⟨rfl, hb2⟩
    obtain ⟨hc2, hf2, hz2⟩ := bcell3 hb2
    try simp at hz2
    have hz2_0 : w.heap.size < w2.heap.size := by omega
    have hz2_1 : w.heap.size + 1 < w2.heap.size := by omega
    have hz2_2 : w.heap.size + 1 + 1 < w2.heap.size := by omega
    go_wp2_with fail
    refine Calls.mono (spec_l00In filled 0 1000 _) ?_
    rintro e w3 ⟨rfl, hb3⟩
    obtain ⟨hc3, hf3, hz3⟩ := bcell3 hb3
    try simp at hz3
    have hz3_0 : w.heap.size < w3.heap.size := by omega
    have hz3_1 : w.heap.size + 1 < w3.heap.size := by omega
    have hz3_2 : w.heap.size + 1 + 1 < w3.heap.size := by omega
    have c1_0 : w3.cell? ⟨w.heap.size + 1, 0, none⟩ = some (.string ⟨#[]⟩) := by go_simp
    have f1_0 : w3.frozen? ⟨w.heap.size + 1, 0, none⟩ = false := by go_simp
    have c1_1 : w3.cell? ⟨w.heap.size + 1, 1, none⟩ = some (.int .u64 0) := by go_simp
    have f1_1 : w3.frozen? ⟨w.heap.size + 1, 1, none⟩ = false := by go_simp
    have c1_2 : w3.cell? ⟨w.heap.size + 1, 2, none⟩ = some (.int .u64 0) := by go_simp
    have f1_2 : w3.frozen? ⟨w.heap.size + 1, 2, none⟩ = false := by go_simp
    have c2_0 : w3.cell? ⟨w.heap.size + 1 + 1, 0, none⟩ = some (.int .u64 0) := by go_simp
    have f2_0 : w3.frozen? ⟨w.heap.size + 1 + 1, 0, none⟩ = false := by go_simp
    have c2_1 : w3.cell? ⟨w.heap.size + 1 + 1, 1, none⟩ = some (.int .u64 0) := by go_simp
    have f2_1 : w3.frozen? ⟨w.heap.size + 1 + 1, 1, none⟩ = false := by go_simp
    have c2_2 : w3.cell? ⟨w.heap.size + 1 + 1, 2, none⟩ = some (.int .u64 0) := by go_simp
    have f2_2 : w3.frozen? ⟨w.heap.size + 1 + 1, 2, none⟩ = false := by go_simp
    have c2_3 : w3.cell? ⟨w.heap.size + 1 + 1, 3, none⟩ = some (.int .u64 0) := by go_simp
    have f2_3 : w3.frozen? ⟨w.heap.size + 1 + 1, 3, none⟩ = false := by go_simp
    try clear hc1 hf1
    try clear hc2 hf2
    try clear hc3 hf3
    try clear hc4 hf4
    try clear hc5 hf5
    try clear hc6 hf6
    try clear hc7 hf7
    try clear hc8 hf8
    try clear hc9 hf9
    go_wp2
    refine bodyPost_ret (v := .tuple #[.agg #[.string ⟨#[]⟩, .int .u64 0, .int .u64 0], .agg #[.int .u64 0, .int .u64 0, .int .u64 0, .int .u64 0], .int .u32 0, .int .i64 2]) (by simp [results, Tryz.results18, go_sem, c1_0, c1_1, c1_2, c2_0, c2_1, c2_2, c2_3]) rfl ⟨rfl, ?_⟩
    (repeat (first | with_reducible exact Ext.refl _ | with_reducible exact hw | with_reducible exact hb9 | with_reducible exact hb8 | with_reducible exact hb7 | with_reducible exact hb6 | with_reducible exact hb5 | with_reducible exact hb4 | with_reducible exact hb3 | with_reducible exact hb2 | with_reducible exact hb1 | with_reducible refine Ext.alloc ?_ _ | with_reducible refine Ext.drew ?_ | ((with_reducible refine Ext.set ?_ ?_ _); focus (dsimp only; omega)) | with_reducible refine Ext.trans ?_ hb9 | with_reducible refine Ext.trans ?_ hb8 | with_reducible refine Ext.trans ?_ hb7 | with_reducible refine Ext.trans ?_ hb6 | with_reducible refine Ext.trans ?_ hb5 | with_reducible refine Ext.trans ?_ hb4 | with_reducible refine Ext.trans ?_ hb3 | with_reducible refine Ext.trans ?_ hb2 | with_reducible refine Ext.trans ?_ hb1 | with_reducible refine Ext.trans ?_ hw))
