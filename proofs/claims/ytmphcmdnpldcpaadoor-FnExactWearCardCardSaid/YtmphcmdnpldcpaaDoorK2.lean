/-
  Contracts of WearCard, and the law's walk.
-/
import Derived.Test.YtmphcmdnpldcpaaDoorK1
import Derived.Test.YtmphcmdnpldcpaaDoorL1
set_option linter.unusedVariables false
set_option linter.unusedSimpArgs false
namespace Go.Proofs.YtmphcmdnpldcpaaDoor
open Go.RowKit
set_option maxHeartbeats 400000 in
theorem impl_WearCard (x : Crd) (hx : x.nm.size ≤ 9223372036854775807) (t f : Mask) (w : World) :
    Calls Tryd.prog 10 #[.agg #[.string x.nm, .int .u64 (lo x.m), .int .u64 (hi x.m)], .agg #[.int .u64 (lo t), .int .u64 (hi t), .int .u64 (lo f), .int .u64 (hi f)]] w fun e w' => e = .returned (.tuple #[.agg #[.string (wearF x t f).1.nm, .int .u64 (lo (wearF x t f).1.m), .int .u64 (hi (wearF x t f).1.m)], .int .i64 (wearF x t f).2]) ∧ Ext w w' := by
  cases h1 : isCardB x
  · rw [wearF_miss1 h1]
    go_enter Tryd.func10, Tryd.ntmps10
    go_wp2_with fail
    refine Calls.mono (impl_isCard x hx _) ?_
    rintro e w1 ⟨rfl, hb1⟩
    obtain ⟨hc1, hf1, hz1⟩ := bcell3 hb1
    try simp at hz1
    have hz1_0 : w.heap.size < w1.heap.size := by omega
    have hz1_1 : w.heap.size + 1 < w1.heap.size := by omega
    have hz1_2 : w.heap.size + 1 + 1 < w1.heap.size := by omega
    go_wp2
    have c0 : w1.cell? ⟨w.heap.size + 1 + 1, 0, none⟩ = some (.string ⟨#[]⟩) := by go_simp
    have c1 : w1.cell? ⟨w.heap.size + 1 + 1, 1, none⟩ = some (.int .u64 0) := by go_simp
    have c2 : w1.cell? ⟨w.heap.size + 1 + 1, 2, none⟩ = some (.int .u64 0) := by go_simp
    try clear hc1 hf1
    try clear hc2 hf2
    try clear hc3 hf3
    try clear hc4 hf4
    try clear hc5 hf5
    try clear hc6 hf6
    try clear hc7 hf7
    try clear hc8 hf8
    try clear hc9 hf9
    refine bodyPost_ret (v := .tuple #[.agg #[.string ⟨#[]⟩, .int .u64 0, .int .u64 0], .int .i64 1]) (by simp [results, Tryd.results10, go_sem, c0, c1, c2]) rfl ⟨rfl, ?_⟩
    (repeat (first | with_reducible exact Ext.refl _ | with_reducible exact hw | with_reducible exact hb9 | with_reducible exact hb8 | with_reducible exact hb7 | with_reducible exact hb6 | with_reducible exact hb5 | with_reducible exact hb4 | with_reducible exact hb3 | with_reducible exact hb2 | with_reducible exact hb1 | with_reducible refine Ext.alloc ?_ _ | with_reducible refine Ext.drew ?_ | ((with_reducible refine Ext.set ?_ ?_ _); focus (dsimp only; omega)) | with_reducible refine Ext.trans ?_ hb9 | with_reducible refine Ext.trans ?_ hb8 | with_reducible refine Ext.trans ?_ hb7 | with_reducible refine Ext.trans ?_ hb6 | with_reducible refine Ext.trans ?_ hb5 | with_reducible refine Ext.trans ?_ hb4 | with_reducible refine Ext.trans ?_ hb3 | with_reducible refine Ext.trans ?_ hb2 | with_reducible refine Ext.trans ?_ hb1 | with_reducible refine Ext.trans ?_ hw))
  · cases h2 : isWearB t f
    · rw [wearF_miss2 h2]
      go_enter Tryd.func10, Tryd.ntmps10
      go_wp2_with fail
      refine Calls.mono (impl_isCard x hx _) ?_
      rintro e w1 ⟨rfl, hb1⟩
      obtain ⟨hc1, hf1, hz1⟩ := bcell3 hb1
      try simp at hz1
      have hz1_0 : w.heap.size < w1.heap.size := by omega
      have hz1_1 : w.heap.size + 1 < w1.heap.size := by omega
      have hz1_2 : w.heap.size + 1 + 1 < w1.heap.size := by omega
      go_wp2_with fail
      refine Calls.mono (impl_isWear t f _) ?_
      rintro e w2 ⟨rfl, hb2⟩
      obtain ⟨hc2, hf2, hz2⟩ := bcell3 hb2
      try simp at hz2
      have hz2_0 : w.heap.size < w2.heap.size := by omega
      have hz2_1 : w.heap.size + 1 < w2.heap.size := by omega
      have hz2_2 : w.heap.size + 1 + 1 < w2.heap.size := by omega
      go_wp2
      have c0 : w2.cell? ⟨w.heap.size + 1 + 1, 0, none⟩ = some (.string ⟨#[]⟩) := by go_simp
      have c1 : w2.cell? ⟨w.heap.size + 1 + 1, 1, none⟩ = some (.int .u64 0) := by go_simp
      have c2 : w2.cell? ⟨w.heap.size + 1 + 1, 2, none⟩ = some (.int .u64 0) := by go_simp
      try clear hc1 hf1
      try clear hc2 hf2
      try clear hc3 hf3
      try clear hc4 hf4
      try clear hc5 hf5
      try clear hc6 hf6
      try clear hc7 hf7
      try clear hc8 hf8
      try clear hc9 hf9
      refine bodyPost_ret (v := .tuple #[.agg #[.string ⟨#[]⟩, .int .u64 0, .int .u64 0], .int .i64 1]) (by simp [results, Tryd.results10, go_sem, c0, c1, c2]) rfl ⟨rfl, ?_⟩
      (repeat (first | with_reducible exact Ext.refl _ | with_reducible exact hw | with_reducible exact hb9 | with_reducible exact hb8 | with_reducible exact hb7 | with_reducible exact hb6 | with_reducible exact hb5 | with_reducible exact hb4 | with_reducible exact hb3 | with_reducible exact hb2 | with_reducible exact hb1 | with_reducible refine Ext.alloc ?_ _ | with_reducible refine Ext.drew ?_ | ((with_reducible refine Ext.set ?_ ?_ _); focus (dsimp only; omega)) | with_reducible refine Ext.trans ?_ hb9 | with_reducible refine Ext.trans ?_ hb8 | with_reducible refine Ext.trans ?_ hb7 | with_reducible refine Ext.trans ?_ hb6 | with_reducible refine Ext.trans ?_ hb5 | with_reducible refine Ext.trans ?_ hb4 | with_reducible refine Ext.trans ?_ hb3 | with_reducible refine Ext.trans ?_ hb2 | with_reducible refine Ext.trans ?_ hb1 | with_reducible refine Ext.trans ?_ hw))
    · rw [wearF_hit h1 h2]
      go_enter Tryd.func10, Tryd.ntmps10
      go_wp2_with fail
      refine Calls.mono (impl_isCard x hx _) ?_
      rintro e w1 ⟨rfl, hb1⟩
      obtain ⟨hc1, hf1, hz1⟩ := bcell3 hb1
      try simp at hz1
      have hz1_0 : w.heap.size < w1.heap.size := by omega
      have hz1_1 : w.heap.size + 1 < w1.heap.size := by omega
      have hz1_2 : w.heap.size + 1 + 1 < w1.heap.size := by omega
      go_wp2_with fail
      refine Calls.mono (impl_isWear t f _) ?_
      rintro e w2 ⟨rfl, hb2⟩
      obtain ⟨hc2, hf2, hz2⟩ := bcell3 hb2
      try simp at hz2
      have hz2_0 : w.heap.size < w2.heap.size := by omega
      have hz2_1 : w.heap.size + 1 < w2.heap.size := by omega
      have hz2_2 : w.heap.size + 1 + 1 < w2.heap.size := by omega
      go_wp2_with fail
      refine Calls.mono (impl_on t f x.m _) ?_
      rintro e w3 ⟨rfl, hb3⟩
      obtain ⟨hc3, hf3, hz3⟩ := bcell3 hb3
      try simp at hz3
      have hz3_0 : w.heap.size < w3.heap.size := by omega
      have hz3_1 : w.heap.size + 1 < w3.heap.size := by omega
      have hz3_2 : w.heap.size + 1 + 1 < w3.heap.size := by omega
      have c0_0 : w3.cell? ⟨w.heap.size, 0, none⟩ = some (.string x.nm) := by go_simp
      have f0_0 : w3.frozen? ⟨w.heap.size, 0, none⟩ = false := by go_simp
      have c0_1 : w3.cell? ⟨w.heap.size, 1, none⟩ = some (.int .u64 (lo x.m)) := by go_simp
      have f0_1 : w3.frozen? ⟨w.heap.size, 1, none⟩ = false := by go_simp
      have c0_2 : w3.cell? ⟨w.heap.size, 2, none⟩ = some (.int .u64 (hi x.m)) := by go_simp
      have f0_2 : w3.frozen? ⟨w.heap.size, 2, none⟩ = false := by go_simp
      have c2_0 : w3.cell? ⟨w.heap.size + 1 + 1, 0, none⟩ = some (.string ⟨#[]⟩) := by go_simp
      have f2_0 : w3.frozen? ⟨w.heap.size + 1 + 1, 0, none⟩ = false := by go_simp
      have c2_1 : w3.cell? ⟨w.heap.size + 1 + 1, 1, none⟩ = some (.int .u64 0) := by go_simp
      have f2_1 : w3.frozen? ⟨w.heap.size + 1 + 1, 1, none⟩ = false := by go_simp
      have c2_2 : w3.cell? ⟨w.heap.size + 1 + 1, 2, none⟩ = some (.int .u64 0) := by go_simp
      have f2_2 : w3.frozen? ⟨w.heap.size + 1 + 1, 2, none⟩ = false := by go_simp
      try clear hc1 hf1
      try clear hc2 hf2
      try clear hc3 hf3
      try clear hc4 hf4
      try clear hc5 hf5
      try clear hc6 hf6
      try clear hc7 hf7
      try clear hc8 hf8
      try clear hc9 hf9
      go_wp2
      refine bodyPost_ret (v := .tuple #[.agg #[.string x.nm, .int .u64 (lo (wornM t f x.m)), .int .u64 (hi (wornM t f x.m))], .int .i64 0]) (by simp [results, Tryd.results10, go_sem, c2_0, c2_1, c2_2]) rfl ⟨rfl, ?_⟩
      (repeat (first | with_reducible exact Ext.refl _ | with_reducible exact hw | with_reducible exact hb9 | with_reducible exact hb8 | with_reducible exact hb7 | with_reducible exact hb6 | with_reducible exact hb5 | with_reducible exact hb4 | with_reducible exact hb3 | with_reducible exact hb2 | with_reducible exact hb1 | with_reducible refine Ext.alloc ?_ _ | with_reducible refine Ext.drew ?_ | ((with_reducible refine Ext.set ?_ ?_ _); focus (dsimp only; omega)) | with_reducible refine Ext.trans ?_ hb9 | with_reducible refine Ext.trans ?_ hb8 | with_reducible refine Ext.trans ?_ hb7 | with_reducible refine Ext.trans ?_ hb6 | with_reducible refine Ext.trans ?_ hb5 | with_reducible refine Ext.trans ?_ hb4 | with_reducible refine Ext.trans ?_ hb3 | with_reducible refine Ext.trans ?_ hb2 | with_reducible refine Ext.trans ?_ hb1 | with_reducible refine Ext.trans ?_ hw))
set_option maxHeartbeats 400000 in
theorem spec_WearCard (x : Crd) (hx : x.nm.size ≤ 9223372036854775807) (t f : Mask) (w : World) :
    Calls Tryd.prog 7 #[.agg #[.string x.nm, .int .u64 (lo x.m), .int .u64 (hi x.m)], .agg #[.int .u64 (lo t), .int .u64 (hi t), .int .u64 (lo f), .int .u64 (hi f)]] w fun e w' => e = .returned (.tuple #[.agg #[.string (wearF x t f).1.nm, .int .u64 (lo (wearF x t f).1.m), .int .u64 (hi (wearF x t f).1.m)], .int .i64 (wearF x t f).2]) ∧ Ext w w' := by
  cases h1 : isCardB x
  · rw [wearF_miss1 h1]
    go_enter Tryd.func7, Tryd.ntmps7
    go_wp2_with fail
    refine Calls.mono (spec_l01Ok x hx w.heap.size 0 _ (by first | omega | (simp <;> omega)) (by go_simp) (by go_simp) (by go_simp)) ?_
    rintro e w1 ⟨rfl, hb1⟩
    obtain ⟨hc1, hf1, hz1⟩ := bcell3 hb1
    try simp at hz1
    have hz1_0 : w.heap.size < w1.heap.size := by omega
    have hz1_1 : w.heap.size + 1 < w1.heap.size := by omega
    have hz1_2 : w.heap.size + 1 + 1 < w1.heap.size := by omega
    go_wp2
    have c0 : w1.cell? ⟨w.heap.size + 1 + 1, 0, none⟩ = some (.string ⟨#[]⟩) := by go_simp
    have c1 : w1.cell? ⟨w.heap.size + 1 + 1, 1, none⟩ = some (.int .u64 0) := by go_simp
    have c2 : w1.cell? ⟨w.heap.size + 1 + 1, 2, none⟩ = some (.int .u64 0) := by go_simp
    try clear hc1 hf1
    try clear hc2 hf2
    try clear hc3 hf3
    try clear hc4 hf4
    try clear hc5 hf5
    try clear hc6 hf6
    try clear hc7 hf7
    try clear hc8 hf8
    try clear hc9 hf9
    refine bodyPost_ret (v := .tuple #[.agg #[.string ⟨#[]⟩, .int .u64 0, .int .u64 0], .int .i64 1]) (by simp [results, Tryd.results7, go_sem, c0, c1, c2]) rfl ⟨rfl, ?_⟩
    (repeat (first | with_reducible exact Ext.refl _ | with_reducible exact hw | with_reducible exact hb9 | with_reducible exact hb8 | with_reducible exact hb7 | with_reducible exact hb6 | with_reducible exact hb5 | with_reducible exact hb4 | with_reducible exact hb3 | with_reducible exact hb2 | with_reducible exact hb1 | with_reducible refine Ext.alloc ?_ _ | with_reducible refine Ext.drew ?_ | ((with_reducible refine Ext.set ?_ ?_ _); focus (dsimp only; omega)) | with_reducible refine Ext.trans ?_ hb9 | with_reducible refine Ext.trans ?_ hb8 | with_reducible refine Ext.trans ?_ hb7 | with_reducible refine Ext.trans ?_ hb6 | with_reducible refine Ext.trans ?_ hb5 | with_reducible refine Ext.trans ?_ hb4 | with_reducible refine Ext.trans ?_ hb3 | with_reducible refine Ext.trans ?_ hb2 | with_reducible refine Ext.trans ?_ hb1 | with_reducible refine Ext.trans ?_ hw))
  · cases h2 : isWearB t f
    · rw [wearF_miss2 h2]
      go_enter Tryd.func7, Tryd.ntmps7
      go_wp2_with fail
      refine Calls.mono (spec_l01Ok x hx w.heap.size 0 _ (by first | omega | (simp <;> omega)) (by go_simp) (by go_simp) (by go_simp)) ?_
      rintro e w1 ⟨rfl, hb1⟩
      obtain ⟨hc1, hf1, hz1⟩ := bcell3 hb1
      try simp at hz1
      have hz1_0 : w.heap.size < w1.heap.size := by omega
      have hz1_1 : w.heap.size + 1 < w1.heap.size := by omega
      have hz1_2 : w.heap.size + 1 + 1 < w1.heap.size := by omega
      go_wp2_with fail
      refine Calls.mono (spec_l04Ok t f (w.heap.size + 1) 0 _ (by first | omega | (simp <;> omega)) (by go_simp) (by go_simp) (by go_simp) (by go_simp)) ?_
      rintro e w2 ⟨rfl, hb2⟩
      obtain ⟨hc2, hf2, hz2⟩ := bcell3 hb2
      try simp at hz2
      have hz2_0 : w.heap.size < w2.heap.size := by omega
      have hz2_1 : w.heap.size + 1 < w2.heap.size := by omega
      have hz2_2 : w.heap.size + 1 + 1 < w2.heap.size := by omega
      go_wp2
      have c0 : w2.cell? ⟨w.heap.size + 1 + 1, 0, none⟩ = some (.string ⟨#[]⟩) := by go_simp
      have c1 : w2.cell? ⟨w.heap.size + 1 + 1, 1, none⟩ = some (.int .u64 0) := by go_simp
      have c2 : w2.cell? ⟨w.heap.size + 1 + 1, 2, none⟩ = some (.int .u64 0) := by go_simp
      try clear hc1 hf1
      try clear hc2 hf2
      try clear hc3 hf3
      try clear hc4 hf4
      try clear hc5 hf5
      try clear hc6 hf6
      try clear hc7 hf7
      try clear hc8 hf8
      try clear hc9 hf9
      refine bodyPost_ret (v := .tuple #[.agg #[.string ⟨#[]⟩, .int .u64 0, .int .u64 0], .int .i64 1]) (by simp [results, Tryd.results7, go_sem, c0, c1, c2]) rfl ⟨rfl, ?_⟩
      (repeat (first | with_reducible exact Ext.refl _ | with_reducible exact hw | with_reducible exact hb9 | with_reducible exact hb8 | with_reducible exact hb7 | with_reducible exact hb6 | with_reducible exact hb5 | with_reducible exact hb4 | with_reducible exact hb3 | with_reducible exact hb2 | with_reducible exact hb1 | with_reducible refine Ext.alloc ?_ _ | with_reducible refine Ext.drew ?_ | ((with_reducible refine Ext.set ?_ ?_ _); focus (dsimp only; omega)) | with_reducible refine Ext.trans ?_ hb9 | with_reducible refine Ext.trans ?_ hb8 | with_reducible refine Ext.trans ?_ hb7 | with_reducible refine Ext.trans ?_ hb6 | with_reducible refine Ext.trans ?_ hb5 | with_reducible refine Ext.trans ?_ hb4 | with_reducible refine Ext.trans ?_ hb3 | with_reducible refine Ext.trans ?_ hb2 | with_reducible refine Ext.trans ?_ hb1 | with_reducible refine Ext.trans ?_ hw))
    · rw [wearF_hit h1 h2]
      go_enter Tryd.func7, Tryd.ntmps7
      go_wp2_with fail
      refine Calls.mono (spec_l01Ok x hx w.heap.size 0 _ (by first | omega | (simp <;> omega)) (by go_simp) (by go_simp) (by go_simp)) ?_
      rintro e w1 ⟨rfl, hb1⟩
      obtain ⟨hc1, hf1, hz1⟩ := bcell3 hb1
      try simp at hz1
      have hz1_0 : w.heap.size < w1.heap.size := by omega
      have hz1_1 : w.heap.size + 1 < w1.heap.size := by omega
      have hz1_2 : w.heap.size + 1 + 1 < w1.heap.size := by omega
      go_wp2_with fail
      refine Calls.mono (spec_l04Ok t f (w.heap.size + 1) 0 _ (by first | omega | (simp <;> omega)) (by go_simp) (by go_simp) (by go_simp) (by go_simp)) ?_
      rintro e w2 ⟨rfl, hb2⟩
      obtain ⟨hc2, hf2, hz2⟩ := bcell3 hb2
      try simp at hz2
      have hz2_0 : w.heap.size < w2.heap.size := by omega
      have hz2_1 : w.heap.size + 1 < w2.heap.size := by omega
      have hz2_2 : w.heap.size + 1 + 1 < w2.heap.size := by omega
      go_wp2_with fail
      refine Calls.mono (spec_l04Worn t f x.m (w.heap.size + 1) 0 _ (by first | omega | (simp <;> omega)) (by go_simp) (by go_simp) (by go_simp) (by go_simp)) ?_
      rintro e w3 ⟨rfl, hb3⟩
      obtain ⟨hc3, hf3, hz3⟩ := bcell3 hb3
      try simp at hz3
      have hz3_0 : w.heap.size < w3.heap.size := by omega
      have hz3_1 : w.heap.size + 1 < w3.heap.size := by omega
      have hz3_2 : w.heap.size + 1 + 1 < w3.heap.size := by omega
      have c0_0 : w3.cell? ⟨w.heap.size, 0, none⟩ = some (.string x.nm) := by go_simp
      have f0_0 : w3.frozen? ⟨w.heap.size, 0, none⟩ = false := by go_simp
      have c0_1 : w3.cell? ⟨w.heap.size, 1, none⟩ = some (.int .u64 (lo x.m)) := by go_simp
      have f0_1 : w3.frozen? ⟨w.heap.size, 1, none⟩ = false := by go_simp
      have c0_2 : w3.cell? ⟨w.heap.size, 2, none⟩ = some (.int .u64 (hi x.m)) := by go_simp
      have f0_2 : w3.frozen? ⟨w.heap.size, 2, none⟩ = false := by go_simp
      have c2_0 : w3.cell? ⟨w.heap.size + 1 + 1, 0, none⟩ = some (.string ⟨#[]⟩) := by go_simp
      have f2_0 : w3.frozen? ⟨w.heap.size + 1 + 1, 0, none⟩ = false := by go_simp
      have c2_1 : w3.cell? ⟨w.heap.size + 1 + 1, 1, none⟩ = some (.int .u64 0) := by go_simp
      have f2_1 : w3.frozen? ⟨w.heap.size + 1 + 1, 1, none⟩ = false := by go_simp
      have c2_2 : w3.cell? ⟨w.heap.size + 1 + 1, 2, none⟩ = some (.int .u64 0) := by go_simp
      have f2_2 : w3.frozen? ⟨w.heap.size + 1 + 1, 2, none⟩ = false := by go_simp
      try clear hc1 hf1
      try clear hc2 hf2
      try clear hc3 hf3
      try clear hc4 hf4
      try clear hc5 hf5
      try clear hc6 hf6
      try clear hc7 hf7
      try clear hc8 hf8
      try clear hc9 hf9
      go_wp2
      refine bodyPost_ret (v := .tuple #[.agg #[.string x.nm, .int .u64 (lo (wornM t f x.m)), .int .u64 (hi (wornM t f x.m))], .int .i64 0]) (by simp [results, Tryd.results7, go_sem, c2_0, c2_1, c2_2]) rfl ⟨rfl, ?_⟩
      (repeat (first | with_reducible exact Ext.refl _ | with_reducible exact hw | with_reducible exact hb9 | with_reducible exact hb8 | with_reducible exact hb7 | with_reducible exact hb6 | with_reducible exact hb5 | with_reducible exact hb4 | with_reducible exact hb3 | with_reducible exact hb2 | with_reducible exact hb1 | with_reducible refine Ext.alloc ?_ _ | with_reducible refine Ext.drew ?_ | ((with_reducible refine Ext.set ?_ ?_ _); focus (dsimp only; omega)) | with_reducible refine Ext.trans ?_ hb9 | with_reducible refine Ext.trans ?_ hb8 | with_reducible refine Ext.trans ?_ hb7 | with_reducible refine Ext.trans ?_ hb6 | with_reducible refine Ext.trans ?_ hb5 | with_reducible refine Ext.trans ?_ hb4 | with_reducible refine Ext.trans ?_ hb3 | with_reducible refine Ext.trans ?_ hb2 | with_reducible refine Ext.trans ?_ hb1 | with_reducible refine Ext.trans ?_ hw))
set_option maxRecDepth 100000 in
set_option maxHeartbeats 400000 in
theorem laws_FnExactWearCard (y : Crd) (hnm : y.nm.size ≤ 9223372036854775807) (t f : Mask) (w : World) :
    Calls Tryd.prog 3 #[.agg #[.string y.nm, .int .u64 (lo y.m), .int .u64 (hi y.m)], .agg #[.int .u64 (lo t), .int .u64 (hi t), .int .u64 (lo f), .int .u64 (hi f)]] w fun e w' => e = .returned (.bool true) ∧ Ext w w' := by
  have hx := @ExtOf.cell
  have r1 := crdB_refl (wearF y t f).1
  go_enter Tryd.func3, Tryd.ntmps3
  go_wp2_with fail
  refine Calls.mono (laws_szCard y 1048576 (by omega) (by omega) hnm _) ?_
  rintro e w1 ⟨rfl, hb1⟩
  obtain ⟨hc1, hf1, hz1⟩ := bcell3 hb1
  try simp at hz1
  have hz1_0 : w.heap.size < w1.heap.size := by omega
  have hz1_1 : w.heap.size + 1 < w1.heap.size := by omega
  by_cases hr : szF y.nm.size 1048576 < 0
  · generalize szF y.nm.size 1048576 = r at hr
    go_wp2
    go_ret
    refine ⟨rfl, ?_⟩
    (repeat (first | with_reducible exact Ext.refl _ | with_reducible exact hw | with_reducible exact hb9 | with_reducible exact hb8 | with_reducible exact hb7 | with_reducible exact hb6 | with_reducible exact hb5 | with_reducible exact hb4 | with_reducible exact hb3 | with_reducible exact hb2 | with_reducible exact hb1 | with_reducible refine Ext.alloc ?_ _ | with_reducible refine Ext.drew ?_ | ((with_reducible refine Ext.set ?_ ?_ _); focus (dsimp only; omega)) | with_reducible refine Ext.trans ?_ hb9 | with_reducible refine Ext.trans ?_ hb8 | with_reducible refine Ext.trans ?_ hb7 | with_reducible refine Ext.trans ?_ hb6 | with_reducible refine Ext.trans ?_ hb5 | with_reducible refine Ext.trans ?_ hb4 | with_reducible refine Ext.trans ?_ hb3 | with_reducible refine Ext.trans ?_ hb2 | with_reducible refine Ext.trans ?_ hb1 | with_reducible refine Ext.trans ?_ hw))
  · generalize szF y.nm.size 1048576 = r at hr
    have c0_0 : w1.cell? ⟨w.heap.size, 0, none⟩ = some (.string y.nm) := by go_simp
    have f0_0 : w1.frozen? ⟨w.heap.size, 0, none⟩ = false := by go_simp
    have c0_1 : w1.cell? ⟨w.heap.size, 1, none⟩ = some (.int .u64 (lo y.m)) := by go_simp
    have f0_1 : w1.frozen? ⟨w.heap.size, 1, none⟩ = false := by go_simp
    have c0_2 : w1.cell? ⟨w.heap.size, 2, none⟩ = some (.int .u64 (hi y.m)) := by go_simp
    have f0_2 : w1.frozen? ⟨w.heap.size, 2, none⟩ = false := by go_simp
    have c1_0 : w1.cell? ⟨w.heap.size + 1, 0, none⟩ = some (.int .u64 (lo t)) := by go_simp
    have f1_0 : w1.frozen? ⟨w.heap.size + 1, 0, none⟩ = false := by go_simp
    have c1_1 : w1.cell? ⟨w.heap.size + 1, 1, none⟩ = some (.int .u64 (hi t)) := by go_simp
    have f1_1 : w1.frozen? ⟨w.heap.size + 1, 1, none⟩ = false := by go_simp
    have c1_2 : w1.cell? ⟨w.heap.size + 1, 2, none⟩ = some (.int .u64 (lo f)) := by go_simp
    have f1_2 : w1.frozen? ⟨w.heap.size + 1, 2, none⟩ = false := by go_simp
    have c1_3 : w1.cell? ⟨w.heap.size + 1, 3, none⟩ = some (.int .u64 (hi f)) := by go_simp
    have f1_3 : w1.frozen? ⟨w.heap.size + 1, 3, none⟩ = false := by go_simp
    try clear hc1 hf1
    try clear hc2 hf2
    try clear hc3 hf3
    try clear hc4 hf4
    try clear hc5 hf5
    try clear hc6 hf6
    try clear hc7 hf7
    try clear hc8 hf8
    try clear hc9 hf9
    go_wp2_with fail
    refine wp_region_float 5 8 6 _ #[.string ⟨#[]⟩, .int .u64 0, .int .u64 0] 31 (by kernel_rfl) (by kernel_rfl) rfl rfl rfl rfl (fun _ _ => by go_simp) (by intro d _ _ _ _ h; cases d <;> exact h) ?_
    simp only [List.take_succ_cons, List.take_zero, List.drop_succ_cons, List.drop_zero]
    repeat (refine wpX_step (fun K hK => ?_); go_simp; first | (refine hK _ ?_; clear hK K) | (apply Exists.intro; refine ⟨fun x => ?_, hK _ ?_⟩; (((first | (go_at_call 8; with_reducible exact laws_toCard y _) | (go_at_call 9; with_reducible exact laws_toWear t f _) | (go_at_call 7; with_reducible exact spec_WearCard y hnm t f _)))); clear hK K))
    refine wpX_nil ?_
    intro b2 w2 hb2 hbb2 hcb2
    obtain ⟨hc2, hf2, hz2⟩ := bcell3 hb2
    try simp at hz2
    try simp at hbb2
    have hz2_0 : w.heap.size < w2.heap.size := by omega
    have hn2_0 : ¬ (b2 = w.heap.size) := by omega
    have hz2_1 : w.heap.size + 1 < w2.heap.size := by omega
    have hn2_1 : ¬ (b2 = w.heap.size + 1) := by omega
    have hbl2 := blk_lt hcb2
    have hbf2 := blk_free hcb2
    have hbc2_0 : w2.cell? ⟨b2, 0, none⟩ = some (.string ⟨#[]⟩) := blk_cell hcb2 0 rfl
    have hbc2_1 : w2.cell? ⟨b2, 1, none⟩ = some (.int .u64 0) := blk_cell hcb2 1 rfl
    have hbc2_2 : w2.cell? ⟨b2, 2, none⟩ = some (.int .u64 0) := blk_cell hcb2 2 rfl
    clear hcb2
    have c0_0 : w2.cell? ⟨w.heap.size, 0, none⟩ = some (.string y.nm) := by go_simp
    have f0_0 : w2.frozen? ⟨w.heap.size, 0, none⟩ = false := by go_simp
    have c0_1 : w2.cell? ⟨w.heap.size, 1, none⟩ = some (.int .u64 (lo y.m)) := by go_simp
    have f0_1 : w2.frozen? ⟨w.heap.size, 1, none⟩ = false := by go_simp
    have c0_2 : w2.cell? ⟨w.heap.size, 2, none⟩ = some (.int .u64 (hi y.m)) := by go_simp
    have f0_2 : w2.frozen? ⟨w.heap.size, 2, none⟩ = false := by go_simp
    have c1_0 : w2.cell? ⟨w.heap.size + 1, 0, none⟩ = some (.int .u64 (lo t)) := by go_simp
    have f1_0 : w2.frozen? ⟨w.heap.size + 1, 0, none⟩ = false := by go_simp
    have c1_1 : w2.cell? ⟨w.heap.size + 1, 1, none⟩ = some (.int .u64 (hi t)) := by go_simp
    have f1_1 : w2.frozen? ⟨w.heap.size + 1, 1, none⟩ = false := by go_simp
    have c1_2 : w2.cell? ⟨w.heap.size + 1, 2, none⟩ = some (.int .u64 (lo f)) := by go_simp
    have f1_2 : w2.frozen? ⟨w.heap.size + 1, 2, none⟩ = false := by go_simp
    have c1_3 : w2.cell? ⟨w.heap.size + 1, 3, none⟩ = some (.int .u64 (hi f)) := by go_simp
    have f1_3 : w2.frozen? ⟨w.heap.size + 1, 3, none⟩ = false := by go_simp
    try clear hc1 hf1
    try clear hc2 hf2
    try clear hc3 hf3
    try clear hc4 hf4
    try clear hc5 hf5
    try clear hc6 hf6
    try clear hc7 hf7
    try clear hc8 hf8
    try clear hc9 hf9
    go_wp2_with fail
    refine wp_region_float 5 8 8 _ #[.string ⟨#[]⟩, .int .u64 0, .int .u64 0] 31 (by kernel_rfl) (by kernel_rfl) rfl rfl rfl rfl (fun _ _ => by go_simp) (by intro d _ _ _ _ h; cases d <;> exact h) ?_
    simp only [List.take_succ_cons, List.take_zero, List.drop_succ_cons, List.drop_zero]
    repeat (refine wpX_step (fun K hK => ?_); go_simp; first | (refine hK _ ?_; clear hK K) | (apply Exists.intro; refine ⟨fun x => ?_, hK _ ?_⟩; (((first | (go_at_call 8; with_reducible exact laws_toCard y _) | (go_at_call 9; with_reducible exact laws_toWear t f _) | (go_at_call 10; with_reducible exact impl_WearCard y hnm t f _)))); clear hK K))
    refine wpX_nil ?_
    intro b3 w3 hb3 hbb3 hcb3
    obtain ⟨hc3, hf3, hz3⟩ := bcell3 hb3
    try simp at hz3
    try simp at hbb3
    have hz3_0 : w.heap.size < w3.heap.size := by omega
    have hn3_0 : ¬ (b3 = w.heap.size) := by omega
    have hz3_1 : w.heap.size + 1 < w3.heap.size := by omega
    have hn3_1 : ¬ (b3 = w.heap.size + 1) := by omega
    have hbl3 := blk_lt hcb3
    have hbf3 := blk_free hcb3
    have hbc3_0 : w3.cell? ⟨b3, 0, none⟩ = some (.string ⟨#[]⟩) := blk_cell hcb3 0 rfl
    have hbc3_1 : w3.cell? ⟨b3, 1, none⟩ = some (.int .u64 0) := blk_cell hcb3 1 rfl
    have hbc3_2 : w3.cell? ⟨b3, 2, none⟩ = some (.int .u64 0) := blk_cell hcb3 2 rfl
    clear hcb3
    have q2 : w2.heap.size < w3.heap.size := by omega
    go_wp2_with fail
    refine Calls.mono (laws_eqCard (wearF y t f).1 (wearF y t f).1 _) ?_
    rintro e w4 ⟨rfl, hb4⟩
    obtain ⟨hc4, hf4, hz4⟩ := bcell3 hb4
    try simp at hz4
    have hz4_0 : w.heap.size < w4.heap.size := by omega
    have hz4_1 : w.heap.size + 1 < w4.heap.size := by omega
    go_wp2
    go_ret
    refine ⟨rfl, ?_⟩
    (repeat (first | with_reducible exact Ext.refl _ | with_reducible exact hw | with_reducible exact hb9 | with_reducible exact hb8 | with_reducible exact hb7 | with_reducible exact hb6 | with_reducible exact hb5 | with_reducible exact hb4 | with_reducible exact hb3 | with_reducible exact hb2 | with_reducible exact hb1 | with_reducible refine Ext.alloc ?_ _ | with_reducible refine Ext.drew ?_ | ((with_reducible refine Ext.set ?_ ?_ _); focus (dsimp only; omega)) | with_reducible refine Ext.trans ?_ hb9 | with_reducible refine Ext.trans ?_ hb8 | with_reducible refine Ext.trans ?_ hb7 | with_reducible refine Ext.trans ?_ hb6 | with_reducible refine Ext.trans ?_ hb5 | with_reducible refine Ext.trans ?_ hb4 | with_reducible refine Ext.trans ?_ hb3 | with_reducible refine Ext.trans ?_ hb2 | with_reducible refine Ext.trans ?_ hb1 | with_reducible refine Ext.trans ?_ hw))
