/-
  The walks of the laws FnExactWearBetween, FnExactUndoWear, FnExactAfterWear and FnExactCountWear.
-/
import Derived.Test.YtmphcmdnpldcpaaC4
import Derived.Test.YtmphcmdnpldcpaaL1
set_option linter.unusedVariables false
set_option linter.unusedSimpArgs false
namespace Go.Proofs.Ytmphcmdnpldcpaa
open Go.RowKit
set_option maxRecDepth 100000 in
set_option maxHeartbeats 400000 in
theorem laws_FnExactWearBetween (m n : Mask) (w : World) :
    Calls Try.prog 4 #[.agg #[.int .u64 (lo m), .int .u64 (hi m)], .agg #[.int .u64 (lo n), .int .u64 (hi n)]] w fun e w' => e = .returned (.bool true) ∧ Ext w w' := by
  have hx := @ExtOf.cell
  have r1 := meqB_refl
  go_enter Try.func4, Try.ntmps4
  go_wp2_with fail
  refine wp_region_float 5 8 5 _ #[.int .u64 0, .int .u64 0, .int .u64 0, .int .u64 0] 29 (by kernel_rfl) (by kernel_rfl) rfl rfl rfl rfl (fun _ _ => by go_simp) (by intro d _ _ _ _ h; cases d <;> exact h) ?_
  simp only [List.take_succ_cons, List.take_zero, List.drop_succ_cons, List.drop_zero]
  repeat (refine wpX_step (fun K hK => ?_); go_simp; first | (refine hK _ ?_; clear hK K) | (apply Exists.intro; refine ⟨fun x => ?_, hK _ ?_⟩; (((first | (go_at_call 16; with_reducible exact laws_toMask _ _) | (go_at_call 15; with_reducible exact spec_WearBetween _ _ _)))); clear hK K))
  refine wpX_nil ?_
  intro b1 w1 hb1 hbb1 hcb1
  obtain ⟨hc1, hf1, hz1⟩ := bcell3 hb1
  try simp at hz1
  try simp at hbb1
  have hz1_0 : w.heap.size < w1.heap.size := by omega
  have hn1_0 : ¬ (b1 = w.heap.size) := by omega
  have hz1_1 : w.heap.size + 1 < w1.heap.size := by omega
  have hn1_1 : ¬ (b1 = w.heap.size + 1) := by omega
  have hbl1 := blk_lt hcb1
  have hbf1 := blk_free hcb1
  have hbc1_0 : w1.cell? ⟨b1, 0, none⟩ = some (.int .u64 0) := blk_cell hcb1 0 rfl
  have hbc1_1 : w1.cell? ⟨b1, 1, none⟩ = some (.int .u64 0) := blk_cell hcb1 1 rfl
  have hbc1_2 : w1.cell? ⟨b1, 2, none⟩ = some (.int .u64 0) := blk_cell hcb1 2 rfl
  have hbc1_3 : w1.cell? ⟨b1, 3, none⟩ = some (.int .u64 0) := blk_cell hcb1 3 rfl
  clear hcb1
  go_wp2_with fail
  refine wp_region_float 5 8 7 _ #[.int .u64 0, .int .u64 0, .int .u64 0, .int .u64 0] 29 (by kernel_rfl) (by kernel_rfl) rfl rfl rfl rfl (fun _ _ => by go_simp) (by intro d _ _ _ _ h; cases d <;> exact h) ?_
  simp only [List.take_succ_cons, List.take_zero, List.drop_succ_cons, List.drop_zero]
  repeat (refine wpX_step (fun K hK => ?_); go_simp; first | (refine hK _ ?_; clear hK K) | (apply Exists.intro; refine ⟨fun x => ?_, hK _ ?_⟩; (((first | (go_at_call 16; with_reducible exact laws_toMask _ _) | (go_at_call 17; with_reducible exact impl_WearBetween _ _ _)))); clear hK K))
  refine wpX_nil ?_
  intro b2 w2 hb2 hbb2 hcb2
  obtain ⟨hc2, hf2, hz2⟩ := bcell3 hb2
  try simp at hz2
  try simp at hbb2
  have hz2_0 : w.heap.size < w2.heap.size := by omega
  have hn2_0 : ¬ (b2 = w.heap.size) := by omega
  have hz2_1 : w.heap.size + 1 < w2.heap.size := by omega
  have hn2_1 : ¬ (b2 = w.heap.size + 1) := by omega
  have hbl2 := blk_lt hcb2
  have hbf2 := blk_free hcb2
  have hbc2_0 : w2.cell? ⟨b2, 0, none⟩ = some (.int .u64 0) := blk_cell hcb2 0 rfl
  have hbc2_1 : w2.cell? ⟨b2, 1, none⟩ = some (.int .u64 0) := blk_cell hcb2 1 rfl
  have hbc2_2 : w2.cell? ⟨b2, 2, none⟩ = some (.int .u64 0) := blk_cell hcb2 2 rfl
  have hbc2_3 : w2.cell? ⟨b2, 3, none⟩ = some (.int .u64 0) := blk_cell hcb2 3 rfl
  clear hcb2
  have q2 : w1.heap.size < w2.heap.size := by omega
  go_wp2_with fail
  refine (laws_eqWear _ _ _ _ _).mono ?_
  rintro e w3 ⟨rfl, hb3⟩
  obtain ⟨hc3, hf3, hz3⟩ := bcell3 hb3
  try simp at hz3
  have hz3_0 : w.heap.size < w3.heap.size := by omega
  have hz3_1 : w.heap.size + 1 < w3.heap.size := by omega
  go_wp2
  go_ret
  refine ⟨rfl, ?_⟩
  (repeat (first | with_reducible exact Ext.refl _ | with_reducible exact hw | with_reducible exact hb9 | with_reducible exact hb8 | with_reducible exact hb7 | with_reducible exact hb6 | with_reducible exact hb5 | with_reducible exact hb4 | with_reducible exact hb3 | with_reducible exact hb2 | with_reducible exact hb1 | with_reducible refine Ext.alloc ?_ _ | with_reducible refine Ext.drew ?_ | ((with_reducible refine Ext.set ?_ ?_ _); focus (dsimp only; omega)) | with_reducible refine Ext.trans ?_ hb9 | with_reducible refine Ext.trans ?_ hb8 | with_reducible refine Ext.trans ?_ hb7 | with_reducible refine Ext.trans ?_ hb6 | with_reducible refine Ext.trans ?_ hb5 | with_reducible refine Ext.trans ?_ hb4 | with_reducible refine Ext.trans ?_ hb3 | with_reducible refine Ext.trans ?_ hb2 | with_reducible refine Ext.trans ?_ hb1 | with_reducible refine Ext.trans ?_ hw))
set_option maxRecDepth 100000 in
set_option maxHeartbeats 400000 in
theorem laws_FnExactUndoWear (t f : Mask) (w : World) :
    Calls Try.prog 5 #[.agg #[.int .u64 (lo t), .int .u64 (hi t), .int .u64 (lo f), .int .u64 (hi f)]] w fun e w' => e = .returned (.bool true) ∧ Ext w w' := by
  have hx := @ExtOf.cell
  have r1 := meqB_refl
  go_enter Try.func5, Try.ntmps5
  go_wp2_with fail
  refine (laws_toWear _ _ _).mono ?_
  rintro e w1 ⟨rfl, hb1⟩
  obtain ⟨hc1, hf1, hz1⟩ := bcell3 hb1
  try simp at hz1
  have hz1_0 : w.heap.size < w1.heap.size := by omega
  go_wp2_with fail
  refine (spec_UndoWear _ _ _).mono ?_
  rintro e w2 ⟨rfl, hb2⟩
  obtain ⟨hc2, hf2, hz2⟩ := bcell3 hb2
  try simp at hz2
  have hz2_0 : w.heap.size < w2.heap.size := by omega
  go_wp2_with fail
  refine (laws_toWear _ _ _).mono ?_
  rintro e w3 ⟨rfl, hb3⟩
  obtain ⟨hc3, hf3, hz3⟩ := bcell3 hb3
  try simp at hz3
  have hz3_0 : w.heap.size < w3.heap.size := by omega
  go_wp2_with fail
  refine (impl_UndoWear _ _ _).mono ?_
  rintro e w4 ⟨rfl, hb4⟩
  obtain ⟨hc4, hf4, hz4⟩ := bcell3 hb4
  try simp at hz4
  have hz4_0 : w.heap.size < w4.heap.size := by omega
  have q2 : w2.heap.size < w3.heap.size := by omega
  have q3 : w2.heap.size < w4.heap.size := by omega
  go_wp2_with fail
  go_wp2_with fail
  refine (laws_eqWear _ _ _ _ _).mono ?_
  rintro e w5 ⟨rfl, hb5⟩
  obtain ⟨hc5, hf5, hz5⟩ := bcell3 hb5
  try simp at hz5
  have hz5_0 : w.heap.size < w5.heap.size := by omega
  go_wp2
  go_ret
  refine ⟨rfl, ?_⟩
  (repeat (first | with_reducible exact Ext.refl _ | with_reducible exact hw | with_reducible exact hb9 | with_reducible exact hb8 | with_reducible exact hb7 | with_reducible exact hb6 | with_reducible exact hb5 | with_reducible exact hb4 | with_reducible exact hb3 | with_reducible exact hb2 | with_reducible exact hb1 | with_reducible refine Ext.alloc ?_ _ | with_reducible refine Ext.drew ?_ | ((with_reducible refine Ext.set ?_ ?_ _); focus (dsimp only; omega)) | with_reducible refine Ext.trans ?_ hb9 | with_reducible refine Ext.trans ?_ hb8 | with_reducible refine Ext.trans ?_ hb7 | with_reducible refine Ext.trans ?_ hb6 | with_reducible refine Ext.trans ?_ hb5 | with_reducible refine Ext.trans ?_ hb4 | with_reducible refine Ext.trans ?_ hb3 | with_reducible refine Ext.trans ?_ hb2 | with_reducible refine Ext.trans ?_ hb1 | with_reducible refine Ext.trans ?_ hw))
set_option maxRecDepth 100000 in
set_option maxHeartbeats 400000 in
theorem laws_FnExactAfterWear (t f t' f' : Mask) (w : World) :
    Calls Try.prog 6 #[.agg #[.int .u64 (lo t), .int .u64 (hi t), .int .u64 (lo f), .int .u64 (hi f)], .agg #[.int .u64 (lo t'), .int .u64 (hi t'), .int .u64 (lo f'), .int .u64 (hi f')]] w fun e w' => e = .returned (.bool true) ∧ Ext w w' := by
  have hx := @ExtOf.cell
  have r1 := meqB_refl
  go_enter Try.func6, Try.ntmps6
  go_wp2_with fail
  refine wp_region_float 5 8 5 _ #[.int .u64 0, .int .u64 0, .int .u64 0, .int .u64 0] 29 (by kernel_rfl) (by kernel_rfl) rfl rfl rfl rfl (fun _ _ => by go_simp) (by intro d _ _ _ _ h; cases d <;> exact h) ?_
  simp only [List.take_succ_cons, List.take_zero, List.drop_succ_cons, List.drop_zero]
  repeat (refine wpX_step (fun K hK => ?_); go_simp; first | (refine hK _ ?_; clear hK K) | (apply Exists.intro; refine ⟨fun x => ?_, hK _ ?_⟩; (((first | (go_at_call 13; with_reducible exact laws_toWear _ _ _) | (go_at_call 21; with_reducible exact spec_AfterWear _ _ _ _ _)))); clear hK K))
  refine wpX_nil ?_
  intro b1 w1 hb1 hbb1 hcb1
  obtain ⟨hc1, hf1, hz1⟩ := bcell3 hb1
  try simp at hz1
  try simp at hbb1
  have hz1_0 : w.heap.size < w1.heap.size := by omega
  have hn1_0 : ¬ (b1 = w.heap.size) := by omega
  have hz1_1 : w.heap.size + 1 < w1.heap.size := by omega
  have hn1_1 : ¬ (b1 = w.heap.size + 1) := by omega
  have hbl1 := blk_lt hcb1
  have hbf1 := blk_free hcb1
  have hbc1_0 : w1.cell? ⟨b1, 0, none⟩ = some (.int .u64 0) := blk_cell hcb1 0 rfl
  have hbc1_1 : w1.cell? ⟨b1, 1, none⟩ = some (.int .u64 0) := blk_cell hcb1 1 rfl
  have hbc1_2 : w1.cell? ⟨b1, 2, none⟩ = some (.int .u64 0) := blk_cell hcb1 2 rfl
  have hbc1_3 : w1.cell? ⟨b1, 3, none⟩ = some (.int .u64 0) := blk_cell hcb1 3 rfl
  clear hcb1
  go_wp2_with fail
  refine wp_region_float 5 8 7 _ #[.int .u64 0, .int .u64 0, .int .u64 0, .int .u64 0] 29 (by kernel_rfl) (by kernel_rfl) rfl rfl rfl rfl (fun _ _ => by go_simp) (by intro d _ _ _ _ h; cases d <;> exact h) ?_
  simp only [List.take_succ_cons, List.take_zero, List.drop_succ_cons, List.drop_zero]
  repeat (refine wpX_step (fun K hK => ?_); go_simp; first | (refine hK _ ?_; clear hK K) | (apply Exists.intro; refine ⟨fun x => ?_, hK _ ?_⟩; (((first | (go_at_call 13; with_reducible exact laws_toWear _ _ _) | (go_at_call 22; with_reducible exact impl_AfterWear _ _ _ _ _)))); clear hK K))
  refine wpX_nil ?_
  intro b2 w2 hb2 hbb2 hcb2
  obtain ⟨hc2, hf2, hz2⟩ := bcell3 hb2
  try simp at hz2
  try simp at hbb2
  have hz2_0 : w.heap.size < w2.heap.size := by omega
  have hn2_0 : ¬ (b2 = w.heap.size) := by omega
  have hz2_1 : w.heap.size + 1 < w2.heap.size := by omega
  have hn2_1 : ¬ (b2 = w.heap.size + 1) := by omega
  have hbl2 := blk_lt hcb2
  have hbf2 := blk_free hcb2
  have hbc2_0 : w2.cell? ⟨b2, 0, none⟩ = some (.int .u64 0) := blk_cell hcb2 0 rfl
  have hbc2_1 : w2.cell? ⟨b2, 1, none⟩ = some (.int .u64 0) := blk_cell hcb2 1 rfl
  have hbc2_2 : w2.cell? ⟨b2, 2, none⟩ = some (.int .u64 0) := blk_cell hcb2 2 rfl
  have hbc2_3 : w2.cell? ⟨b2, 3, none⟩ = some (.int .u64 0) := blk_cell hcb2 3 rfl
  clear hcb2
  have q2 : w1.heap.size < w2.heap.size := by omega
  go_wp2_with fail
  refine (laws_eqWear _ _ _ _ _).mono ?_
  rintro e w3 ⟨rfl, hb3⟩
  obtain ⟨hc3, hf3, hz3⟩ := bcell3 hb3
  try simp at hz3
  have hz3_0 : w.heap.size < w3.heap.size := by omega
  have hz3_1 : w.heap.size + 1 < w3.heap.size := by omega
  go_wp2
  go_ret
  refine ⟨rfl, ?_⟩
  (repeat (first | with_reducible exact Ext.refl _ | with_reducible exact hw | with_reducible exact hb9 | with_reducible exact hb8 | with_reducible exact hb7 | with_reducible exact hb6 | with_reducible exact hb5 | with_reducible exact hb4 | with_reducible exact hb3 | with_reducible exact hb2 | with_reducible exact hb1 | with_reducible refine Ext.alloc ?_ _ | with_reducible refine Ext.drew ?_ | ((with_reducible refine Ext.set ?_ ?_ _); focus (dsimp only; omega)) | with_reducible refine Ext.trans ?_ hb9 | with_reducible refine Ext.trans ?_ hb8 | with_reducible refine Ext.trans ?_ hb7 | with_reducible refine Ext.trans ?_ hb6 | with_reducible refine Ext.trans ?_ hb5 | with_reducible refine Ext.trans ?_ hb4 | with_reducible refine Ext.trans ?_ hb3 | with_reducible refine Ext.trans ?_ hb2 | with_reducible refine Ext.trans ?_ hb1 | with_reducible refine Ext.trans ?_ hw))
set_option maxRecDepth 100000 in
set_option maxHeartbeats 400000 in
theorem laws_FnExactCountWear (t f : Mask) (w : World) :
    Calls Try.prog 7 #[.agg #[.int .u64 (lo t), .int .u64 (hi t), .int .u64 (lo f), .int .u64 (hi f)]] w fun e w' => e = .returned (.bool true) ∧ Ext w w' := by
  go_enter Try.func7, Try.ntmps7
  go_wp2_with fail
  refine (laws_toWear _ _ _).mono ?_
  rintro e w1 ⟨rfl, hb1⟩
  obtain ⟨hc1, hf1, hz1⟩ := bcell3 hb1
  try simp at hz1
  have hz1_0 : w.heap.size < w1.heap.size := by omega
  go_wp2_with fail
  refine (spec_CountWear _ _ _).mono ?_
  rintro e w2 ⟨rfl, hb2⟩
  obtain ⟨hc2, hf2, hz2⟩ := bcell3 hb2
  try simp at hz2
  have hz2_0 : w.heap.size < w2.heap.size := by omega
  go_wp2_with fail
  refine (laws_toWear _ _ _).mono ?_
  rintro e w3 ⟨rfl, hb3⟩
  obtain ⟨hc3, hf3, hz3⟩ := bcell3 hb3
  try simp at hz3
  have hz3_0 : w.heap.size < w3.heap.size := by omega
  go_wp2_with fail
  refine (impl_CountWear _ _ _).mono ?_
  rintro e w4 ⟨rfl, hb4⟩
  obtain ⟨hc4, hf4, hz4⟩ := bcell3 hb4
  try simp at hz4
  have hz4_0 : w.heap.size < w4.heap.size := by omega
  go_wp2
  go_ret
  refine ⟨rfl, ?_⟩
  (repeat (first | with_reducible exact Ext.refl _ | with_reducible exact hw | with_reducible exact hb9 | with_reducible exact hb8 | with_reducible exact hb7 | with_reducible exact hb6 | with_reducible exact hb5 | with_reducible exact hb4 | with_reducible exact hb3 | with_reducible exact hb2 | with_reducible exact hb1 | with_reducible refine Ext.alloc ?_ _ | with_reducible refine Ext.drew ?_ | ((with_reducible refine Ext.set ?_ ?_ _); focus (dsimp only; omega)) | with_reducible refine Ext.trans ?_ hb9 | with_reducible refine Ext.trans ?_ hb8 | with_reducible refine Ext.trans ?_ hb7 | with_reducible refine Ext.trans ?_ hb6 | with_reducible refine Ext.trans ?_ hb5 | with_reducible refine Ext.trans ?_ hb4 | with_reducible refine Ext.trans ?_ hb3 | with_reducible refine Ext.trans ?_ hb2 | with_reducible refine Ext.trans ?_ hb1 | with_reducible refine Ext.trans ?_ hw))
end Go.Proofs.Ytmphcmdnpldcpaa
