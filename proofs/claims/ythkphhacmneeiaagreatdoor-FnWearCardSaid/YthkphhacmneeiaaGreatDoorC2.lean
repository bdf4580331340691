/-
  Contracts of WearBetween, UndoWear and AfterWear, program's and reference's.
-/
import Derived.Test.YthkphhacmneeiaaGreatDoorC1
set_option linter.unusedVariables false
set_option linter.unusedSimpArgs false
namespace Go.Proofs.YthkphhacmneeiaaGreatDoor
open Go.RowKit

def wbT (m n : Mask) : Mask := if isMaskB m && isMaskB n then mless n m else 0
def wbF (m n : Mask) : Mask := if isMaskB m && isMaskB n then mless m n else 0
def wbC (m n : Mask) : Int := if isMaskB m && isMaskB n then 0 else 1
def uwT (t f : Mask) : Mask := if isWearB t f then f else 0
def uwF (t f : Mask) : Mask := if isWearB t f then t else 0
def uwC (t f : Mask) : Int := if isWearB t f then 0 else 1
def awT (t f t' f' : Mask) : Mask := if isWearB t f && isWearB t' f' then mjoin t' (mless t f') else 0
def awF (t f t' f' : Mask) : Mask := if isWearB t f && isWearB t' f' then mjoin f' (mless f t') else 0
def awC (t f t' f' : Mask) : Int := if isWearB t f && isWearB t' f' then 0 else 1
theorem meqB_refl (m : Mask) : meqB m m = true := by simp [meqB]
set_option maxHeartbeats 400000 in
theorem impl_WearBetween (m n : Mask) (w : World) :
    Calls Tryz.prog 6 #[.agg #[.int .u64 (lo m), .int .u64 (hi m)], .agg #[.int .u64 (lo n), .int .u64 (hi n)]] w fun e w' => e = .returned (.tuple #[.agg #[.int .u64 (lo (wbT m n)), .int .u64 (hi (wbT m n)), .int .u64 (lo (wbF m n)), .int .u64 (hi (wbF m n))], .int .i64 (wbC m n)]) ∧ Ext w w' := by
  have hx := @ExtOf.cell
  unfold wbT wbF wbC
  cases h1 : isMaskB m
  · go_enter Tryz.func6, Tryz.ntmps6
    go_wp2_with fail
    refine Calls.mono (impl_isMask _ _) ?_
    rintro e w1 ⟨rfl, hb1⟩
    obtain ⟨hc1, hf1, hz1⟩ := bcell3 hb1
    try simp at hz1
    have hz1_0 : w.heap.size < w1.heap.size := by omega
    have hz1_1 : w.heap.size + 1 < w1.heap.size := by omega
    have hz1_2 : w.heap.size + 1 + 1 < w1.heap.size := by omega
    go_wp2
    have c0 : w1.cell? ⟨w.heap.size + 1 + 1, 0, none⟩ = some (.int .u64 0) := by go_simp
    have c1 : w1.cell? ⟨w.heap.size + 1 + 1, 1, none⟩ = some (.int .u64 0) := by go_simp
    have c2 : w1.cell? ⟨w.heap.size + 1 + 1, 2, none⟩ = some (.int .u64 0) := by go_simp
    have c3 : w1.cell? ⟨w.heap.size + 1 + 1, 3, none⟩ = some (.int .u64 0) := by go_simp
    try clear hc1 hf1
    try clear hc2 hf2
    try clear hc3 hf3
    try clear hc4 hf4
    try clear hc5 hf5
    try clear hc6 hf6
    try clear hc7 hf7
    try clear hc8 hf8
    try clear hc9 hf9
    refine bodyPost_ret (v := .tuple #[.agg #[.int .u64 0, .int .u64 0, .int .u64 0, .int .u64 0], .int .i64 1]) (by simp [results, Tryz.results6, go_sem, c0, c1, c2, c3]) rfl ⟨rfl, ?_⟩
    (repeat (first | with_reducible exact Ext.refl _ | with_reducible exact hw | with_reducible exact hb9 | with_reducible exact hb8 | with_reducible exact hb7 | with_reducible exact hb6 | with_reducible exact hb5 | with_reducible exact hb4 | with_reducible exact hb3 | with_reducible exact hb2 | with_reducible exact hb1 | with_reducible refine Ext.alloc ?_ _ | with_reducible refine Ext.drew ?_ | ((with_reducible refine Ext.set ?_ ?_ _); focus (dsimp only; omega)) | with_reducible refine Ext.trans ?_ hb9 | with_reducible refine Ext.trans ?_ hb8 | with_reducible refine Ext.trans ?_ hb7 | with_reducible refine Ext.trans ?_ hb6 | with_reducible refine Ext.trans ?_ hb5 | with_reducible refine Ext.trans ?_ hb4 | with_reducible refine Ext.trans ?_ hb3 | with_reducible refine Ext.trans ?_ hb2 | with_reducible refine Ext.trans ?_ hb1 | with_reducible refine Ext.trans ?_ hw))
  cases h2 : isMaskB n
  · go_enter Tryz.func6, Tryz.ntmps6
    go_wp2_with fail
    refine Calls.mono (impl_isMask _ _) ?_
    rintro e w1 ⟨rfl, hb1⟩
    obtain ⟨hc1, hf1, hz1⟩ := bcell3 hb1
    try simp at hz1
    have hz1_0 : w.heap.size < w1.heap.size := by omega
    have hz1_1 : w.heap.size + 1 < w1.heap.size := by omega
    have hz1_2 : w.heap.size + 1 + 1 < w1.heap.size := by omega
    go_wp2_with fail
    refine Calls.mono (impl_isMask _ _) ?_
    rintro e w2 ⟨rfl, hb2⟩
    obtain ⟨hc2, hf2, hz2⟩ := bcell3 hb2
    try simp at hz2
    have hz2_0 : w.heap.size < w2.heap.size := by omega
    have hz2_1 : w.heap.size + 1 < w2.heap.size := by omega
    have hz2_2 : w.heap.size + 1 + 1 < w2.heap.size := by omega
    go_wp2
    have c0 : w2.cell? ⟨w.heap.size + 1 + 1, 0, none⟩ = some (.int .u64 0) := by go_simp
    have c1 : w2.cell? ⟨w.heap.size + 1 + 1, 1, none⟩ = some (.int .u64 0) := by go_simp
    have c2 : w2.cell? ⟨w.heap.size + 1 + 1, 2, none⟩ = some (.int .u64 0) := by go_simp
    have c3 : w2.cell? ⟨w.heap.size + 1 + 1, 3, none⟩ = some (.int .u64 0) := by go_simp
    try clear hc1 hf1
    try clear hc2 hf2
    try clear hc3 hf3
    try clear hc4 hf4
    try clear hc5 hf5
    try clear hc6 hf6
    try clear hc7 hf7
    try clear hc8 hf8
    try clear hc9 hf9
    refine bodyPost_ret (v := .tuple #[.agg #[.int .u64 0, .int .u64 0, .int .u64 0, .int .u64 0], .int .i64 1]) (by simp [results, Tryz.results6, go_sem, c0, c1, c2, c3]) rfl ⟨rfl, ?_⟩
    (repeat (first | with_reducible exact Ext.refl _ | with_reducible exact hw | with_reducible exact hb9 | with_reducible exact hb8 | with_reducible exact hb7 | with_reducible exact hb6 | with_reducible exact hb5 | with_reducible exact hb4 | with_reducible exact hb3 | with_reducible exact hb2 | with_reducible exact hb1 | with_reducible refine Ext.alloc ?_ _ | with_reducible refine Ext.drew ?_ | ((with_reducible refine Ext.set ?_ ?_ _); focus (dsimp only; omega)) | with_reducible refine Ext.trans ?_ hb9 | with_reducible refine Ext.trans ?_ hb8 | with_reducible refine Ext.trans ?_ hb7 | with_reducible refine Ext.trans ?_ hb6 | with_reducible refine Ext.trans ?_ hb5 | with_reducible refine Ext.trans ?_ hb4 | with_reducible refine Ext.trans ?_ hb3 | with_reducible refine Ext.trans ?_ hb2 | with_reducible refine Ext.trans ?_ hb1 | with_reducible refine Ext.trans ?_ hw))
  · go_enter Tryz.func6, Tryz.ntmps6
    go_wp2_with fail
    refine Calls.mono (impl_isMask _ _) ?_
    rintro e w1 ⟨rfl, hb1⟩
    obtain ⟨hc1, hf1, hz1⟩ := bcell3 hb1
    try simp at hz1
    have hz1_0 : w.heap.size < w1.heap.size := by omega
    have hz1_1 : w.heap.size + 1 < w1.heap.size := by omega
    have hz1_2 : w.heap.size + 1 + 1 < w1.heap.size := by omega
    go_wp2_with fail
    refine Calls.mono (impl_isMask _ _) ?_
    rintro e w2 ⟨rfl, hb2⟩
    obtain ⟨hc2, hf2, hz2⟩ := bcell3 hb2
    try simp at hz2
    have hz2_0 : w.heap.size < w2.heap.size := by omega
    have hz2_1 : w.heap.size + 1 < w2.heap.size := by omega
    have hz2_2 : w.heap.size + 1 + 1 < w2.heap.size := by omega
    go_wp2_with fail
    refine wp_region_ext_tail 7 7 (by kernel_rfl) (by kernel_rfl) (by intro d _ _ _ _ h; cases d <;> exact h) ?_
    simp only [List.take_succ_cons, List.take_zero, List.drop_succ_cons, List.drop_zero]
    repeat (first | go_big_quiet_step (((go_at_call 27; with_reducible exact Calls.ext_of (impl_LessMask _ _ _)))) | quiet_step (((go_at_call 27; with_reducible exact Calls.ext_of (impl_LessMask _ _ _)))))
    refine wpQuiet_nil ?_
    intro w3 hq3
    have hb3 := ext_of_class hq3
    clear hq3
    obtain ⟨hc3, hf3, hz3⟩ := bcell3 hb3
    try simp at hz3
    have hz3_0 : w.heap.size < w3.heap.size := by omega
    have hz3_1 : w.heap.size + 1 < w3.heap.size := by omega
    have hz3_2 : w.heap.size + 1 + 1 < w3.heap.size := by omega
    go_wp2
    have c0 : w3.cell? ⟨w.heap.size + 1 + 1, 0, none⟩ = some (.int .u64 0) := by go_simp
    have c1 : w3.cell? ⟨w.heap.size + 1 + 1, 1, none⟩ = some (.int .u64 0) := by go_simp
    have c2 : w3.cell? ⟨w.heap.size + 1 + 1, 2, none⟩ = some (.int .u64 0) := by go_simp
    have c3 : w3.cell? ⟨w.heap.size + 1 + 1, 3, none⟩ = some (.int .u64 0) := by go_simp
    try clear hc1 hf1
    try clear hc2 hf2
    try clear hc3 hf3
    try clear hc4 hf4
    try clear hc5 hf5
    try clear hc6 hf6
    try clear hc7 hf7
    try clear hc8 hf8
    try clear hc9 hf9
    refine bodyPost_ret (v := .tuple #[.agg #[.int .u64 (lo (mless n m)), .int .u64 (hi (mless n m)), .int .u64 (lo (mless m n)), .int .u64 (hi (mless m n))], .int .i64 0]) (by simp [results, Tryz.results6, go_sem, c0, c1, c2, c3]) rfl ⟨rfl, ?_⟩
    (repeat (first | with_reducible exact Ext.refl _ | with_reducible exact hw | with_reducible exact hb9 | with_reducible exact hb8 | with_reducible exact hb7 | with_reducible exact hb6 | with_reducible exact hb5 | with_reducible exact hb4 | with_reducible exact hb3 | with_reducible exact hb2 | with_reducible exact hb1 | with_reducible refine Ext.alloc ?_ _ | with_reducible refine Ext.drew ?_ | ((with_reducible refine Ext.set ?_ ?_ _); focus (dsimp only; omega)) | with_reducible refine Ext.trans ?_ hb9 | with_reducible refine Ext.trans ?_ hb8 | with_reducible refine Ext.trans ?_ hb7 | with_reducible refine Ext.trans ?_ hb6 | with_reducible refine Ext.trans ?_ hb5 | with_reducible refine Ext.trans ?_ hb4 | with_reducible refine Ext.trans ?_ hb3 | with_reducible refine Ext.trans ?_ hb2 | with_reducible refine Ext.trans ?_ hb1 | with_reducible refine Ext.trans ?_ hw))
set_option maxHeartbeats 400000 in
theorem spec_WearBetween (m n : Mask) (w : World) :
    Calls Tryz.prog 7 #[.agg #[.int .u64 (lo m), .int .u64 (hi m)], .agg #[.int .u64 (lo n), .int .u64 (hi n)]] w fun e w' => e = .returned (.tuple #[.agg #[.int .u64 (lo (wbT m n)), .int .u64 (hi (wbT m n)), .int .u64 (lo (wbF m n)), .int .u64 (hi (wbF m n))], .int .i64 (wbC m n)]) ∧ Ext w w' := by
  have hx := @ExtOf.cell
  unfold wbT wbF wbC
  cases h1 : isMaskB m
  · go_enter Tryz.func7, Tryz.ntmps7
    go_wp2_with fail
    refine Calls.mono (spec_l01Mask _ _) ?_
    rintro e w1 ⟨rfl, hb1⟩
    obtain ⟨hc1, hf1, hz1⟩ := bcell3 hb1
    try simp at hz1
    have hz1_0 : w.heap.size < w1.heap.size := by omega
    have hz1_1 : w.heap.size + 1 < w1.heap.size := by omega
    have hz1_2 : w.heap.size + 1 + 1 < w1.heap.size := by omega
    go_wp2
    have c0 : w1.cell? ⟨w.heap.size + 1 + 1, 0, none⟩ = some (.int .u64 0) := by go_simp
    have c1 : w1.cell? ⟨w.heap.size + 1 + 1, 1, none⟩ = some (.int .u64 0) := by go_simp
    have c2 : w1.cell? ⟨w.heap.size + 1 + 1, 2, none⟩ = some (.int .u64 0) := by go_simp
    have c3 : w1.cell? ⟨w.heap.size + 1 + 1, 3, none⟩ = some (.int .u64 0) := by go_simp
    try clear hc1 hf1
    try clear hc2 hf2
    try clear hc3 hf3
    try clear hc4 hf4
    try clear hc5 hf5
    try clear hc6 hf6
    try clear hc7 hf7
    try clear hc8 hf8
    try clear hc9 hf9
    refine bodyPost_ret (v := .tuple #[.agg #[.int .u64 0, .int .u64 0, .int .u64 0, .int .u64 0], .int .i64 1]) (by simp [results, Tryz.results7, go_sem, c0, c1, c2, c3]) rfl ⟨rfl, ?_⟩
    (repeat (first | with_reducible exact Ext.refl _ | with_reducible exact hw | with_reducible exact hb9 | with_reducible exact hb8 | with_reducible exact hb7 | with_reducible exact hb6 | with_reducible exact hb5 | with_reducible exact hb4 | with_reducible exact hb3 | with_reducible exact hb2 | with_reducible exact hb1 | with_reducible refine Ext.alloc ?_ _ | with_reducible refine Ext.drew ?_ | ((with_reducible refine Ext.set ?_ ?_ _); focus (dsimp only; omega)) | with_reducible refine Ext.trans ?_ hb9 | with_reducible refine Ext.trans ?_ hb8 | with_reducible refine Ext.trans ?_ hb7 | with_reducible refine Ext.trans ?_ hb6 | with_reducible refine Ext.trans ?_ hb5 | with_reducible refine Ext.trans ?_ hb4 | with_reducible refine Ext.trans ?_ hb3 | with_reducible refine Ext.trans ?_ hb2 | with_reducible refine Ext.trans ?_ hb1 | with_reducible refine Ext.trans ?_ hw))
  cases h2 : isMaskB n
  · go_enter Tryz.func7, Tryz.ntmps7
    go_wp2_with fail
    refine Calls.mono (spec_l01Mask _ _) ?_
    rintro e w1 ⟨rfl, hb1⟩
    obtain ⟨hc1, hf1, hz1⟩ := bcell3 hb1
    try simp at hz1
    have hz1_0 : w.heap.size < w1.heap.size := by omega
    have hz1_1 : w.heap.size + 1 < w1.heap.size := by omega
    have hz1_2 : w.heap.size + 1 + 1 < w1.heap.size := by omega
    go_wp2_with fail
    refine Calls.mono (spec_l01Mask _ _) ?_
    rintro e w2 ⟨rfl, hb2⟩
    obtain ⟨hc2, hf2, hz2⟩ := bcell3 hb2
    try simp at hz2
    have hz2_0 : w.heap.size < w2.heap.size := by omega
    have hz2_1 : w.heap.size + 1 < w2.heap.size := by omega
    have hz2_2 : w.heap.size + 1 + 1 < w2.heap.size := by omega
    go_wp2
    have c0 : w2.cell? ⟨w.heap.size + 1 + 1, 0, none⟩ = some (.int .u64 0) := by go_simp
    have c1 : w2.cell? ⟨w.heap.size + 1 + 1, 1, none⟩ = some (.int .u64 0) := by go_simp
    have c2 : w2.cell? ⟨w.heap.size + 1 + 1, 2, none⟩ = some (.int .u64 0) := by go_simp
    have c3 : w2.cell? ⟨w.heap.size + 1 + 1, 3, none⟩ = some (.int .u64 0) := by go_simp
    try clear hc1 hf1
    try clear hc2 hf2
    try clear hc3 hf3
    try clear hc4 hf4
    try clear hc5 hf5
    try clear hc6 hf6
    try clear hc7 hf7
    try clear hc8 hf8
    try clear hc9 hf9
    refine bodyPost_ret (v := .tuple #[.agg #[.int .u64 0, .int .u64 0, .int .u64 0, .int .u64 0], .int .i64 1]) (by simp [results, Tryz.results7, go_sem, c0, c1, c2, c3]) rfl ⟨rfl, ?_⟩
    (repeat (first | with_reducible exact Ext.refl _ | with_reducible exact hw | with_reducible exact hb9 | with_reducible exact hb8 | with_reducible exact hb7 | with_reducible exact hb6 | with_reducible exact hb5 | with_reducible exact hb4 | with_reducible exact hb3 | with_reducible exact hb2 | with_reducible exact hb1 | with_reducible refine Ext.alloc ?_ _ | with_reducible refine Ext.drew ?_ | ((with_reducible refine Ext.set ?_ ?_ _); focus (dsimp only; omega)) | with_reducible refine Ext.trans ?_ hb9 | with_reducible refine Ext.trans ?_ hb8 | with_reducible refine Ext.trans ?_ hb7 | with_reducible refine Ext.trans ?_ hb6 | with_reducible refine Ext.trans ?_ hb5 | with_reducible refine Ext.trans ?_ hb4 | with_reducible refine Ext.trans ?_ hb3 | with_reducible refine Ext.trans ?_ hb2 | with_reducible refine Ext.trans ?_ hb1 | with_reducible refine Ext.trans ?_ hw))
  · go_enter Tryz.func7, Tryz.ntmps7
    go_wp2_with fail
    refine Calls.mono (spec_l01Mask _ _) ?_
    rintro e w1 ⟨rfl, hb1⟩
    obtain ⟨hc1, hf1, hz1⟩ := bcell3 hb1
    try simp at hz1
    have hz1_0 : w.heap.size < w1.heap.size := by omega
    have hz1_1 : w.heap.size + 1 < w1.heap.size := by omega
    have hz1_2 : w.heap.size + 1 + 1 < w1.heap.size := by omega
    go_wp2_with fail
    refine Calls.mono (spec_l01Mask _ _) ?_
    rintro e w2 ⟨rfl, hb2⟩
    obtain ⟨hc2, hf2, hz2⟩ := bcell3 hb2
    try simp at hz2
    have hz2_0 : w.heap.size < w2.heap.size := by omega
    have hz2_1 : w.heap.size + 1 < w2.heap.size := by omega
    have hz2_2 : w.heap.size + 1 + 1 < w2.heap.size := by omega
    go_wp2_with fail
    refine Calls.mono (spec_l04Between _ _ _) ?_
    rintro e w3 ⟨rfl, hb3⟩
    obtain ⟨hc3, hf3, hz3⟩ := bcell3 hb3
    try simp at hz3
    have hz3_0 : w.heap.size < w3.heap.size := by omega
    have hz3_1 : w.heap.size + 1 < w3.heap.size := by omega
    have hz3_2 : w.heap.size + 1 + 1 < w3.heap.size := by omega
    go_wp2
    have c0 : w3.cell? ⟨w.heap.size + 1 + 1, 0, none⟩ = some (.int .u64 0) := by go_simp
    have c1 : w3.cell? ⟨w.heap.size + 1 + 1, 1, none⟩ = some (.int .u64 0) := by go_simp
    have c2 : w3.cell? ⟨w.heap.size + 1 + 1, 2, none⟩ = some (.int .u64 0) := by go_simp
    have c3 : w3.cell? ⟨w.heap.size + 1 + 1, 3, none⟩ = some (.int .u64 0) := by go_simp
    try clear hc1 hf1
    try clear hc2 hf2
    try clear hc3 hf3
    try clear hc4 hf4
    try clear hc5 hf5
    try clear hc6 hf6
    try clear hc7 hf7
    try clear hc8 hf8
    try clear hc9 hf9
    refine bodyPost_ret (v := .tuple #[.agg #[.int .u64 (lo (mless n m)), .int .u64 (hi (mless n m)), .int .u64 (lo (mless m n)), .int .u64 (hi (mless m n))], .int .i64 0]) (by simp [results, Tryz.results7, go_sem, c0, c1, c2, c3]) rfl ⟨rfl, ?_⟩
    (repeat (first | with_reducible exact Ext.refl _ | with_reducible exact hw | with_reducible exact hb9 | with_reducible exact hb8 | with_reducible exact hb7 | with_reducible exact hb6 | with_reducible exact hb5 | with_reducible exact hb4 | with_reducible exact hb3 | with_reducible exact hb2 | with_reducible exact hb1 | with_reducible refine Ext.alloc ?_ _ | with_reducible refine Ext.drew ?_ | ((with_reducible refine Ext.set ?_ ?_ _); focus (dsimp only; omega)) | with_reducible refine Ext.trans ?_ hb9 | with_reducible refine Ext.trans ?_ hb8 | with_reducible refine Ext.trans ?_ hb7 | with_reducible refine Ext.trans ?_ hb6 | with_reducible refine Ext.trans ?_ hb5 | with_reducible refine Ext.trans ?_ hb4 | with_reducible refine Ext.trans ?_ hb3 | with_reducible refine Ext.trans ?_ hb2 | with_reducible refine Ext.trans ?_ hb1 | with_reducible refine Ext.trans ?_ hw))
set_option maxHeartbeats 400000 in
theorem impl_UndoWear (t f : Mask) (w : World) :
    Calls Tryz.prog 9 #[.agg #[.int .u64 (lo t), .int .u64 (hi t), .int .u64 (lo f), .int .u64 (hi f)]] w fun e w' => e = .returned (.tuple #[.agg #[.int .u64 (lo (uwT t f)), .int .u64 (hi (uwT t f)), .int .u64 (lo (uwF t f)), .int .u64 (hi (uwF t f))], .int .i64 (uwC t f)]) ∧ Ext w w' := by
  have hx := @ExtOf.cell
  unfold uwT uwF uwC
  cases h1 : isWearB t f
  · go_enter Tryz.func9, Tryz.ntmps9
    go_wp2_with fail
    refine Calls.mono (impl_isWear _ _ _) ?_
    rintro e w1 ⟨rfl, hb1⟩
    obtain ⟨hc1, hf1, hz1⟩ := bcell3 hb1
    try simp at hz1
    have hz1_0 : w.heap.size < w1.heap.size := by omega
    have hz1_1 : w.heap.size + 1 < w1.heap.size := by omega
    go_wp2
    have c0 : w1.cell? ⟨w.heap.size + 1, 0, none⟩ = some (.int .u64 0) := by go_simp
    have c1 : w1.cell? ⟨w.heap.size + 1, 1, none⟩ = some (.int .u64 0) := by go_simp
    have c2 : w1.cell? ⟨w.heap.size + 1, 2, none⟩ = some (.int .u64 0) := by go_simp
    have c3 : w1.cell? ⟨w.heap.size + 1, 3, none⟩ = some (.int .u64 0) := by go_simp
    try clear hc1 hf1
    try clear hc2 hf2
    try clear hc3 hf3
    try clear hc4 hf4
    try clear hc5 hf5
    try clear hc6 hf6
    try clear hc7 hf7
    try clear hc8 hf8
    try clear hc9 hf9
    refine bodyPost_ret (v := .tuple #[.agg #[.int .u64 0, .int .u64 0, .int .u64 0, .int .u64 0], .int .i64 1]) (by simp [results, Tryz.results9, go_sem, c0, c1, c2, c3]) rfl ⟨rfl, ?_⟩
    (repeat (first | with_reducible exact Ext.refl _ | with_reducible exact hw | with_reducible exact hb9 | with_reducible exact hb8 | with_reducible exact hb7 | with_reducible exact hb6 | with_reducible exact hb5 | with_reducible exact hb4 | with_reducible exact hb3 | with_reducible exact hb2 | with_reducible exact hb1 | with_reducible refine Ext.alloc ?_ _ | with_reducible refine Ext.drew ?_ | ((with_reducible refine Ext.set ?_ ?_ _); focus (dsimp only; omega)) | with_reducible refine Ext.trans ?_ hb9 | with_reducible refine Ext.trans ?_ hb8 | with_reducible refine Ext.trans ?_ hb7 | with_reducible refine Ext.trans ?_ hb6 | with_reducible refine Ext.trans ?_ hb5 | with_reducible refine Ext.trans ?_ hb4 | with_reducible refine Ext.trans ?_ hb3 | with_reducible refine Ext.trans ?_ hb2 | with_reducible refine Ext.trans ?_ hb1 | with_reducible refine Ext.trans ?_ hw))
  · go_enter Tryz.func9, Tryz.ntmps9
    go_wp2_with fail
    refine Calls.mono (impl_isWear _ _ _) ?_
    rintro e w1 ⟨rfl, hb1⟩
    obtain ⟨hc1, hf1, hz1⟩ := bcell3 hb1
    try simp at hz1
    have hz1_0 : w.heap.size < w1.heap.size := by omega
    have hz1_1 : w.heap.size + 1 < w1.heap.size := by omega
    go_wp2
    have c0 : w1.cell? ⟨w.heap.size + 1, 0, none⟩ = some (.int .u64 0) := by go_simp
    have c1 : w1.cell? ⟨w.heap.size + 1, 1, none⟩ = some (.int .u64 0) := by go_simp
    have c2 : w1.cell? ⟨w.heap.size + 1, 2, none⟩ = some (.int .u64 0) := by go_simp
    have c3 : w1.cell? ⟨w.heap.size + 1, 3, none⟩ = some (.int .u64 0) := by go_simp
    try clear hc1 hf1
    try clear hc2 hf2
    try clear hc3 hf3
    try clear hc4 hf4
    try clear hc5 hf5
    try clear hc6 hf6
    try clear hc7 hf7
    try clear hc8 hf8
    try clear hc9 hf9
    refine bodyPost_ret (v := .tuple #[.agg #[.int .u64 (lo f), .int .u64 (hi f), .int .u64 (lo t), .int .u64 (hi t)], .int .i64 0]) (by simp [results, Tryz.results9, go_sem, c0, c1, c2, c3]) rfl ⟨rfl, ?_⟩
    (repeat (first | with_reducible exact Ext.refl _ | with_reducible exact hw | with_reducible exact hb9 | with_reducible exact hb8 | with_reducible exact hb7 | with_reducible exact hb6 | with_reducible exact hb5 | with_reducible exact hb4 | with_reducible exact hb3 | with_reducible exact hb2 | with_reducible exact hb1 | with_reducible refine Ext.alloc ?_ _ | with_reducible refine Ext.drew ?_ | ((with_reducible refine Ext.set ?_ ?_ _); focus (dsimp only; omega)) | with_reducible refine Ext.trans ?_ hb9 | with_reducible refine Ext.trans ?_ hb8 | with_reducible refine Ext.trans ?_ hb7 | with_reducible refine Ext.trans ?_ hb6 | with_reducible refine Ext.trans ?_ hb5 | with_reducible refine Ext.trans ?_ hb4 | with_reducible refine Ext.trans ?_ hb3 | with_reducible refine Ext.trans ?_ hb2 | with_reducible refine Ext.trans ?_ hb1 | with_reducible refine Ext.trans ?_ hw))
set_option maxHeartbeats 400000 in
theorem impl_AfterWear (t f t' f' : Mask) (w : World) :
    Calls Tryz.prog 14 #[.agg #[.int .u64 (lo t), .int .u64 (hi t), .int .u64 (lo f), .int .u64 (hi f)], .agg #[.int .u64 (lo t'), .int .u64 (hi t'), .int .u64 (lo f'), .int .u64 (hi f')]] w fun e w' => e = .returned (.tuple #[.agg #[.int .u64 (lo (awT t f t' f')), .int .u64 (hi (awT t f t' f')), .int .u64 (lo (awF t f t' f')), .int .u64 (hi (awF t f t' f'))], .int .i64 (awC t f t' f')]) ∧ Ext w w' := by
  have hx := @ExtOf.cell
  unfold awT awF awC
  cases h1 : isWearB t f
  · go_enter Tryz.func14, Tryz.ntmps14
    go_wp2_with fail
    refine Calls.mono (impl_isWear _ _ _) ?_
    rintro e w1 ⟨rfl, hb1⟩
    obtain ⟨hc1, hf1, hz1⟩ := bcell3 hb1
    try simp at hz1
    have hz1_0 : w.heap.size < w1.heap.size := by omega
    have hz1_1 : w.heap.size + 1 < w1.heap.size := by omega
    have hz1_2 : w.heap.size + 1 + 1 < w1.heap.size := by omega
    go_wp2
    have c0 : w1.cell? ⟨w.heap.size + 1 + 1, 0, none⟩ = some (.int .u64 0) := by go_simp
    have c1 : w1.cell? ⟨w.heap.size + 1 + 1, 1, none⟩ = some (.int .u64 0) := by go_simp
    have c2 : w1.cell? ⟨w.heap.size + 1 + 1, 2, none⟩ = some (.int .u64 0) := by go_simp
    have c3 : w1.cell? ⟨w.heap.size + 1 + 1, 3, none⟩ = some (.int .u64 0) := by go_simp
    try clear hc1 hf1
    try clear hc2 hf2
    try clear hc3 hf3
    try clear hc4 hf4
    try clear hc5 hf5
    try clear hc6 hf6
    try clear hc7 hf7
    try clear hc8 hf8
    try clear hc9 hf9
    refine bodyPost_ret (v := .tuple #[.agg #[.int .u64 0, .int .u64 0, .int .u64 0, .int .u64 0], .int .i64 1]) (by simp [results, Tryz.results14, go_sem, c0, c1, c2, c3]) rfl ⟨rfl, ?_⟩
    (repeat (first | with_reducible exact Ext.refl _ | with_reducible exact hw | with_reducible exact hb9 | with_reducible exact hb8 | with_reducible exact hb7 | with_reducible exact hb6 | with_reducible exact hb5 | with_reducible exact hb4 | with_reducible exact hb3 | with_reducible exact hb2 | with_reducible exact hb1 | with_reducible refine Ext.alloc ?_ _ | with_reducible refine Ext.drew ?_ | ((with_reducible refine Ext.set ?_ ?_ _); focus (dsimp only; omega)) | with_reducible refine Ext.trans ?_ hb9 | with_reducible refine Ext.trans ?_ hb8 | with_reducible refine Ext.trans ?_ hb7 | with_reducible refine Ext.trans ?_ hb6 | with_reducible refine Ext.trans ?_ hb5 | with_reducible refine Ext.trans ?_ hb4 | with_reducible refine Ext.trans ?_ hb3 | with_reducible refine Ext.trans ?_ hb2 | with_reducible refine Ext.trans ?_ hb1 | with_reducible refine Ext.trans ?_ hw))
  cases h2 : isWearB t' f'
  · go_enter Tryz.func14, Tryz.ntmps14
    go_wp2_with fail
    refine Calls.mono (impl_isWear _ _ _) ?_
    rintro e w1 ⟨rfl, hb1⟩
    obtain ⟨hc1, hf1, hz1⟩ := bcell3 hb1
    try simp at hz1
    have hz1_0 : w.heap.size < w1.heap.size := by omega
    have hz1_1 : w.heap.size + 1 < w1.heap.size := by omega
    have hz1_2 : w.heap.size + 1 + 1 < w1.heap.size := by omega
    go_wp2_with fail
    refine Calls.mono (impl_isWear _ _ _) ?_
    rintro e w2 ⟨rfl, hb2⟩
    obtain ⟨hc2, hf2, hz2⟩ := bcell3 hb2
    try simp at hz2
    have hz2_0 : w.heap.size < w2.heap.size := by omega
    have hz2_1 : w.heap.size + 1 < w2.heap.size := by omega
    have hz2_2 : w.heap.size + 1 + 1 < w2.heap.size := by omega
    go_wp2
    have c0 : w2.cell? ⟨w.heap.size + 1 + 1, 0, none⟩ = some (.int .u64 0) := by go_simp
    have c1 : w2.cell? ⟨w.heap.size + 1 + 1, 1, none⟩ = some (.int .u64 0) := by go_simp
    have c2 : w2.cell? ⟨w.heap.size + 1 + 1, 2, none⟩ = some (.int .u64 0) := by go_simp
    have c3 : w2.cell? ⟨w.heap.size + 1 + 1, 3, none⟩ = some (.int .u64 0) := by go_simp
    try clear hc1 hf1
    try clear hc2 hf2
    try clear hc3 hf3
    try clear hc4 hf4
    try clear hc5 hf5
    try clear hc6 hf6
    try clear hc7 hf7
    try clear hc8 hf8
    try clear hc9 hf9
    refine bodyPost_ret (v := .tuple #[.agg #[.int .u64 0, .int .u64 0, .int .u64 0, .int .u64 0], .int .i64 1]) (by simp [results, Tryz.results14, go_sem, c0, c1, c2, c3]) rfl ⟨rfl, ?_⟩
    (repeat (first | with_reducible exact Ext.refl _ | with_reducible exact hw | with_reducible exact hb9 | with_reducible exact hb8 | with_reducible exact hb7 | with_reducible exact hb6 | with_reducible exact hb5 | with_reducible exact hb4 | with_reducible exact hb3 | with_reducible exact hb2 | with_reducible exact hb1 | with_reducible refine Ext.alloc ?_ _ | with_reducible refine Ext.drew ?_ | ((with_reducible refine Ext.set ?_ ?_ _); focus (dsimp only; omega)) | with_reducible refine Ext.trans ?_ hb9 | with_reducible refine Ext.trans ?_ hb8 | with_reducible refine Ext.trans ?_ hb7 | with_reducible refine Ext.trans ?_ hb6 | with_reducible refine Ext.trans ?_ hb5 | with_reducible refine Ext.trans ?_ hb4 | with_reducible refine Ext.trans ?_ hb3 | with_reducible refine Ext.trans ?_ hb2 | with_reducible refine Ext.trans ?_ hb1 | with_reducible refine Ext.trans ?_ hw))
  · go_enter Tryz.func14, Tryz.ntmps14
    go_wp2_with fail
    refine Calls.mono (impl_isWear _ _ _) ?_
    rintro e w1 ⟨rfl, hb1⟩
    obtain ⟨hc1, hf1, hz1⟩ := bcell3 hb1
    try simp at hz1
    have hz1_0 : w.heap.size < w1.heap.size := by omega
    have hz1_1 : w.heap.size + 1 < w1.heap.size := by omega
    have hz1_2 : w.heap.size + 1 + 1 < w1.heap.size := by omega
    go_wp2_with fail
    refine Calls.mono (impl_isWear _ _ _) ?_
    rintro e w2 ⟨rfl, hb2⟩
    obtain ⟨hc2, hf2, hz2⟩ := bcell3 hb2
    try simp at hz2
    have hz2_0 : w.heap.size < w2.heap.size := by omega
    have hz2_1 : w.heap.size + 1 < w2.heap.size := by omega
    have hz2_2 : w.heap.size + 1 + 1 < w2.heap.size := by omega
    go_wp2_with fail
    refine wp_region_ext_tail 17 17 (by kernel_rfl) (by kernel_rfl) (by intro d _ _ _ _ h; cases d <;> exact h) ?_
    simp only [List.take_succ_cons, List.take_zero, List.drop_succ_cons, List.drop_zero]
    repeat (first | go_big_quiet_step (((first | (go_at_call 27; with_reducible exact Calls.ext_of (impl_LessMask _ _ _)) | (go_at_call 39; with_reducible exact Calls.ext_of (impl_JoinMasks _ _ _))))) | quiet_step (((first | (go_at_call 27; with_reducible exact Calls.ext_of (impl_LessMask _ _ _)) | (go_at_call 39; with_reducible exact Calls.ext_of (impl_JoinMasks _ _ _))))))
    refine wpQuiet_nil ?_
    intro w3 hq3
    have hb3 := ext_of_class hq3
    clear hq3
    obtain ⟨hc3, hf3, hz3⟩ := bcell3 hb3
    try simp at hz3
    have hz3_0 : w.heap.size < w3.heap.size := by omega
    have hz3_1 : w.heap.size + 1 < w3.heap.size := by omega
    have hz3_2 : w.heap.size + 1 + 1 < w3.heap.size := by omega
    go_wp2
    have c0 : w3.cell? ⟨w.heap.size + 1 + 1, 0, none⟩ = some (.int .u64 0) := by go_simp
    have c1 : w3.cell? ⟨w.heap.size + 1 + 1, 1, none⟩ = some (.int .u64 0) := by go_simp
    have c2 : w3.cell? ⟨w.heap.size + 1 + 1, 2, none⟩ = some (.int .u64 0) := by go_simp
    have c3 : w3.cell? ⟨w.heap.size + 1 + 1, 3, none⟩ = some (.int .u64 0) := by go_simp
    try clear hc1 hf1
    try clear hc2 hf2
    try clear hc3 hf3
    try clear hc4 hf4
    try clear hc5 hf5
    try clear hc6 hf6
    try clear hc7 hf7
    try clear hc8 hf8
    try clear hc9 hf9
    refine bodyPost_ret (v := .tuple #[.agg #[.int .u64 (lo (mjoin t' (mless t f'))), .int .u64 (hi (mjoin t' (mless t f'))), .int .u64 (lo (mjoin f' (mless f t'))), .int .u64 (hi (mjoin f' (mless f t')))], .int .i64 0]) (by simp [results, Tryz.results14, go_sem, c0, c1, c2, c3]) rfl ⟨rfl, ?_⟩
    (repeat (first | with_reducible exact Ext.refl _ | with_reducible exact hw | with_reducible exact hb9 | with_reducible exact hb8 | with_reducible exact hb7 | with_reducible exact hb6 | with_reducible exact hb5 | with_reducible exact hb4 | with_reducible exact hb3 | with_reducible exact hb2 | with_reducible exact hb1 | with_reducible refine Ext.alloc ?_ _ | with_reducible refine Ext.drew ?_ | ((with_reducible refine Ext.set ?_ ?_ _); focus (dsimp only; omega)) | with_reducible refine Ext.trans ?_ hb9 | with_reducible refine Ext.trans ?_ hb8 | with_reducible refine Ext.trans ?_ hb7 | with_reducible refine Ext.trans ?_ hb6 | with_reducible refine Ext.trans ?_ hb5 | with_reducible refine Ext.trans ?_ hb4 | with_reducible refine Ext.trans ?_ hb3 | with_reducible refine Ext.trans ?_ hb2 | with_reducible refine Ext.trans ?_ hb1 | with_reducible refine Ext.trans ?_ hw))
set_option maxHeartbeats 400000 in
theorem spec_AfterWear (t f t' f' : Mask) (w : World) :
    Calls Tryz.prog 15 #[.agg #[.int .u64 (lo t), .int .u64 (hi t), .int .u64 (lo f), .int .u64 (hi f)], .agg #[.int .u64 (lo t'), .int .u64 (hi t'), .int .u64 (lo f'), .int .u64 (hi f')]] w fun e w' => e = .returned (.tuple #[.agg #[.int .u64 (lo (awT t f t' f')), .int .u64 (hi (awT t f t' f')), .int .u64 (lo (awF t f t' f')), .int .u64 (hi (awF t f t' f'))], .int .i64 (awC t f t' f')]) ∧ Ext w w' := by
  have hx := @ExtOf.cell
  unfold awT awF awC
  cases h1 : isWearB t f
  · go_enter Tryz.func15, Tryz.ntmps15
    go_wp2_with fail
    refine Calls.mono (spec_l04Ok t f _ _ _ (by first | omega | (simp <;> omega)) (by go_simp) (by go_simp) (by go_simp) (by go_simp)) ?_
    rintro e w1 ⟨rfl, hb1⟩
    obtain ⟨hc1, hf1, hz1⟩ := bcell3 hb1
    try simp at hz1
    have hz1_0 : w.heap.size < w1.heap.size := by omega
    have hz1_1 : w.heap.size + 1 < w1.heap.size := by omega
    have hz1_2 : w.heap.size + 1 + 1 < w1.heap.size := by omega
    go_wp2
    have c0 : w1.cell? ⟨w.heap.size + 1 + 1, 0, none⟩ = some (.int .u64 0) := by go_simp
    have c1 : w1.cell? ⟨w.heap.size + 1 + 1, 1, none⟩ = some (.int .u64 0) := by go_simp
    have c2 : w1.cell? ⟨w.heap.size + 1 + 1, 2, none⟩ = some (.int .u64 0) := by go_simp
    have c3 : w1.cell? ⟨w.heap.size + 1 + 1, 3, none⟩ = some (.int .u64 0) := by go_simp
    try clear hc1 hf1
    try clear hc2 hf2
    try clear hc3 hf3
    try clear hc4 hf4
    try clear hc5 hf5
    try clear hc6 hf6
    try clear hc7 hf7
    try clear hc8 hf8
    try clear hc9 hf9
    refine bodyPost_ret (v := .tuple #[.agg #[.int .u64 0, .int .u64 0, .int .u64 0, .int .u64 0], .int .i64 1]) (by simp [results, Tryz.results15, go_sem, c0, c1, c2, c3]) rfl ⟨rfl, ?_⟩
    (repeat (first | with_reducible exact Ext.refl _ | with_reducible exact hw | with_reducible exact hb9 | with_reducible exact hb8 | with_reducible exact hb7 | with_reducible exact hb6 | with_reducible exact hb5 | with_reducible exact hb4 | with_reducible exact hb3 | with_reducible exact hb2 | with_reducible exact hb1 | with_reducible refine Ext.alloc ?_ _ | with_reducible refine Ext.drew ?_ | ((with_reducible refine Ext.set ?_ ?_ _); focus (dsimp only; omega)) | with_reducible refine Ext.trans ?_ hb9 | with_reducible refine Ext.trans ?_ hb8 | with_reducible refine Ext.trans ?_ hb7 | with_reducible refine Ext.trans ?_ hb6 | with_reducible refine Ext.trans ?_ hb5 | with_reducible refine Ext.trans ?_ hb4 | with_reducible refine Ext.trans ?_ hb3 | with_reducible refine Ext.trans ?_ hb2 | with_reducible refine Ext.trans ?_ hb1 | with_reducible refine Ext.trans ?_ hw))
  cases h2 : isWearB t' f'
  · go_enter Tryz.func15, Tryz.ntmps15
    go_wp2_with fail
    refine Calls.mono (spec_l04Ok t f _ _ _ (by first | omega | (simp <;> omega)) (by go_simp) (by go_simp) (by go_simp) (by go_simp)) ?_
    rintro e w1 ⟨rfl, hb1⟩
    obtain ⟨hc1, hf1, hz1⟩ := bcell3 hb1
    try simp at hz1
    have hz1_0 : w.heap.size < w1.heap.size := by omega
    have hz1_1 : w.heap.size + 1 < w1.heap.size := by omega
    have hz1_2 : w.heap.size + 1 + 1 < w1.heap.size := by omega
    go_wp2_with fail
    refine Calls.mono (spec_l04Ok t' f' _ _ _ (by first | omega | (simp <;> omega)) (by go_simp) (by go_simp) (by go_simp) (by go_simp)) ?_
    rintro e w2 ⟨rfl, hb2⟩
    obtain ⟨hc2, hf2, hz2⟩ := bcell3 hb2
    try simp at hz2
    have hz2_0 : w.heap.size < w2.heap.size := by omega
    have hz2_1 : w.heap.size + 1 < w2.heap.size := by omega
    have hz2_2 : w.heap.size + 1 + 1 < w2.heap.size := by omega
    go_wp2
    have c0 : w2.cell? ⟨w.heap.size + 1 + 1, 0, none⟩ = some (.int .u64 0) := by go_simp
    have c1 : w2.cell? ⟨w.heap.size + 1 + 1, 1, none⟩ = some (.int .u64 0) := by go_simp
    have c2 : w2.cell? ⟨w.heap.size + 1 + 1, 2, none⟩ = some (.int .u64 0) := by go_simp
    have c3 : w2.cell? ⟨w.heap.size + 1 + 1, 3, none⟩ = some (.int .u64 0) := by go_simp
    try clear hc1 hf1
    try clear hc2 hf2
    try clear hc3 hf3
    try clear hc4 hf4
    try clear hc5 hf5
    try clear hc6 hf6
    try clear hc7 hf7
    try clear hc8 hf8
    try clear hc9 hf9
    refine bodyPost_ret (v := .tuple #[.agg #[.int .u64 0, .int .u64 0, .int .u64 0, .int .u64 0], .int .i64 1]) (by simp [results, Tryz.results15, go_sem, c0, c1, c2, c3]) rfl ⟨rfl, ?_⟩
    (repeat (first | with_reducible exact Ext.refl _ | with_reducible exact hw | with_reducible exact hb9 | with_reducible exact hb8 | with_reducible exact hb7 | with_reducible exact hb6 | with_reducible exact hb5 | with_reducible exact hb4 | with_reducible exact hb3 | with_reducible exact hb2 | with_reducible exact hb1 | with_reducible refine Ext.alloc ?_ _ | with_reducible refine Ext.drew ?_ | ((with_reducible refine Ext.set ?_ ?_ _); focus (dsimp only; omega)) | with_reducible refine Ext.trans ?_ hb9 | with_reducible refine Ext.trans ?_ hb8 | with_reducible refine Ext.trans ?_ hb7 | with_reducible refine Ext.trans ?_ hb6 | with_reducible refine Ext.trans ?_ hb5 | with_reducible refine Ext.trans ?_ hb4 | with_reducible refine Ext.trans ?_ hb3 | with_reducible refine Ext.trans ?_ hb2 | with_reducible refine Ext.trans ?_ hb1 | with_reducible refine Ext.trans ?_ hw))
  · go_enter Tryz.func15, Tryz.ntmps15
    go_wp2_with fail
    refine Calls.mono (spec_l04Ok t f _ _ _ (by first | omega | (simp <;> omega)) (by go_simp) (by go_simp) (by go_simp) (by go_simp)) ?_
    rintro e w1 ⟨rfl, hb1⟩
    obtain ⟨hc1, hf1, hz1⟩ := bcell3 hb1
    try simp at hz1
    have hz1_0 : w.heap.size < w1.heap.size := by omega
    have hz1_1 : w.heap.size + 1 < w1.heap.size := by omega
    have hz1_2 : w.heap.size + 1 + 1 < w1.heap.size := by omega
    go_wp2_with fail
    refine Calls.mono (spec_l04Ok t' f' _ _ _ (by first | omega | (simp <;> omega)) (by go_simp) (by go_simp) (by go_simp) (by go_simp)) ?_
    rintro e w2 ⟨rfl, hb2⟩
    obtain ⟨hc2, hf2, hz2⟩ := bcell3 hb2
    try simp at hz2
    have hz2_0 : w.heap.size < w2.heap.size := by omega
    have hz2_1 : w.heap.size + 1 < w2.heap.size := by omega
    have hz2_2 : w.heap.size + 1 + 1 < w2.heap.size := by omega
    go_wp2_with fail
    refine wp_region_ext_tail 17 17 (by kernel_rfl) (by kernel_rfl) (by intro d _ _ _ _ h; cases d <;> exact h) ?_
    simp only [List.take_succ_cons, List.take_zero, List.drop_succ_cons, List.drop_zero]
    repeat (first | go_big_quiet_step (((first | (go_at_call 41; with_reducible exact Calls.ext_of (spec_l01Less _ _ _)) | (go_at_call 24; with_reducible exact Calls.ext_of (spec_l01Join _ _ _))))) | quiet_step (((first | (go_at_call 41; with_reducible exact Calls.ext_of (spec_l01Less _ _ _)) | (go_at_call 24; with_reducible exact Calls.ext_of (spec_l01Join _ _ _))))))
    refine wpQuiet_nil ?_
    intro w3 hq3
    have hb3 := ext_of_class hq3
    clear hq3
    obtain ⟨hc3, hf3, hz3⟩ := bcell3 hb3
    try simp at hz3
    have hz3_0 : w.heap.size < w3.heap.size := by omega
    have hz3_1 : w.heap.size + 1 < w3.heap.size := by omega
    have hz3_2 : w.heap.size + 1 + 1 < w3.heap.size := by omega
    go_wp2
    have c0 : w3.cell? ⟨w.heap.size + 1 + 1, 0, none⟩ = some (.int .u64 0) := by go_simp
    have c1 : w3.cell? ⟨w.heap.size + 1 + 1, 1, none⟩ = some (.int .u64 0) := by go_simp
    have c2 : w3.cell? ⟨w.heap.size + 1 + 1, 2, none⟩ = some (.int .u64 0) := by go_simp
    have c3 : w3.cell? ⟨w.heap.size + 1 + 1, 3, none⟩ = some (.int .u64 0) := by go_simp
    try clear hc1 hf1
    try clear hc2 hf2
    try clear hc3 hf3
    try clear hc4 hf4
    try clear hc5 hf5
    try clear hc6 hf6
    try clear hc7 hf7
    try clear hc8 hf8
    try clear hc9 hf9
    refine bodyPost_ret (v := .tuple #[.agg #[.int .u64 (lo (mjoin t' (mless t f'))), .int .u64 (hi (mjoin t' (mless t f'))), .int .u64 (lo (mjoin f' (mless f t'))), .int .u64 (hi (mjoin f' (mless f t')))], .int .i64 0]) (by simp [results, Tryz.results15, go_sem, c0, c1, c2, c3]) rfl ⟨rfl, ?_⟩
    (repeat (first | with_reducible exact Ext.refl _ | with_reducible exact hw | with_reducible exact hb9 | with_reducible exact hb8 | with_reducible exact hb7 | with_reducible exact hb6 | with_reducible exact hb5 | with_reducible exact hb4 | with_reducible exact hb3 | with_reducible exact hb2 | with_reducible exact hb1 | with_reducible refine Ext.alloc ?_ _ | with_reducible refine Ext.drew ?_ | ((with_reducible refine Ext.set ?_ ?_ _); focus (dsimp only; omega)) | with_reducible refine Ext.trans ?_ hb9 | with_reducible refine Ext.trans ?_ hb8 | with_reducible refine Ext.trans ?_ hb7 | with_reducible refine Ext.trans ?_ hb6 | with_reducible refine Ext.trans ?_ hb5 | with_reducible refine Ext.trans ?_ hb4 | with_reducible refine Ext.trans ?_ hb3 | with_reducible refine Ext.trans ?_ hb2 | with_reducible refine Ext.trans ?_ hb1 | with_reducible refine Ext.trans ?_ hw))
end Go.Proofs.YthkphhacmneeiaaGreatDoor
