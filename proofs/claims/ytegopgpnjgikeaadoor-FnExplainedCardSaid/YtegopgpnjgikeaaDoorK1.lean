/-
  Contracts of the functions on one card.
-/
import Derived.Test.YtegopgpnjgikeaaDoorK0
set_option linter.unusedVariables false
set_option linter.unusedSimpArgs false
namespace Go.Proofs.YtegopgpnjgikeaaDoor
open Go.RowKit
set_option maxHeartbeats 400000 in
theorem spec_l01Ok (x : Crd) (hx : x.nm.size ≤ 9223372036854775807) (b o : Nat) (w : World) (hb : b < w.heap.size) (g0 : w.cell? ⟨b, o, none⟩ = some (.string x.nm)) (g1 : w.cell? ⟨b, o + 1, none⟩ = some (.int .u64 (lo x.m)))
    (g2 : w.cell? ⟨b, o + 1 + 1, none⟩ = some (.int .u64 (hi x.m))) :
    Calls Tryd.prog 76 #[.pointer (some ⟨b, o, none⟩)] w fun e w' => e = .returned (.bool (isCardB x)) ∧ Ext w w' := by
  unfold isCardB
  cases h1 : isNameB x.nm
  · go_enter Tryd.func76, Tryd.ntmps76
    go_wp2_with fail
    refine Calls.mono (spec_l01Name _ _ hx) ?_
    rintro e w1 ⟨rfl, hb1⟩
    obtain ⟨hc1, hf1, hz1⟩ := bcell3 hb1
    try simp at hz1
    go_wp2
    go_ret
    refine ⟨rfl, ?_⟩
    (repeat (first | with_reducible exact Ext.refl _ | with_reducible exact hw | with_reducible exact hb9 | with_reducible exact hb8 | with_reducible exact hb7 | with_reducible exact hb6 | with_reducible exact hb5 | with_reducible exact hb4 | with_reducible exact hb3 | with_reducible exact hb2 | with_reducible exact hb1 | with_reducible refine Ext.alloc ?_ _ | with_reducible refine Ext.drew ?_ | ((with_reducible refine Ext.set ?_ ?_ _); focus (dsimp only; omega)) | with_reducible refine Ext.trans ?_ hb9 | with_reducible refine Ext.trans ?_ hb8 | with_reducible refine Ext.trans ?_ hb7 | with_reducible refine Ext.trans ?_ hb6 | with_reducible refine Ext.trans ?_ hb5 | with_reducible refine Ext.trans ?_ hb4 | with_reducible refine Ext.trans ?_ hb3 | with_reducible refine Ext.trans ?_ hb2 | with_reducible refine Ext.trans ?_ hb1 | with_reducible refine Ext.trans ?_ hw))
  · cases h2 : isMaskB x.m
    all_goals
      go_enter Tryd.func76, Tryd.ntmps76
      go_wp2_with fail
      refine Calls.mono (spec_l01Name _ _ hx) ?_
      rintro e w1 ⟨rfl, hb1⟩
      obtain ⟨hc1, hf1, hz1⟩ := bcell3 hb1
      try simp at hz1
      go_wp2_with fail
      refine Calls.mono (spec_l01Mask _ _) ?_
      rintro e w2 ⟨rfl, hb2⟩
      obtain ⟨hc2, hf2, hz2⟩ := bcell3 hb2
      try simp at hz2
      go_wp2
      go_ret
      refine ⟨rfl, ?_⟩
      (repeat (first | with_reducible exact Ext.refl _ | with_reducible exact hw | with_reducible exact hb9 | with_reducible exact hb8 | with_reducible exact hb7 | with_reducible exact hb6 | with_reducible exact hb5 | with_reducible exact hb4 | with_reducible exact hb3 | with_reducible exact hb2 | with_reducible exact hb1 | with_reducible refine Ext.alloc ?_ _ | with_reducible refine Ext.drew ?_ | ((with_reducible refine Ext.set ?_ ?_ _); focus (dsimp only; omega)) | with_reducible refine Ext.trans ?_ hb9 | with_reducible refine Ext.trans ?_ hb8 | with_reducible refine Ext.trans ?_ hb7 | with_reducible refine Ext.trans ?_ hb6 | with_reducible refine Ext.trans ?_ hb5 | with_reducible refine Ext.trans ?_ hb4 | with_reducible refine Ext.trans ?_ hb3 | with_reducible refine Ext.trans ?_ hb2 | with_reducible refine Ext.trans ?_ hb1 | with_reducible refine Ext.trans ?_ hw))
set_option maxHeartbeats 400000 in
theorem impl_on (t f m : Mask) (w : World) :
    Calls Tryd.prog 69 #[.agg #[.int .u64 (lo t), .int .u64 (hi t), .int .u64 (lo f), .int .u64 (hi f)], .agg #[.int .u64 (lo m), .int .u64 (hi m)]] w fun e w' => e = .returned (.agg #[.int .u64 (lo (wornM t f m)), .int .u64 (hi (wornM t f m))]) ∧ Ext w w' := by
  have hx := @ExtOf.cell
  unfold wornM
  go_enter Tryd.func69, Tryd.ntmps69
  go_wp2_with fail
  refine wp_region_ext_tail 7 7 (by kernel_rfl) (by kernel_rfl) (by intro d _ _ _ _ h; cases d <;> exact h) ?_
  simp only [List.take_succ_cons, List.take_zero, List.drop_succ_cons, List.drop_zero]
  repeat (first | go_big_quiet_step ((first | (go_at_call 99; with_reducible exact Calls.ext_of (impl_JoinMasks _ _ _)) | (go_at_call 108; with_reducible exact Calls.ext_of (impl_LessMask _ _ _)))) | quiet_step ((first | (go_at_call 99; with_reducible exact Calls.ext_of (impl_JoinMasks _ _ _)) | (go_at_call 108; with_reducible exact Calls.ext_of (impl_LessMask _ _ _)))))
  refine wpQuiet_nil ?_
  intro w1 hq1
  have hb1 := ext_of_class hq1
  clear hq1
  obtain ⟨hc1, hf1, hz1⟩ := bcell3 hb1
  try simp at hz1
  have hz1_0 : w.heap.size < w1.heap.size := by omega
  have hz1_1 : w.heap.size + 1 < w1.heap.size := by omega
  have hz1_2 : w.heap.size + 1 + 1 < w1.heap.size := by omega
  go_wp2
  have c0 : w1.cell? ⟨w.heap.size + 1 + 1, 0, none⟩ = some (.int .u64 0) := by go_simp
  have c1 : w1.cell? ⟨w.heap.size + 1 + 1, 1, none⟩ = some (.int .u64 0) := by go_simp
  try clear hc1 hf1
  try clear hc2 hf2
  try clear hc3 hf3
  try clear hc4 hf4
  try clear hc5 hf5
  try clear hc6 hf6
  try clear hc7 hf7
  try clear hc8 hf8
  try clear hc9 hf9
  refine bodyPost_ret (v := .agg #[.int .u64 (lo (mless (mjoin m t) f)), .int .u64 (hi (mless (mjoin m t) f))]) (by simp [results, Tryd.results69, go_sem, c0, c1]) rfl ⟨rfl, ?_⟩
  (repeat (first | with_reducible exact Ext.refl _ | with_reducible exact hw | with_reducible exact hb9 | with_reducible exact hb8 | with_reducible exact hb7 | with_reducible exact hb6 | with_reducible exact hb5 | with_reducible exact hb4 | with_reducible exact hb3 | with_reducible exact hb2 | with_reducible exact hb1 | with_reducible refine Ext.alloc ?_ _ | with_reducible refine Ext.drew ?_ | ((with_reducible refine Ext.set ?_ ?_ _); focus (dsimp only; omega)) | with_reducible refine Ext.trans ?_ hb9 | with_reducible refine Ext.trans ?_ hb8 | with_reducible refine Ext.trans ?_ hb7 | with_reducible refine Ext.trans ?_ hb6 | with_reducible refine Ext.trans ?_ hb5 | with_reducible refine Ext.trans ?_ hb4 | with_reducible refine Ext.trans ?_ hb3 | with_reducible refine Ext.trans ?_ hb2 | with_reducible refine Ext.trans ?_ hb1 | with_reducible refine Ext.trans ?_ hw))
set_option maxHeartbeats 400000 in
theorem spec_l04Worn (t f m : Mask) (b o : Nat) (w : World) (hb : b < w.heap.size) (g0 : w.cell? ⟨b, o, none⟩ = some (.int .u64 (lo t))) (g1 : w.cell? ⟨b, o + 1, none⟩ = some (.int .u64 (hi t)))
    (g2 : w.cell? ⟨b, o + 2, none⟩ = some (.int .u64 (lo f))) (g3 : w.cell? ⟨b, o + 2 + 1, none⟩ = some (.int .u64 (hi f))) :
    Calls Tryd.prog 74 #[.agg #[.int .u64 (lo m), .int .u64 (hi m)], .pointer (some ⟨b, o, none⟩)] w fun e w' => e = .returned (.agg #[.int .u64 (lo (wornM t f m)), .int .u64 (hi (wornM t f m))]) ∧ Ext w w' := by
  have hx := @ExtOf.cell
  unfold wornM
  have n1 : ¬ (b = w.heap.size) := by omega
  have n2 : ¬ (b = w.heap.size + 1) := by omega
  have n3 : b < w.heap.size + 1 := by omega
  have n4 : b < w.heap.size + 1 + 1 := by omega
  go_enter Tryd.func74, Tryd.ntmps74
  go_wp2_with fail
  refine wp_region_ext_tail 11 11 (by kernel_rfl) (by kernel_rfl) (by intro d _ _ _ _ h; cases d <;> exact h) ?_
  simp only [List.take_succ_cons, List.take_zero, List.drop_succ_cons, List.drop_zero]
  repeat (first | go_big_quiet_step ((first | (go_at_call 61; with_reducible exact Calls.ext_of (spec_l01Join _ _ _)) | (go_at_call 78; with_reducible exact Calls.ext_of (spec_l01Less _ _ _)))) | quiet_step ((first | (go_at_call 61; with_reducible exact Calls.ext_of (spec_l01Join _ _ _)) | (go_at_call 78; with_reducible exact Calls.ext_of (spec_l01Less _ _ _)))))
  refine wpQuiet_nil ?_
  intro w1 hq1
  have hb1 := ext_of_class hq1
  clear hq1
  obtain ⟨hc1, hf1, hz1⟩ := bcell3 hb1
  try simp at hz1
  have hz1_0 : w.heap.size < w1.heap.size := by omega
  have hz1_1 : w.heap.size + 1 < w1.heap.size := by omega
  go_wp2
  have c0 : w1.cell? ⟨w.heap.size + 1, 0, none⟩ = some (.int .u64 0) := by go_simp
  have c1 : w1.cell? ⟨w.heap.size + 1, 1, none⟩ = some (.int .u64 0) := by go_simp
  try clear hc1 hf1
  try clear hc2 hf2
  try clear hc3 hf3
  try clear hc4 hf4
  try clear hc5 hf5
  try clear hc6 hf6
  try clear hc7 hf7
  try clear hc8 hf8
  try clear hc9 hf9
  refine bodyPost_ret (v := .agg #[.int .u64 (lo (mless (mjoin m t) f)), .int .u64 (hi (mless (mjoin m t) f))]) (by simp [results, Tryd.results74, go_sem, c0, c1]) rfl ⟨rfl, ?_⟩
  (repeat (first | with_reducible exact Ext.refl _ | with_reducible exact hw | with_reducible exact hb9 | with_reducible exact hb8 | with_reducible exact hb7 | with_reducible exact hb6 | with_reducible exact hb5 | with_reducible exact hb4 | with_reducible exact hb3 | with_reducible exact hb2 | with_reducible exact hb1 | with_reducible refine Ext.alloc ?_ _ | with_reducible refine Ext.drew ?_ | ((with_reducible refine Ext.set ?_ ?_ _); focus (dsimp only; omega)) | with_reducible refine Ext.trans ?_ hb9 | with_reducible refine Ext.trans ?_ hb8 | with_reducible refine Ext.trans ?_ hb7 | with_reducible refine Ext.trans ?_ hb6 | with_reducible refine Ext.trans ?_ hb5 | with_reducible refine Ext.trans ?_ hb4 | with_reducible refine Ext.trans ?_ hb3 | with_reducible refine Ext.trans ?_ hb2 | with_reducible refine Ext.trans ?_ hb1 | with_reducible refine Ext.trans ?_ hw))
