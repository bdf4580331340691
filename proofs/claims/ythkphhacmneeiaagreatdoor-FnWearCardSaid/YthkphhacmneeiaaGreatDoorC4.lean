/-
  Contracts of CountWear.
-/
import Derived.Test.YthkphhacmneeiaaGreatDoorC3
set_option linter.unusedVariables false
set_option linter.unusedSimpArgs false
namespace Go.Proofs.YthkphhacmneeiaaGreatDoor
open Go.RowKit
def cwN (t f : Mask) : Int := if isWearB t f then mcount t + mcount f else 0
def cwC (t f : Mask) : Int := if isWearB t f then 0 else 1
set_option maxHeartbeats 400000 in
theorem impl_CountWear (t f : Mask) (w : World) :
    Calls Tryz.prog 19 #[.agg #[.int .u64 (lo t), .int .u64 (hi t), .int .u64 (lo f), .int .u64 (hi f)]] w fun e w' => e = .returned (.tuple #[.int .i64 (cwN t f), .int .i64 (cwC t f)]) ∧ Ext w w' := by
  have g1 := mcount_ge t
  have g2 := mcount_ge f
  have g3 := mcount_le t
  have g4 := mcount_le f
  have hx := @ExtOf.cell
  unfold cwN cwC
  cases h1 : isWearB t f
  · go_enter Tryz.func19, Tryz.ntmps19
    go_wp2_with fail
    refine Calls.mono (impl_isWear _ _ _) ?_
    rintro e w1 ⟨rfl, hb1⟩
    obtain ⟨hc1, hf1, hz1⟩ := bcell3 hb1
    try simp at hz1
    have hz1_0 : w.heap.size < w1.heap.size := by omega
    go_wp2
    go_ret2
    refine ⟨rfl, ?_⟩
    (repeat (first | with_reducible exact Ext.refl _ | with_reducible exact hw | with_reducible exact hb9 | with_reducible exact hb8 | with_reducible exact hb7 | with_reducible exact hb6 | with_reducible exact hb5 | with_reducible exact hb4 | with_reducible exact hb3 | with_reducible exact hb2 | with_reducible exact hb1 | with_reducible refine Ext.alloc ?_ _ | with_reducible refine Ext.drew ?_ | ((with_reducible refine Ext.set ?_ ?_ _); focus (dsimp only; omega)) | with_reducible refine Ext.trans ?_ hb9 | with_reducible refine Ext.trans ?_ hb8 | with_reducible refine Ext.trans ?_ hb7 | with_reducible refine Ext.trans ?_ hb6 | with_reducible refine Ext.trans ?_ hb5 | with_reducible refine Ext.trans ?_ hb4 | with_reducible refine Ext.trans ?_ hb3 | with_reducible refine Ext.trans ?_ hb2 | with_reducible refine Ext.trans ?_ hb1 | with_reducible refine Ext.trans ?_ hw))
  · go_enter Tryz.func19, Tryz.ntmps19
    go_wp2_with fail
    refine Calls.mono (impl_isWear _ _ _) ?_
    rintro e w1 ⟨rfl, hb1⟩
    obtain ⟨hc1, hf1, hz1⟩ := bcell3 hb1
    try simp at hz1
    have hz1_0 : w.heap.size < w1.heap.size := by omega
    go_wp2_with fail
    refine wp_region_ext (by kernel_rfl) (by kernel_rfl) ?_
    repeat (first | go_big_quiet_step (((first | (go_at_call 48; with_reducible exact Calls.ext_of (impl_CountHoles t _)) | (go_at_call 48; with_reducible exact Calls.ext_of (impl_CountHoles f _))))) | quiet_step (((first | (go_at_call 48; with_reducible exact Calls.ext_of (impl_CountHoles t _)) | (go_at_call 48; with_reducible exact Calls.ext_of (impl_CountHoles f _))))))
    refine wpQuiet_nil ?_
    intro w2 hq2
    have hb2 := ext_of_class hq2
    clear hq2
    obtain ⟨hc2, hf2, hz2⟩ := bcell3 hb2
    try simp at hz2
    have hz2_0 : w.heap.size < w2.heap.size := by omega
    go_wp2
    go_ret2
    refine ⟨rfl, ?_⟩
    (repeat (first | with_reducible exact Ext.refl _ | with_reducible exact hw | with_reducible exact hb9 | with_reducible exact hb8 | with_reducible exact hb7 | with_reducible exact hb6 | with_reducible exact hb5 | with_reducible exact hb4 | with_reducible exact hb3 | with_reducible exact hb2 | with_reducible exact hb1 | with_reducible refine Ext.alloc ?_ _ | with_reducible refine Ext.drew ?_ | ((with_reducible refine Ext.set ?_ ?_ _); focus (dsimp only; omega)) | with_reducible refine Ext.trans ?_ hb9 | with_reducible refine Ext.trans ?_ hb8 | with_reducible refine Ext.trans ?_ hb7 | with_reducible refine Ext.trans ?_ hb6 | with_reducible refine Ext.trans ?_ hb5 | with_reducible refine Ext.trans ?_ hb4 | with_reducible refine Ext.trans ?_ hb3 | with_reducible refine Ext.trans ?_ hb2 | with_reducible refine Ext.trans ?_ hb1 | with_reducible refine Ext.trans ?_ hw))
