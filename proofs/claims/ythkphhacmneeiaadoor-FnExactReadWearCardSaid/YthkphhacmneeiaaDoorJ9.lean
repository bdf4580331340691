/-
  The walk of the law FnExactReadWear.
-/
import Derived.Test.YthkphhacmneeiaaDoorJ8
set_option linter.unusedVariables false
set_option linter.unusedSimpArgs false
set_option maxRecDepth 100000
namespace Go.Proofs.YthkphhacmneeiaaDoor
open Go.RowKit
set_option maxHeartbeats 1000000 in
theorem laws_FnExactReadWear (s : ByteArray) (w : World) (hG : Glob w) (hEn : Env w) : Calls Tryd.prog 4 #[.string s] w fun e w' => e = .returned (.bool true) ∧ Ext w w' := by
  by_cases hb : 1048576 < s.size
  · have i1 : (1048576 : Int) < s.size := by omega
    go_enter Tryd.func4, Tryd.ntmps4
    go_wp2
    go_ret
    exact ⟨rfl, Ext.refl _⟩
  have i1 : ((1048576 : Int) < s.size) = False := eq_false (by omega)
  have hsp := fun W => spec_ReadWear s (by omega) W
  have him := fun W h1 h2 => impl_ReadWear s (by omega) W h1 h2
  go_enter Tryd.func4, Tryd.ntmps4
  go_wp2_with fail
  refine Calls.mono (hsp _) ?_
  rintro e w1 ⟨t, f, c, rfl, hr1, hb1⟩
  go_wp2_with fail
  refine Calls.mono (him _ (hG.ext (hb1.alloc _)) (hEn.ext (hb1.alloc _))) ?_
  rintro e w2 ⟨t', f', c', rfl, hr2, hb2⟩
  obtain ⟨rfl, rfl, rfl⟩ := hr1.uniq hr2
  have hA : BoxAt w2 w1.heap.size #[.int .u64 (lo t), .int .u64 (hi t), .int .u64 (lo f), .int .u64 (hi f)] 29 := (BoxAt.new' rfl).ext hb2
  have hw2 := (hb1.alloc _).trans hb2
  have a0 : w2.cell? ⟨w1.heap.size, 0, none⟩ = some (.int .u64 (lo t)) := hA.cell 0
  have a1 : w2.cell? ⟨w1.heap.size, 1, none⟩ = some (.int .u64 (hi t)) := hA.cell 1
  have a2 : w2.cell? ⟨w1.heap.size, 2, none⟩ = some (.int .u64 (lo f)) := hA.cell 2
  have a3 : w2.cell? ⟨w1.heap.size, 3, none⟩ = some (.int .u64 (hi f)) := hA.cell 3
  have lA := hA.lt
  clear hr1 hr2 hb2 hsp him
  have heq := fun W => laws_eqWear t f t f W
  rw [meqB_refl, meqB_refl] at heq
  go_wp2_with fail
  refine Calls.mono (heq _) ?_
  rintro e w3 ⟨rfl, hb3⟩
  go_wp2
  go_ret
  exact ⟨rfl, (hw2.alloc _).trans hb3⟩
end Go.Proofs.YthkphhacmneeiaaDoor
