/-
  What the walks of the laws on mixes share: copies of a mix, measures.
-/
import Derived.Test.YtbmompanhigmnaaDoorXA
import Derived.Test.YtbmompanhigmnaaDoorLS
import Derived.Test.YtbmompanhigmnaaDoorL6
import Derived.Test.YtbmompanhigmnaaDoorMA
set_option linter.unusedVariables false
set_option linter.unusedSimpArgs false
set_option maxRecDepth 100000
namespace Go.Proofs.YtbmompanhigmnaaDoor
open Go.RowKit
theorem szF_ok {n : Nat} {l : Int} (h : ¬ szF n l < 0) (hl : 0 ≤ l) : (n : Int) ≤ l ∧ 0 ≤ szF n l ∧ szF n l ≤ l := by
  unfold szF at *
  split at h
  · rename_i h1; rw [if_pos h1]; omega
  · omega
set_option maxHeartbeats 400000 in
theorem laws_toMix (x : Mx) (w : World) : Calls Tryd.prog 12 #[.agg #[.int .i16 x.st, .int .i16 x.sz, .int .i16 x.per]] w fun e w' => e = .returned (.agg #[.int .i16 x.st, .int .i16 x.sz, .int .i16 x.per]) ∧ Ext w w' := by
  obtain ⟨st, sz, per⟩ := x
  go_enter Tryd.func12, Tryd.ntmps12
  go_wp2
  refine bodyPost_ret (v := .agg #[.int .i16 st, .int .i16 sz, .int .i16 per]) (by simp [results, Tryd.results12, go_sem]) rfl ⟨rfl, ?_⟩
  (repeat (first | with_reducible exact Ext.refl _ | with_reducible exact hw | with_reducible exact hb9 | with_reducible exact hb8 | with_reducible exact hb7 | with_reducible exact hb6 | with_reducible exact hb5 | with_reducible exact hb4 | with_reducible exact hb3 | with_reducible exact hb2 | with_reducible exact hb1 | with_reducible refine Ext.alloc ?_ _ | with_reducible refine Ext.drew ?_ | ((with_reducible refine Ext.set ?_ ?_ _); focus (dsimp only; omega)) | with_reducible refine Ext.trans ?_ hb9 | with_reducible refine Ext.trans ?_ hb8 | with_reducible refine Ext.trans ?_ hb7 | with_reducible refine Ext.trans ?_ hb6 | with_reducible refine Ext.trans ?_ hb5 | with_reducible refine Ext.trans ?_ hb4 | with_reducible refine Ext.trans ?_ hb3 | with_reducible refine Ext.trans ?_ hb2 | with_reducible refine Ext.trans ?_ hb1 | with_reducible refine Ext.trans ?_ hw))
end Go.Proofs.YtbmompanhigmnaaDoor
