/-
  Contracts of the functions on masks, holes and wear: what each call returns, and that it only adds blocks.
-/
import Derived.Test.YtmphnocgihegbaaDoorRows
import Derived.Test.YtmphnocgihegbaaDoorL0
set_option linter.unusedVariables false
set_option linter.unusedSimpArgs false
namespace Go.Proofs.YtmphnocgihegbaaDoor
open Go.RowKit

set_option maxHeartbeats 400000 in
theorem spec_l00In (n a b : Int) (w : World) :
    Calls Tryd.prog 67 #[.int .i64 n, .int .i64 a, .int .i64 b] w fun e w' => e = .returned (.bool (inB n a b)) ∧ Ext w w' := by
  by_cases h0 : a ≤ n
  · have e1 : inB n a b = decide (n ≤ b) := by simp [inB, h0]
    rw [e1]
    clear e1
    go_enter Tryd.func67, Tryd.ntmps67
    go_wp2
    go_ret
    exact ⟨rfl, Ext.refl _⟩
  · have e1 : inB n a b = false := by simp [inB, h0]
    rw [e1]
    clear e1
    go_enter Tryd.func67, Tryd.ntmps67
    go_wp2
    go_ret
    exact ⟨rfl, Ext.refl _⟩
