/-
  Contract of the laws' function that measures a slice of masks.
-/
import Derived.Test.YtbmompanhigmnaaDoorC5
set_option linter.unusedVariables false
set_option linter.unusedSimpArgs false
namespace Go.Proofs.YtbmompanhigmnaaDoor
open Go.RowKit
set_option maxHeartbeats 400000 in
theorem laws_szMaskS (n : Nat) (A : Option Addr) (cap : Nat) (left : Int) (h0 : 0 ≤ left) (h1 : left ≤ 1048576) (hn : n ≤ 9223372036854775807) (w : World) :
    Calls Tryd.prog 20 #[.slice A n cap, .int .i64 left] w fun e w' => e = .returned (.int .i64 (szF n left)) ∧ Ext w w' := by
  by_cases hh : (n : Int) ≤ left
  · have hv : szF n left = left - n := if_pos hh
    rw [hv]
    clear hv
    go_enter Tryd.func20, Tryd.ntmps20
    go_wp2
    go_ret
    exact ⟨rfl, Ext.refl _⟩
  · have hv : szF n left = -1 := if_neg hh
    rw [hv]
    clear hv
    go_enter Tryd.func20, Tryd.ntmps20
    go_wp2
    go_ret
    exact ⟨rfl, Ext.refl _⟩
end Go.Proofs.YtbmompanhigmnaaDoor
