/-
  Wear by chance as data, and the contract of nextChance.
-/
import Derived.Test.YtegopgpnjgikeaaGreatDoorK1
set_option linter.unusedVariables false
set_option linter.unusedSimpArgs false
namespace Go.Proofs.YtegopgpnjgikeaaGreatDoor
open Go.RowKit
def nextC (s : Int) : Int := (1664525 * s % 4294967296 + 1013904223) % 4294967296
theorem nextC_ge (s : Int) : 0 ≤ nextC s := by unfold nextC; omega
theorem nextC_lt (s : Int) : nextC s < 4294967296 := by unfold nextC; omega
/-- The state behind k holes: the seed, what is torn, what is filled. -/
def chTo (c : Mask) (torn filled seed : Int) : Nat → Int × Mask × Mask
  | 0 => (seed, 0, 0)
  | k + 1 =>
    let st := chTo c torn filled seed k
    let s := nextC st.1
    if mhas c k = true then (if s / 65536 % 1000 < filled then (s, st.2.1, mjoin st.2.2 (mbit k)) else (s, st.2.1, st.2.2))
    else (if s / 65536 % 1000 < torn then (s, mjoin st.2.1 (mbit k), st.2.2) else (s, st.2.1, st.2.2))
theorem chTo_zero (c : Mask) (torn filled seed : Int) : chTo c torn filled seed 0 = (seed, 0, 0) := rfl
theorem chTo_fill (c : Mask) (torn filled seed : Int) (k : Nat) (h : mhas c k = true) (h2 : nextC (chTo c torn filled seed k).1 / 65536 % 1000 < filled) :
    chTo c torn filled seed (k + 1) = (nextC (chTo c torn filled seed k).1, (chTo c torn filled seed k).2.1, mjoin (chTo c torn filled seed k).2.2 (mbit k)) := by rw [chTo]; simp only [h, h2, if_true]
theorem chTo_keep1 (c : Mask) (torn filled seed : Int) (k : Nat) (h : mhas c k = true) (h2 : ¬ nextC (chTo c torn filled seed k).1 / 65536 % 1000 < filled) :
    chTo c torn filled seed (k + 1) = (nextC (chTo c torn filled seed k).1, (chTo c torn filled seed k).2.1, (chTo c torn filled seed k).2.2) := by rw [chTo]; simp only [h, h2, if_true, if_false]
theorem chTo_tear (c : Mask) (torn filled seed : Int) (k : Nat) (h : mhas c k = false) (h2 : nextC (chTo c torn filled seed k).1 / 65536 % 1000 < torn) :
    chTo c torn filled seed (k + 1) = (nextC (chTo c torn filled seed k).1, mjoin (chTo c torn filled seed k).2.1 (mbit k), (chTo c torn filled seed k).2.2) := by rw [chTo]; simp only [h, h2, if_true, Bool.false_eq_true, if_false]
theorem chTo_keep2 (c : Mask) (torn filled seed : Int) (k : Nat) (h : mhas c k = false) (h2 : ¬ nextC (chTo c torn filled seed k).1 / 65536 % 1000 < torn) :
    chTo c torn filled seed (k + 1) = (nextC (chTo c torn filled seed k).1, (chTo c torn filled seed k).2.1, (chTo c torn filled seed k).2.2) := by rw [chTo]; simp only [h, h2, Bool.false_eq_true, if_false]
attribute [irreducible] chTo nextC
set_option maxHeartbeats 400000 in
theorem impl_nextChance (s : Int) (h0 : 0 ≤ s) (h1 : s < 4294967296) (w : World) :
    Calls Tryz.prog 66 #[.int .u32 s] w fun e w' => e = .returned (.int .u32 (nextC s)) ∧ Ext w w' := by
  have hv : nextC s = (1664525 * s % 4294967296 + 1013904223) % 4294967296 := by unfold nextC; rfl
  go_enter Tryz.func66, Tryz.ntmps66
  go_wp2
  go_ret
  refine ⟨?_, Ext.refl _⟩
  rw [hv]
  rfl
