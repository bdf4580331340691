/-
  The holes of a mask, as numbers in order. (Under way: does not build yet where NOTES says so.)
-/
import Derived.Test.YtdlpifgkponnmaaDoorC5
set_option linter.unusedVariables false
set_option linter.unusedSimpArgs false
namespace Go.Proofs.YtdlpifgkponnmaaDoor
open Go.RowKit
def holesTo (m : Mask) : Nat → List Int
  | 0 => []
  | k + 1 => if mhas m k = true then holesTo m k ++ [(k : Int)] else holesTo m k
theorem holesTo_hit (m : Mask) (k : Nat) (h : mhas m k = true) : holesTo m (k + 1) = holesTo m k ++ [(k : Int)] := by rw [holesTo, if_pos h]
theorem holesTo_miss (m : Mask) (k : Nat) (h : mhas m k = false) : holesTo m (k + 1) = holesTo m k := by rw [holesTo, if_neg (by simp [h])]
theorem holesTo_len (m : Mask) : ∀ k, (holesTo m k).length ≤ k
  | 0 => Nat.le_refl _
  | k + 1 => by
    rw [holesTo]
    have := holesTo_len m k
    split
    · rw [List.length_append, List.length_singleton]; omega
    · omega
attribute [irreducible] holesTo
theorem info_i64 : (Tryd.prog.info? 2).map (fun i => (i.zero, i.size, i.bytes)) = some (some (.int .i64 0), encI64.sz, 8) := by kernel_rfl
set_option maxHeartbeats 400000 in
theorem impl_holes (m : Mask) (w : World) :
    Calls Tryd.prog 67 #[.agg #[.int .u64 (lo m), .int .u64 (hi m)]] w fun e w' => ∃ v, e = .returned v ∧ Ow encI64 2 w' w.heap.size v (holesTo m 96) ∧ Ext w w' := by
  go_enter Tryd.func67, Tryd.ntmps67
  go_wp2
  go_loopg [6, 3] 96 (fun g i v wr => ∃ k : Nat, g = 96 - k ∧ k ≤ 96 ∧ i = .int .i64 k ∧ Ext w wr ∧ BoxAt wr w.heap.size #[.int .u64 (lo m), .int .u64 (hi m)] 58 ∧ Ow encI64 2 wr (w.heap.size + 1) v (holesTo m k))
  case atStart => exact ⟨0, by omega, by omega, rfl, by ((repeat (first | with_reducible exact Ext.refl _ | with_reducible exact hw | with_reducible exact hb9 | with_reducible exact hb8 | with_reducible exact hb7 | with_reducible exact hb6 | with_reducible exact hb5 | with_reducible exact hb4 | with_reducible exact hb3 | with_reducible exact hb2 | with_reducible exact hb1 | with_reducible refine Ext.alloc ?_ _ | with_reducible refine Ext.drew ?_ | ((with_reducible refine Ext.set ?_ ?_ _); focus (dsimp only; omega)) | with_reducible refine Ext.trans ?_ hb9 | with_reducible refine Ext.trans ?_ hb8 | with_reducible refine Ext.trans ?_ hb7 | with_reducible refine Ext.trans ?_ hb6 | with_reducible refine Ext.trans ?_ hb5 | with_reducible refine Ext.trans ?_ hb4 | with_reducible refine Ext.trans ?_ hb3 | with_reducible refine Ext.trans ?_ hb2 | with_reducible refine Ext.trans ?_ hb1 | with_reducible refine Ext.trans ?_ hw))), (BoxAt.new' rfl).alloc _, by unfold holesTo; exact Ow.made0 (by simp) (by simp)⟩
  case round =>
    obtain ⟨k, hg, hk, rfl, hw, hB, hO⟩ := hrel
    by_cases hkl : k < 96
    · have c0 : wr.cell? ⟨w.heap.size, 0, none⟩ = some (.int .u64 (lo m)) := hB.cell 0
      have c1 : wr.cell? ⟨w.heap.size, 1, none⟩ = some (.int .u64 (hi m)) := hB.cell 1
      have hl := holesTo_len m k
      cases hq : mhas m k with
      | true =>
        have hs := holesTo_hit m k hq
        go_wp2_with fail
        refine Calls.mono (impl_has m k (by omega) (by omega) _) ?_
        rintro e w2 ⟨rfl, hb2⟩
        have hB2 := hB.ext hb2
        have hO2 := hO.ext hb2
        have l2 := hB2.lt
        go_wp2_with (at_builtin; refine wpList_push (w0 := w) (base := w.heap.size + 1) (xs := holesTo m k) encI64 (by rfl) _ _ 49 (.int .i64 0) 8 (by rfl) Tryd.underlying49 info_i64 (by rfl) (k : Int) (by rfl) (by rfl) hO2 (by omega) (by omega) (hw.trans hb2) (by omega) (by omega) ?_)
        intro v3 w3 hO3 hb3 hg3 _
        go_wp2
        go_roundg (96 - (k + 1))
        case rel => exact ⟨k + 1, rfl, hkl, rfl, hb3, (hg3.block _ hB2.lt (fun e => by have := (hO2.lt w.heap.size e.symm).1; omega)).trans hB2, by rw [hs]; exact hO3⟩
        case measure => omega
      | false =>
        have hs := hd (holesTo_miss m k hq)
        go_wp2_with fail
        refine Calls.mono (impl_has m k (by omega) (by omega) _) ?_
        rintro e w2 ⟨rfl, hb2⟩
        go_wp2
        go_roundg (96 - (k + 1))
        case rel => exact ⟨k + 1, rfl, hkl, rfl, by ((repeat (first | with_reducible exact Ext.refl _ | with_reducible exact hw | with_reducible exact hb9 | with_reducible exact hb8 | with_reducible exact hb7 | with_reducible exact hb6 | with_reducible exact hb5 | with_reducible exact hb4 | with_reducible exact hb3 | with_reducible exact hb2 | with_reducible exact hb1 | with_reducible refine Ext.alloc ?_ _ | with_reducible refine Ext.drew ?_ | ((with_reducible refine Ext.set ?_ ?_ _); focus (dsimp only; omega)) | with_reducible refine Ext.trans ?_ hb9 | with_reducible refine Ext.trans ?_ hb8 | with_reducible refine Ext.trans ?_ hb7 | with_reducible refine Ext.trans ?_ hb6 | with_reducible refine Ext.trans ?_ hb5 | with_reducible refine Ext.trans ?_ hb4 | with_reducible refine Ext.trans ?_ hb3 | with_reducible refine Ext.trans ?_ hb2 | with_reducible refine Ext.trans ?_ hb1 | with_reducible refine Ext.trans ?_ hw))), hB.ext hb2, by rw [hs.out]; exact hO.ext hb2⟩
        case measure => omega
    · obtain rfl : k = 96 := by omega
      go_wp2
      go_ret
      exact ⟨_, rfl, hO.lower (by omega), hw⟩
end Go.Proofs.YtdlpifgkponnmaaDoor
