/-
  Contracts of the program's functions on codes of fields: the holes of a field, the holes of a digit, the mask of a value.
-/
import Derived.Test.YtegopgpnjgikeaaGreatDoorF4
import Derived.Test.YtegopgpnjgikeaaGreatDoorF5
import Derived.Test.YtegopgpnjgikeaaGreatDoorC6
set_option linter.unusedVariables false
set_option linter.unusedSimpArgs false
set_option maxRecDepth 100000
namespace Go.Proofs.YtegopgpnjgikeaaGreatDoor
open Go.RowKit
theorem i64_and1 (n : Int) : bits .and .i64 n 1 = n % 2 := by
  have h1 : (BitVec.ofInt 64 1).toNat = 2 ^ 1 - 1 := by decide
  have key : (BitVec.ofInt 64 n &&& BitVec.ofInt 64 1).toNat = (n % ((2 ^ 64 : Nat) : Int)).toNat % 2 ^ 1 := by
    rw [BitVec.toNat_and, BitVec.toNat_ofInt, h1, Nat.and_two_pow_sub_one_eq_mod]
  show IntKind.i64.wrap ((BitVec.ofInt 64 n &&& BitVec.ofInt 64 1).toNat : Nat) = n % 2
  rw [key, IntKind.wrap_i64]
  omega
set_option maxHeartbeats 1000000 in
theorem impl_rangeMask (st many : Int) (s0 : 0 ≤ st) (m0 : 0 ≤ many) (hb : st + many ≤ 96) (w : World) :
    Calls Tryz.prog 60 #[.int .i64 st, .int .i64 many] w fun e w' => e = .returned (.agg #[.int .u64 (lo (rangeM st many)), .int .u64 (hi (rangeM st many))]) ∧ Ext w w' := by
  unfold rangeM
  go_enter Tryz.func60, Tryz.ntmps60
  go_wp2
  go_loopg [6] many.toNat (fun g i wr => ∃ k : Nat, g = many.toNat - k ∧ k ≤ many.toNat ∧ i = .int .i64 (st + k) ∧ Ext w wr ∧ BoxAt wr (w.heap.size + 1) #[.int .u64 (lo (orTo (fun k => mbit (st + k)) k)), .int .u64 (hi (orTo (fun k => mbit (st + k)) k))] 47 ∧ BoxAt wr w.heap.size #[.int .u64 0, .int .u64 0] 47)
  case atStart => exact ⟨0, by omega, by omega, by simp, by ((repeat (first | with_reducible exact Ext.refl _ | with_reducible exact hw | with_reducible exact hb9 | with_reducible exact hb8 | with_reducible exact hb7 | with_reducible exact hb6 | with_reducible exact hb5 | with_reducible exact hb4 | with_reducible exact hb3 | with_reducible exact hb2 | with_reducible exact hb1 | with_reducible refine Ext.alloc ?_ _ | with_reducible refine Ext.drew ?_ | ((with_reducible refine Ext.set ?_ ?_ _); focus (dsimp only; omega)) | with_reducible refine Ext.trans ?_ hb9 | with_reducible refine Ext.trans ?_ hb8 | with_reducible refine Ext.trans ?_ hb7 | with_reducible refine Ext.trans ?_ hb6 | with_reducible refine Ext.trans ?_ hb5 | with_reducible refine Ext.trans ?_ hb4 | with_reducible refine Ext.trans ?_ hb3 | with_reducible refine Ext.trans ?_ hb2 | with_reducible refine Ext.trans ?_ hb1 | with_reducible refine Ext.trans ?_ hw))), by rw [show orTo (fun k => mbit (st + k)) 0 = 0 from rfl, lo_zero, hi_zero]; exact BoxAt.new' (by simp), (BoxAt.new' rfl).alloc _⟩
  case round =>
    obtain ⟨k, hg, hk, rfl, hw, hB, hC⟩ := hrel
    have c0 := hB.cell 0
    have c1 := hB.cell 1
    have l2 := hB.lt
    have wr1 : IntKind.i64.wrap (st + many) = st + many := IntWalk.i64_in _ (by omega)
    by_cases hkl : k < many.toNat
    · have hks : (k : Int) < many := by omega
      have wr1 : IntKind.i64.wrap (st + many) = st + many := IntWalk.i64_in _ (by omega)
      go_wp2_with fail
      refine Calls.mono (impl_with _ [st + (k : Int)] _ 1 _ (Rd.lit encI64 _ [st + (k : Int)] _ _ (by simp) rfl) (by simp) (by simp; omega)) ?_
      rintro e w3 ⟨rfl, hb3⟩
      have hB3 := (hB.alloc _).ext hb3
      have f0 := hB3.frozen 0
      have f1 := hB3.frozen 1
      have d0 := hB3.cell 0
      have d1 := hB3.cell 1
      go_wp2
      go_roundg (many.toNat - (k + 1))
      case rel => exact ⟨k + 1, rfl, hkl, by simp; omega, by ((repeat (first | with_reducible exact Ext.refl _ | with_reducible exact hw | with_reducible exact hb9 | with_reducible exact hb8 | with_reducible exact hb7 | with_reducible exact hb6 | with_reducible exact hb5 | with_reducible exact hb4 | with_reducible exact hb3 | with_reducible exact hb2 | with_reducible exact hb1 | with_reducible refine Ext.alloc ?_ _ | with_reducible refine Ext.drew ?_ | ((with_reducible refine Ext.set ?_ ?_ _); focus (dsimp only; omega)) | with_reducible refine Ext.trans ?_ hb9 | with_reducible refine Ext.trans ?_ hb8 | with_reducible refine Ext.trans ?_ hb7 | with_reducible refine Ext.trans ?_ hb6 | with_reducible refine Ext.trans ?_ hb5 | with_reducible refine Ext.trans ?_ hb4 | with_reducible refine Ext.trans ?_ hb3 | with_reducible refine Ext.trans ?_ hb2 | with_reducible refine Ext.trans ?_ hb1 | with_reducible refine Ext.trans ?_ hw))), by rw [orTo_succ]; exact (hB3.set 0 _).set 1 _, ((((hC.alloc _).ext hb3).setOther (by simp) _).setOther (by simp) _)⟩
      case measure => omega
    · obtain rfl : k = many.toNat := by omega
      have hks : ((many.toNat : Nat) : Int) = many := by omega
      have z0 := hC.frozen 0
      have z1 := hC.frozen 1
      have x0 : wr.cell? ⟨w.heap.size, 0, none⟩ = some (.int .u64 0) := hC.cell 0
      have x1 : wr.cell? ⟨w.heap.size, 1, none⟩ = some (.int .u64 0) := hC.cell 1
      go_wp2
      refine bodyPost_ret (v := .agg #[.int .u64 (lo (orTo (fun k => mbit (st + k)) many.toNat)), .int .u64 (hi (orTo (fun k => mbit (st + k)) many.toNat))]) (by simp [results, Tryz.results60, go_sem, x0, x1]) rfl ⟨rfl, ?_⟩
      (repeat (first | with_reducible exact Ext.refl _ | with_reducible exact hw | with_reducible exact hb9 | with_reducible exact hb8 | with_reducible exact hb7 | with_reducible exact hb6 | with_reducible exact hb5 | with_reducible exact hb4 | with_reducible exact hb3 | with_reducible exact hb2 | with_reducible exact hb1 | with_reducible refine Ext.alloc ?_ _ | with_reducible refine Ext.drew ?_ | ((with_reducible refine Ext.set ?_ ?_ _); focus (dsimp only; omega)) | with_reducible refine Ext.trans ?_ hb9 | with_reducible refine Ext.trans ?_ hb8 | with_reducible refine Ext.trans ?_ hb7 | with_reducible refine Ext.trans ?_ hb6 | with_reducible refine Ext.trans ?_ hb5 | with_reducible refine Ext.trans ?_ hb4 | with_reducible refine Ext.trans ?_ hb3 | with_reducible refine Ext.trans ?_ hb2 | with_reducible refine Ext.trans ?_ hb1 | with_reducible refine Ext.trans ?_ hw))
theorem mostF_le (f : Fld) (hf : fldB f = true) : 0 ≤ mostF f ∧ mostF f ≤ 9999 := by
  obtain ⟨_, k0, k3, s0, z0, z1, z2⟩ := fldB_parts hf
  obtain ⟨nm, kd, st, sz⟩ := f
  dsimp only at k0 k3 s0 z0 z1 z2
  unfold mostF
  dsimp only
  split
  · rename_i h; subst h; have : mostSz 0 = 24 := rfl; omega
  · split
    · rename_i h1 h
      subst h
      have : mostSz 3 = 12 := rfl
      rcases (show sz = 1 ∨ sz = 2 ∨ sz = 3 ∨ sz = 4 ∨ sz = 5 ∨ sz = 6 ∨ sz = 7 ∨ sz = 8 ∨ sz = 9 ∨ sz = 10 ∨ sz = 11 ∨ sz = 12 by omega) with rfl | rfl | rfl | rfl | rfl | rfl | rfl | rfl | rfl | rfl | rfl | rfl <;> decide
    · rename_i h0 h3
      have : sz ≤ 4 := by unfold mostSz at z1; rwa [if_neg h0, if_neg h3] at z1
      rcases (show sz = 1 ∨ sz = 2 ∨ sz = 3 ∨ sz = 4 by omega) with rfl | rfl | rfl | rfl <;> decide
theorem impl_with0 (hs : List Int) (A : Option Addr) (cap : Nat) (w : World) (hR : Rd encI64 w A hs) (hn : hs.length ≤ 1048576) (hh : ∀ h ∈ hs, 0 ≤ h ∧ h < 128) :
    Calls Tryz.prog 67 #[.agg #[.int .u64 0, .int .u64 0], .slice A hs.length cap] w fun e w' => e = .returned (.agg #[.int .u64 (lo (mwith 0 hs)), .int .u64 (hi (mwith 0 hs))]) ∧ Ext w w' := impl_with 0 hs A cap w hR hn hh
end Go.Proofs.YtegopgpnjgikeaaGreatDoor
