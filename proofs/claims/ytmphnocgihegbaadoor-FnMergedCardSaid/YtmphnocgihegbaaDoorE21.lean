/-
  Contracts of the functions that tell the way up from an entry, and what is narrower.
-/
import Derived.Test.YtmphnocgihegbaaDoorE20
import Derived.Deep.RegionWith
set_option linter.unusedVariables false
set_option linter.unusedSimpArgs false
set_option maxRecDepth 100000
namespace Go.Proofs.YtmphnocgihegbaaDoor
open Go.RowKit
theorem Rd.dropI {w : World} {b off : Nat} {ws : List Int} (h : Rd encI64 w (some ⟨b, off, none⟩) ws) : Rd encI64 w (some ⟨b, off + 1, none⟩) (ws.drop 1) := fun k hk => by
  have hk2 : k + 1 < ws.length := by rw [List.length_drop] at hk; omega
  obtain ⟨b', off', hA, hlt, hc⟩ := h (k + 1) hk2
  simp only [Option.some.injEq, Addr.mk.injEq, and_true] at hA
  obtain ⟨rfl, rfl⟩ := hA
  refine ⟨_, _, rfl, hlt, fun j u hu => ?_⟩
  rw [List.getElem_drop] at hu
  have := hc j u (by rw [show (ws[k + 1] : Int) = ws[1 + k] from by congr 1; omega]; exact hu)
  rw [show off + 1 + k * encI64.sz + j = off + (k + 1) * encI64.sz + j by rw [Nat.add_mul]; show off + 1 + k * 1 + j = off + (k * 1 + 1 * 1) + j; omega]
  exact this
def pathF (xs : List Ent) (i : Int) : List Int × Int := if atsF xs [i] = 0 then (pathL xs i, 0) else ([], atsF xs [i])
set_option maxHeartbeats 400000 in
theorem impl_PathUp (xs : List Ent) (A : Option Addr) (cap : Nat) (i : Int) (w : World) (hC : CatArg w A cap xs) (hG : Glob w) :
    Calls Tryd.prog 12 #[.slice A xs.length cap, .int .i64 i] w fun e w' => ∃ v, e = .returned (.tuple #[v, .int .i64 (pathF xs i).2]) ∧ Ow encI64 2 w' w.heap.size v (pathF xs i).1 ∧ Ext w w' := by
  by_cases hz : atsF xs [i] = 0
  · obtain ⟨hc, h0, h1⟩ := atsF_one hz
    have hv := hd (show pathF xs i = (pathL xs i, 0) by unfold pathF; rw [if_pos hz])
    go_enter Tryd.func12, Tryd.ntmps12
    go_wp2_with fail
    refine Calls.mono (impl_checkEntries xs A cap [i] _ 1 _ (hC.ext (by ((repeat (first | with_reducible exact Ext.refl _ | with_reducible exact hw | with_reducible exact hb9 | with_reducible exact hb8 | with_reducible exact hb7 | with_reducible exact hb6 | with_reducible exact hb5 | with_reducible exact hb4 | with_reducible exact hb3 | with_reducible exact hb2 | with_reducible exact hb1 | with_reducible refine Ext.alloc ?_ _ | with_reducible refine Ext.drew ?_ | ((with_reducible refine Ext.set ?_ ?_ _); focus (dsimp only; omega)) | with_reducible refine Ext.trans ?_ hb9 | with_reducible refine Ext.trans ?_ hb8 | with_reducible refine Ext.trans ?_ hb7 | with_reducible refine Ext.trans ?_ hb6 | with_reducible refine Ext.trans ?_ hb5 | with_reducible refine Ext.trans ?_ hb4 | with_reducible refine Ext.trans ?_ hb3 | with_reducible refine Ext.trans ?_ hb2 | with_reducible refine Ext.trans ?_ hb1 | with_reducible refine Ext.trans ?_ hw))))) Rd.lit1 (by simp) (hG.ext (by ((repeat (first | with_reducible exact Ext.refl _ | with_reducible exact hw | with_reducible exact hb9 | with_reducible exact hb8 | with_reducible exact hb7 | with_reducible exact hb6 | with_reducible exact hb5 | with_reducible exact hb4 | with_reducible exact hb3 | with_reducible exact hb2 | with_reducible exact hb1 | with_reducible refine Ext.alloc ?_ _ | with_reducible refine Ext.drew ?_ | ((with_reducible refine Ext.set ?_ ?_ _); focus (dsimp only; omega)) | with_reducible refine Ext.trans ?_ hb9 | with_reducible refine Ext.trans ?_ hb8 | with_reducible refine Ext.trans ?_ hb7 | with_reducible refine Ext.trans ?_ hb6 | with_reducible refine Ext.trans ?_ hb5 | with_reducible refine Ext.trans ?_ hb4 | with_reducible refine Ext.trans ?_ hb3 | with_reducible refine Ext.trans ?_ hb2 | with_reducible refine Ext.trans ?_ hb1 | with_reducible refine Ext.trans ?_ hw)))))) ?_
    rintro e w1 ⟨rfl, hb1⟩
    rw [hz]
    have hw1 : Ext w w1 := by ((repeat (first | with_reducible exact Ext.refl _ | with_reducible exact hw | with_reducible exact hb9 | with_reducible exact hb8 | with_reducible exact hb7 | with_reducible exact hb6 | with_reducible exact hb5 | with_reducible exact hb4 | with_reducible exact hb3 | with_reducible exact hb2 | with_reducible exact hb1 | with_reducible refine Ext.alloc ?_ _ | with_reducible refine Ext.drew ?_ | ((with_reducible refine Ext.set ?_ ?_ _); focus (dsimp only; omega)) | with_reducible refine Ext.trans ?_ hb9 | with_reducible refine Ext.trans ?_ hb8 | with_reducible refine Ext.trans ?_ hb7 | with_reducible refine Ext.trans ?_ hb6 | with_reducible refine Ext.trans ?_ hb5 | with_reducible refine Ext.trans ?_ hb4 | with_reducible refine Ext.trans ?_ hb3 | with_reducible refine Ext.trans ?_ hb2 | with_reducible refine Ext.trans ?_ hb1 | with_reducible refine Ext.trans ?_ hw)))
    clear hb1
    go_wp2_with fail
    refine Calls.mono (impl_pathUp xs A cap i _ (hC.rd.ext hw1) hc h0 h1) ?_
    rintro e w2 ⟨v2, rfl, hO2, hb2⟩
    have hO3 := hO2.lower (base' := w.heap.size) hw1.size
    go_wp2
    refine bodyPost_ret (v := .tuple #[v2, .int .i64 0]) (by simp [results, Tryd.results12, go_sem]) rfl ⟨_, by rw [hv.out], ?_, hw1.trans hb2⟩
    rw [hv.out]
    exact hO3
  · have hv := hd (show pathF xs i = ([], atsF xs [i]) by unfold pathF; rw [if_neg hz])
    have hz2 : (atsF xs [i] != 0) = true := by simp [hz]
    go_enter Tryd.func12, Tryd.ntmps12
    go_wp2_with fail
    refine Calls.mono (impl_checkEntries xs A cap [i] _ 1 _ (hC.ext (by ((repeat (first | with_reducible exact Ext.refl _ | with_reducible exact hw | with_reducible exact hb9 | with_reducible exact hb8 | with_reducible exact hb7 | with_reducible exact hb6 | with_reducible exact hb5 | with_reducible exact hb4 | with_reducible exact hb3 | with_reducible exact hb2 | with_reducible exact hb1 | with_reducible refine Ext.alloc ?_ _ | with_reducible refine Ext.drew ?_ | ((with_reducible refine Ext.set ?_ ?_ _); focus (dsimp only; omega)) | with_reducible refine Ext.trans ?_ hb9 | with_reducible refine Ext.trans ?_ hb8 | with_reducible refine Ext.trans ?_ hb7 | with_reducible refine Ext.trans ?_ hb6 | with_reducible refine Ext.trans ?_ hb5 | with_reducible refine Ext.trans ?_ hb4 | with_reducible refine Ext.trans ?_ hb3 | with_reducible refine Ext.trans ?_ hb2 | with_reducible refine Ext.trans ?_ hb1 | with_reducible refine Ext.trans ?_ hw))))) Rd.lit1 (by simp) (hG.ext (by ((repeat (first | with_reducible exact Ext.refl _ | with_reducible exact hw | with_reducible exact hb9 | with_reducible exact hb8 | with_reducible exact hb7 | with_reducible exact hb6 | with_reducible exact hb5 | with_reducible exact hb4 | with_reducible exact hb3 | with_reducible exact hb2 | with_reducible exact hb1 | with_reducible refine Ext.alloc ?_ _ | with_reducible refine Ext.drew ?_ | ((with_reducible refine Ext.set ?_ ?_ _); focus (dsimp only; omega)) | with_reducible refine Ext.trans ?_ hb9 | with_reducible refine Ext.trans ?_ hb8 | with_reducible refine Ext.trans ?_ hb7 | with_reducible refine Ext.trans ?_ hb6 | with_reducible refine Ext.trans ?_ hb5 | with_reducible refine Ext.trans ?_ hb4 | with_reducible refine Ext.trans ?_ hb3 | with_reducible refine Ext.trans ?_ hb2 | with_reducible refine Ext.trans ?_ hb1 | with_reducible refine Ext.trans ?_ hw)))))) ?_
    rintro e w1 ⟨rfl, hb1⟩
    go_wp2
    refine bodyPost_ret (v := .tuple #[.slice none 0 0, .int .i64 (atsF xs [i])]) (by simp [results, Tryd.results12, go_sem]) rfl ⟨_, by rw [hv.out], ?_, by ((repeat (first | with_reducible exact Ext.refl _ | with_reducible exact hw | with_reducible exact hb9 | with_reducible exact hb8 | with_reducible exact hb7 | with_reducible exact hb6 | with_reducible exact hb5 | with_reducible exact hb4 | with_reducible exact hb3 | with_reducible exact hb2 | with_reducible exact hb1 | with_reducible refine Ext.alloc ?_ _ | with_reducible refine Ext.drew ?_ | ((with_reducible refine Ext.set ?_ ?_ _); focus (dsimp only; omega)) | with_reducible refine Ext.trans ?_ hb9 | with_reducible refine Ext.trans ?_ hb8 | with_reducible refine Ext.trans ?_ hb7 | with_reducible refine Ext.trans ?_ hb6 | with_reducible refine Ext.trans ?_ hb5 | with_reducible refine Ext.trans ?_ hb4 | with_reducible refine Ext.trans ?_ hb3 | with_reducible refine Ext.trans ?_ hb2 | with_reducible refine Ext.trans ?_ hb1 | with_reducible refine Ext.trans ?_ hw)))⟩
    rw [hv.out]
    exact Ow.nil _ _ _ _
set_option maxHeartbeats 400000 in
theorem spec_PathUp (xs : List Ent) (A : Option Addr) (cap : Nat) (i : Int) (w : World) (hC : CatArg w A cap xs) :
    Calls Tryd.prog 10 #[.slice A xs.length cap, .int .i64 i] w fun e w' => ∃ v, e = .returned (.tuple #[v, .int .i64 (pathF xs i).2]) ∧ Ow encI64 2 w' w.heap.size v (pathF xs i).1 ∧ Ext w w' := by
  by_cases hz : atsF xs [i] = 0
  · obtain ⟨hc, h0, h1⟩ := atsF_one hz
    have hv := hd (show pathF xs i = (pathL xs i, 0) by unfold pathF; rw [if_pos hz])
    go_enter Tryd.func10, Tryd.ntmps10
    go_wp2_with fail
    refine Calls.mono (spec_l05At xs A cap i _ hC) ?_
    rintro e w1 ⟨rfl, hb1⟩
    rw [hz]
    go_wp2_with fail
    refine Calls.mono (spec_l05Path xs A cap i _ (hC.rd.ext hb1) hc h0 h1) ?_
    rintro e w2 ⟨v2, rfl, hO2, hb2⟩
    have hO3 := hO2.lower (base' := w.heap.size) hb1.size
    go_wp2
    refine bodyPost_ret (v := .tuple #[v2, .int .i64 0]) (by simp [results, Tryd.results10, go_sem]) rfl ⟨_, by rw [hv.out], ?_, hb1.trans hb2⟩
    rw [hv.out]
    exact hO3
  · have hv := hd (show pathF xs i = ([], atsF xs [i]) by unfold pathF; rw [if_neg hz])
    have hz2 : (atsF xs [i] != 0) = true := by simp [hz]
    go_enter Tryd.func10, Tryd.ntmps10
    go_wp2_with fail
    refine Calls.mono (spec_l05At xs A cap i _ hC) ?_
    rintro e w1 ⟨rfl, hb1⟩
    go_wp2
    refine bodyPost_ret (v := .tuple #[_, .int .i64 (atsF xs [i])]) (by simp [results, Tryd.results10, go_sem]; rfl) rfl ⟨_, by rw [hv.out], ?_, by ((repeat (first | with_reducible exact Ext.refl _ | with_reducible exact hw | with_reducible exact hb9 | with_reducible exact hb8 | with_reducible exact hb7 | with_reducible exact hb6 | with_reducible exact hb5 | with_reducible exact hb4 | with_reducible exact hb3 | with_reducible exact hb2 | with_reducible exact hb1 | with_reducible refine Ext.alloc ?_ _ | with_reducible refine Ext.drew ?_ | ((with_reducible refine Ext.set ?_ ?_ _); focus (dsimp only; omega)) | with_reducible refine Ext.trans ?_ hb9 | with_reducible refine Ext.trans ?_ hb8 | with_reducible refine Ext.trans ?_ hb7 | with_reducible refine Ext.trans ?_ hb6 | with_reducible refine Ext.trans ?_ hb5 | with_reducible refine Ext.trans ?_ hb4 | with_reducible refine Ext.trans ?_ hb3 | with_reducible refine Ext.trans ?_ hb2 | with_reducible refine Ext.trans ?_ hb1 | with_reducible refine Ext.trans ?_ hw)))⟩
    rw [hv.out]
    exact Ow.made0 rfl hb1.size
set_option maxHeartbeats 400000 in
theorem spec_l05Below (xs : List Ent) (A : Option Addr) (cap : Nat) (k : Nat) (p : Int) (w : World) (hR : Rd encEnt w A xs) (hcat : catB xs = true) (hk : k < xs.length) :
    Calls Tryd.prog 56 #[.slice A xs.length cap, .int .i64 k, .int .i64 p] w fun e w' => e = .returned (.bool (narB xs p k)) ∧ Ext w w' := by
  have hlen := cat_len hcat
  obtain ⟨b, off, hA, hlt, _⟩ := hR k hk
  subst hA
  obtain ⟨n0, n1, n2, n3⟩ := hR.ent k hk
  have hkk := getBang xs k hk
  by_cases hs : xs[k].see = -1
  · have hv := hd (show narB xs p k = (!decide ((k : Int) = p) && hasI (pathL xs k) p) by
      rw [← narB_spec hcat p k hk (by rw [hkk]; exact hs)]
      unfold narB
      rw [hkk, hs]
      rfl)
    by_cases hp : (k : Int) = p
    · have hv2 := hd (hv.out.trans (show (!decide ((k : Int) = p) && hasI (pathL xs k) p) = false by rw [decide_eq_true hp]; rfl))
      have b2 : ((k : Int) != p) = false := by simp [hp]
      clear hv
      subst hp
      go_enter Tryd.func56, Tryd.ntmps56
      go_wp2
      go_ret
      exact ⟨by rw [hv2.out]; rfl, Ext.refl _⟩
    · have hv2 := hd (hv.out.trans (show (!decide ((k : Int) = p) && hasI (pathL xs k) p) = hasI (pathL xs k) p by rw [decide_eq_false hp]; rfl))
      have b2 : ((k : Int) != p) = true := by simp [hp]
      have hpl := pathL_len xs k
      clear hv
      go_enter Tryd.func56, Tryd.ntmps56
      go_wp2_with fail
      refine Calls.mono (spec_l05Path xs _ cap k _ hR hcat (by omega) (by omega)) ?_
      rintro e w1 ⟨v1, rfl, hO1, hb1⟩
      obtain ⟨A1, c1, rfl, hle1, hR1⟩ := hO1.slice
      clear hO1
      generalize pathL xs k = is at hv2 hpl hle1 hR1
      go_wp2_with fail
      refine Calls.mono (spec_l05In is _ _ p _ hR1 (by omega)) ?_
      rintro e w2 ⟨rfl, hb2⟩
      generalize hasI is p = q at hv2
      go_wp2
      go_ret
      exact ⟨by rw [hv2.out]; rfl, hb1.trans hb2⟩
  · have hv2 := hd (show narB xs p k = false by unfold narB; rw [hkk]; simp [hs])
    go_enter Tryd.func56, Tryd.ntmps56
    go_wp2
    go_ret
    exact ⟨by rw [hv2.out]; rfl, Ext.refl _⟩
