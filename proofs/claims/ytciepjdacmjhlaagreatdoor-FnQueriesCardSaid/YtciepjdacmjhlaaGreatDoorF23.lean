/-
  Contracts of ValuesOf, program's and reference's, and of the laws' marks on fields.
-/
import Derived.Test.YtciepjdacmjhlaaGreatDoorF19
import Derived.Test.YtciepjdacmjhlaaGreatDoorF20
import Derived.Test.YtciepjdacmjhlaaGreatDoorK1
import Derived.Test.YtciepjdacmjhlaaGreatDoorMA
import Derived.Test.YtciepjdacmjhlaaGreatDoorL5
set_option linter.unusedVariables false
set_option linter.unusedSimpArgs false
set_option maxRecDepth 100000
namespace Go.Proofs.YtciepjdacmjhlaaGreatDoor
open Go.RowKit
/-- A field's value in a mask, -1 if there is none. -/
def valF (m : Mask) (f : Fld) : Int := if (valueF f m).2 = 6 then -1 else (valueF f m).1
/-- Can a field be read? -/
def readsB (m : Mask) (f : Fld) : Bool := !decide ((valueF f m).2 = 8)
/-- What ValuesOf returns. -/
def valuesF (xs : List Fld) (c : Crd) : List Int × Int :=
  if (schB xs && isCardB c) = true then (if xs.all (readsB c.m) = true then (xs.map (valF c.m), 0) else ([], 8)) else ([], 1)
theorem values_bad {xs : List Fld} {c : Crd} (h : (schB xs && isCardB c) = false) : valuesF xs c = ([], 1) := by unfold valuesF; rw [h]; rfl
theorem values_err {xs : List Fld} {c : Crd} (h : (schB xs && isCardB c) = true) (k : Nat) (hk : k < xs.length) (h8 : (valueF xs[k] c.m).2 = 8) : valuesF xs c = ([], 8) := by
  unfold valuesF
  rw [if_pos h, all_miss (readsB c.m) xs k hk (by unfold readsB; rw [decide_eq_true h8]; rfl)]
  rfl
theorem values_good {xs : List Fld} {c : Crd} (h : (schB xs && isCardB c) = true) (ha : xs.all (readsB c.m) = true) : valuesF xs c = (xs.map (valF c.m), 0) := by unfold valuesF; rw [if_pos h, if_pos ha]
theorem values_len (xs : List Fld) (c : Crd) (h : xs.length ≤ 1048576) : (valuesF xs c).1.length ≤ 1048576 := by
  unfold valuesF
  split
  · split
    · simpa using h
    · simp
  · simp
theorem map_take_succ {α β : Type} (f : α → β) (xs : List α) (k : Nat) (hk : k < xs.length) : (xs.take (k + 1)).map f = (xs.take k).map f ++ [f xs[k]] := by rw [List.take_succ_eq_append_getElem hk, List.map_append]; rfl
attribute [irreducible] valuesF
set_option maxHeartbeats 1000000 in
theorem laws_markFieldS (xs : List Fld) (v : Value) (k base : Nat) (w : World) (hO : Ow encFld 36 w base v xs) (hn : xs.length ≤ 1048576) (hk : k ≤ 1048576) :
    Calls Tryz.prog 8 #[v, .int .i64 k] w fun e w' => e = .returned (.int .i64 ((k : Int) + 4 * xs.length)) ∧ w.grownBy w' v.ownBlock := by
  rcases hO.shape with ⟨rfl, rfl⟩ | ⟨g, cap, rfl, hg, hgl⟩
  · go_enter Tryz.func8, Tryz.ntmps8
    go_wp2
    refine wp_loop_rounds 1 ?_
    rw [rounds_succ]
    go_wp2
    go_ret
    exact ⟨by simp, grownBy_refl _ _⟩
  · go_enter Tryz.func8, Tryz.ntmps8
    go_wp2
    go_loopg [5, 1] xs.length (fun g' i m wr => ∃ (j q : Nat) (ys : List Fld), g' = xs.length - j ∧ j ≤ xs.length ∧ i = .int .i64 j ∧ m = .int .i64 q ∧ q = k + 4 * j ∧ ys.length = xs.length ∧ Ow encFld 36 wr base (.slice (some ⟨g, 0, none⟩) xs.length cap) ys ∧ w.grownBy wr (some g))
    case atStart => exact ⟨0, k, xs, by omega, by omega, rfl, rfl, rfl, rfl, hO, grownBy_refl _ _⟩
    case round =>
      obtain ⟨j, q, ys, hg', hj, rfl, rfl, hq, hys, hO', hgr⟩ := hrel
      have hq2 := hd hq
      have hqb : q ≤ 10000000 := by omega
      have hys2 := hd hys
      by_cases hjl : j < xs.length
      · have hjy : j < ys.length := by omega
        clear hq hys
        go_wp2_with fail
        refine Calls.mono (laws_markText q (by omega) _) ?_
        rintro e w1 ⟨rfl, hb1⟩
        have hO1 := hO'.ext hb1
        have hgr1 := grownBy_ext hgr hb1
        clear hO' hgr hb1
        obtain ⟨c0, c1, c2, c3, hbl⟩ := hO1.rd.fld j hjy
        simp only [Nat.zero_add] at c0 c1 c2 c3
        have f0 := hO1.frozen (j * 4)
        have f1 := hO1.frozen (j * 4 + 1)
        have f2 := hO1.frozen (j * 4 + 2)
        have f3 := hO1.frozen (j * 4 + 3)
        obtain ⟨a1, ha1⟩ : ∃ a, IntKind.i8.wrap ((q : Int) + 1) = a := ⟨_, rfl⟩
        obtain ⟨a2, ha2⟩ : ∃ a, IntKind.i16.wrap ((q : Int) + 1 + 1) = a := ⟨_, rfl⟩
        obtain ⟨a3, ha3⟩ : ∃ a, IntKind.i16.wrap ((q : Int) + 1 + 1 + 1) = a := ⟨_, rfl⟩
        have z0 := hO1.set1 j 0 (.string (markS q)) ⟨markS q, ys[j].kd, ys[j].st, ys[j].sz⟩ hjy (by decide) rfl
        have z1 := z0.set1 j 1 (.int .i8 a1) ⟨markS q, a1, ys[j].st, ys[j].sz⟩ (by rw [List.length_set]; exact hjy) (by decide) (by rw [List.getElem_set_self]; rfl)
        have z2 := z1.set1 j 2 (.int .i16 a2) ⟨markS q, a1, a2, ys[j].sz⟩ (by rw [List.length_set, List.length_set]; exact hjy) (by decide) (by rw [List.getElem_set_self]; rfl)
        have z3 := z2.set1 j 3 (.int .i16 a3) ⟨markS q, a1, a2, a3⟩ (by rw [List.length_set, List.length_set, List.length_set]; exact hjy) (by decide) (by rw [List.getElem_set_self]; rfl)
        rw [show j * encFld.sz + 0 = j * 4 from rfl, show j * encFld.sz + 1 = j * 4 + 1 from rfl, show j * encFld.sz + 2 = j * 4 + 2 from rfl, show j * encFld.sz + 3 = j * 4 + 3 from rfl] at z3
        have g2 := grownBy_set (grownBy_set (grownBy_set (grownBy_set hgr1 (j * 4) (.string (markS q))) (j * 4 + 1) (.int .i8 a1)) (j * 4 + 2) (.int .i16 a2)) (j * 4 + 3) (.int .i16 a3)
        clear z0 z1 z2 hO1 hgr1
        go_wp2
        go_roundg (xs.length - (j + 1))
        case rel => exact ⟨j + 1, q + 4, _, rfl, hjl, rfl, by rw [show ((q + 4 : Nat) : Int) = (q : Int) + 1 + 1 + 1 + 1 by omega], by rw [hq2.out]; omega, by simp only [List.length_set]; exact hys2.out, z3, g2⟩
        case measure => omega
      · obtain rfl : j = xs.length := by omega
        subst hq
        go_wp2
        go_ret
        exact ⟨by simp, hgr⟩
