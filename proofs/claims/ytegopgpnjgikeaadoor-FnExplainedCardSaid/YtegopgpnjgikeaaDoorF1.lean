/-
  Contracts of the functions that ask whether a field is valid, and tell its greatest value.
-/
import Derived.Test.YtegopgpnjgikeaaDoorF0
import Derived.IntWalk
set_option linter.unusedVariables false
set_option linter.unusedSimpArgs false
set_option maxRecDepth 100000
namespace Go.Proofs.YtegopgpnjgikeaaDoor
open Go.RowKit
theorem manyF1 (sz : Int) : manyF 1 sz = 4 * sz := by unfold manyF; rw [if_pos rfl]
theorem manyF2 (sz : Int) : manyF 2 sz = 5 * sz := by unfold manyF; rw [if_neg (by decide), if_pos rfl]
theorem manyF3 (sz : Int) : manyF 3 sz = sz + 1 := by unfold manyF; rw [if_neg (by decide), if_neg (by decide), if_pos rfl]
theorem manyF0 {kd : Int} (sz : Int) (h1 : kd ≠ 1) (h2 : kd ≠ 2) (h3 : kd ≠ 3) : manyF kd sz = sz := by unfold manyF; rw [if_neg h1, if_neg h2, if_neg h3]
set_option maxHeartbeats 400000 in
theorem impl_many (nm : ByteArray) (kd st sz : Int) (hs0 : -32768 ≤ sz) (hs1 : sz < 32768) (w : World) :
    Calls Tryd.prog 104 #[.agg #[.string nm, .int .i8 kd, .int .i16 st, .int .i16 sz]] w fun e w' => e = .returned (.int .i64 (manyF kd sz)) ∧ Ext w w' := by
  by_cases h1 : kd = 1
  · subst h1
    rw [manyF1]
    go_enter Tryd.func104, Tryd.ntmps104
    go_wp2
    go_ret
    exact ⟨rfl, by ((repeat (first | with_reducible exact Ext.refl _ | with_reducible exact hw | with_reducible exact hb9 | with_reducible exact hb8 | with_reducible exact hb7 | with_reducible exact hb6 | with_reducible exact hb5 | with_reducible exact hb4 | with_reducible exact hb3 | with_reducible exact hb2 | with_reducible exact hb1 | with_reducible refine Ext.alloc ?_ _ | with_reducible refine Ext.drew ?_ | ((with_reducible refine Ext.set ?_ ?_ _); focus (dsimp only; omega)) | with_reducible refine Ext.trans ?_ hb9 | with_reducible refine Ext.trans ?_ hb8 | with_reducible refine Ext.trans ?_ hb7 | with_reducible refine Ext.trans ?_ hb6 | with_reducible refine Ext.trans ?_ hb5 | with_reducible refine Ext.trans ?_ hb4 | with_reducible refine Ext.trans ?_ hb3 | with_reducible refine Ext.trans ?_ hb2 | with_reducible refine Ext.trans ?_ hb1 | with_reducible refine Ext.trans ?_ hw)))⟩
  · by_cases h2 : kd = 2
    · subst h2
      rw [manyF2]
      go_enter Tryd.func104, Tryd.ntmps104
      go_wp2
      go_ret
      exact ⟨rfl, by ((repeat (first | with_reducible exact Ext.refl _ | with_reducible exact hw | with_reducible exact hb9 | with_reducible exact hb8 | with_reducible exact hb7 | with_reducible exact hb6 | with_reducible exact hb5 | with_reducible exact hb4 | with_reducible exact hb3 | with_reducible exact hb2 | with_reducible exact hb1 | with_reducible refine Ext.alloc ?_ _ | with_reducible refine Ext.drew ?_ | ((with_reducible refine Ext.set ?_ ?_ _); focus (dsimp only; omega)) | with_reducible refine Ext.trans ?_ hb9 | with_reducible refine Ext.trans ?_ hb8 | with_reducible refine Ext.trans ?_ hb7 | with_reducible refine Ext.trans ?_ hb6 | with_reducible refine Ext.trans ?_ hb5 | with_reducible refine Ext.trans ?_ hb4 | with_reducible refine Ext.trans ?_ hb3 | with_reducible refine Ext.trans ?_ hb2 | with_reducible refine Ext.trans ?_ hb1 | with_reducible refine Ext.trans ?_ hw)))⟩
    · by_cases h3 : kd = 3
      · subst h3
        rw [manyF3]
        go_enter Tryd.func104, Tryd.ntmps104
        go_wp2
        go_ret
        exact ⟨rfl, by ((repeat (first | with_reducible exact Ext.refl _ | with_reducible exact hw | with_reducible exact hb9 | with_reducible exact hb8 | with_reducible exact hb7 | with_reducible exact hb6 | with_reducible exact hb5 | with_reducible exact hb4 | with_reducible exact hb3 | with_reducible exact hb2 | with_reducible exact hb1 | with_reducible refine Ext.alloc ?_ _ | with_reducible refine Ext.drew ?_ | ((with_reducible refine Ext.set ?_ ?_ _); focus (dsimp only; omega)) | with_reducible refine Ext.trans ?_ hb9 | with_reducible refine Ext.trans ?_ hb8 | with_reducible refine Ext.trans ?_ hb7 | with_reducible refine Ext.trans ?_ hb6 | with_reducible refine Ext.trans ?_ hb5 | with_reducible refine Ext.trans ?_ hb4 | with_reducible refine Ext.trans ?_ hb3 | with_reducible refine Ext.trans ?_ hb2 | with_reducible refine Ext.trans ?_ hb1 | with_reducible refine Ext.trans ?_ hw)))⟩
      · rw [manyF0 sz h1 h2 h3]
        go_enter Tryd.func104, Tryd.ntmps104
        go_wp2
        go_ret
        exact ⟨rfl, by ((repeat (first | with_reducible exact Ext.refl _ | with_reducible exact hw | with_reducible exact hb9 | with_reducible exact hb8 | with_reducible exact hb7 | with_reducible exact hb6 | with_reducible exact hb5 | with_reducible exact hb4 | with_reducible exact hb3 | with_reducible exact hb2 | with_reducible exact hb1 | with_reducible refine Ext.alloc ?_ _ | with_reducible refine Ext.drew ?_ | ((with_reducible refine Ext.set ?_ ?_ _); focus (dsimp only; omega)) | with_reducible refine Ext.trans ?_ hb9 | with_reducible refine Ext.trans ?_ hb8 | with_reducible refine Ext.trans ?_ hb7 | with_reducible refine Ext.trans ?_ hb6 | with_reducible refine Ext.trans ?_ hb5 | with_reducible refine Ext.trans ?_ hb4 | with_reducible refine Ext.trans ?_ hb3 | with_reducible refine Ext.trans ?_ hb2 | with_reducible refine Ext.trans ?_ hb1 | with_reducible refine Ext.trans ?_ hw)))⟩
/-- A field lies at a place. -/
def FldAt (w : World) (b o : Nat) (f : Fld) : Prop :=
  w.cell? ⟨b, o, none⟩ = some (.string f.nm) ∧ w.cell? ⟨b, o + 1, none⟩ = some (.int .i8 f.kd) ∧ w.cell? ⟨b, o + 2, none⟩ = some (.int .i16 f.st) ∧ w.cell? ⟨b, o + 3, none⟩ = some (.int .i16 f.sz)
theorem FldAt.ext {w w' : World} {b o : Nat} {f : Fld} (h : FldAt w b o f) (hb : Ext w w') : FldAt w' b o f := ⟨hb.cell h.1, hb.cell h.2.1, hb.cell h.2.2.1, hb.cell h.2.2.2⟩
set_option maxHeartbeats 400000 in
theorem spec_l01Width (b o : Nat) (f : Fld) (hs0 : -32768 ≤ f.sz) (hs1 : f.sz < 32768) (w : World) (hF : FldAt w b o f) :
    Calls Tryd.prog 62 #[.pointer (some ⟨b, o, none⟩)] w fun e w' => e = .returned (.int .i64 (manyF f.kd f.sz)) ∧ Ext w w' := by
  obtain ⟨c0, c1, c2, c3⟩ := hF
  obtain ⟨nm, kd, st, sz⟩ := f
  dsimp only at c0 c1 c2 c3 hs0 hs1 ⊢
  by_cases h1 : kd = 1
  · subst h1
    rw [manyF1]
    go_enter Tryd.func62, Tryd.ntmps62
    go_wp2
    go_ret
    exact ⟨rfl, by ((repeat (first | with_reducible exact Ext.refl _ | with_reducible exact hw | with_reducible exact hb9 | with_reducible exact hb8 | with_reducible exact hb7 | with_reducible exact hb6 | with_reducible exact hb5 | with_reducible exact hb4 | with_reducible exact hb3 | with_reducible exact hb2 | with_reducible exact hb1 | with_reducible refine Ext.alloc ?_ _ | with_reducible refine Ext.drew ?_ | ((with_reducible refine Ext.set ?_ ?_ _); focus (dsimp only; omega)) | with_reducible refine Ext.trans ?_ hb9 | with_reducible refine Ext.trans ?_ hb8 | with_reducible refine Ext.trans ?_ hb7 | with_reducible refine Ext.trans ?_ hb6 | with_reducible refine Ext.trans ?_ hb5 | with_reducible refine Ext.trans ?_ hb4 | with_reducible refine Ext.trans ?_ hb3 | with_reducible refine Ext.trans ?_ hb2 | with_reducible refine Ext.trans ?_ hb1 | with_reducible refine Ext.trans ?_ hw)))⟩
  · by_cases h2 : kd = 2
    · subst h2
      rw [manyF2]
      go_enter Tryd.func62, Tryd.ntmps62
      go_wp2
      go_ret
      exact ⟨rfl, by ((repeat (first | with_reducible exact Ext.refl _ | with_reducible exact hw | with_reducible exact hb9 | with_reducible exact hb8 | with_reducible exact hb7 | with_reducible exact hb6 | with_reducible exact hb5 | with_reducible exact hb4 | with_reducible exact hb3 | with_reducible exact hb2 | with_reducible exact hb1 | with_reducible refine Ext.alloc ?_ _ | with_reducible refine Ext.drew ?_ | ((with_reducible refine Ext.set ?_ ?_ _); focus (dsimp only; omega)) | with_reducible refine Ext.trans ?_ hb9 | with_reducible refine Ext.trans ?_ hb8 | with_reducible refine Ext.trans ?_ hb7 | with_reducible refine Ext.trans ?_ hb6 | with_reducible refine Ext.trans ?_ hb5 | with_reducible refine Ext.trans ?_ hb4 | with_reducible refine Ext.trans ?_ hb3 | with_reducible refine Ext.trans ?_ hb2 | with_reducible refine Ext.trans ?_ hb1 | with_reducible refine Ext.trans ?_ hw)))⟩
    · by_cases h3 : kd = 3
      · subst h3
        rw [manyF3]
        go_enter Tryd.func62, Tryd.ntmps62
        go_wp2
        go_ret
        exact ⟨rfl, by ((repeat (first | with_reducible exact Ext.refl _ | with_reducible exact hw | with_reducible exact hb9 | with_reducible exact hb8 | with_reducible exact hb7 | with_reducible exact hb6 | with_reducible exact hb5 | with_reducible exact hb4 | with_reducible exact hb3 | with_reducible exact hb2 | with_reducible exact hb1 | with_reducible refine Ext.alloc ?_ _ | with_reducible refine Ext.drew ?_ | ((with_reducible refine Ext.set ?_ ?_ _); focus (dsimp only; omega)) | with_reducible refine Ext.trans ?_ hb9 | with_reducible refine Ext.trans ?_ hb8 | with_reducible refine Ext.trans ?_ hb7 | with_reducible refine Ext.trans ?_ hb6 | with_reducible refine Ext.trans ?_ hb5 | with_reducible refine Ext.trans ?_ hb4 | with_reducible refine Ext.trans ?_ hb3 | with_reducible refine Ext.trans ?_ hb2 | with_reducible refine Ext.trans ?_ hb1 | with_reducible refine Ext.trans ?_ hw)))⟩
      · rw [manyF0 sz h1 h2 h3]
        go_enter Tryd.func62, Tryd.ntmps62
        go_wp2
        go_ret
        exact ⟨rfl, by ((repeat (first | with_reducible exact Ext.refl _ | with_reducible exact hw | with_reducible exact hb9 | with_reducible exact hb8 | with_reducible exact hb7 | with_reducible exact hb6 | with_reducible exact hb5 | with_reducible exact hb4 | with_reducible exact hb3 | with_reducible exact hb2 | with_reducible exact hb1 | with_reducible refine Ext.alloc ?_ _ | with_reducible refine Ext.drew ?_ | ((with_reducible refine Ext.set ?_ ?_ _); focus (dsimp only; omega)) | with_reducible refine Ext.trans ?_ hb9 | with_reducible refine Ext.trans ?_ hb8 | with_reducible refine Ext.trans ?_ hb7 | with_reducible refine Ext.trans ?_ hb6 | with_reducible refine Ext.trans ?_ hb5 | with_reducible refine Ext.trans ?_ hb4 | with_reducible refine Ext.trans ?_ hb3 | with_reducible refine Ext.trans ?_ hb2 | with_reducible refine Ext.trans ?_ hb1 | with_reducible refine Ext.trans ?_ hw)))⟩
theorem fldB_false {f : Fld} (h : ¬ (isNameB f.nm = true ∧ 0 ≤ f.kd ∧ f.kd ≤ 3 ∧ 0 ≤ f.st ∧ 1 ≤ f.sz ∧ f.sz ≤ mostSz f.kd ∧ f.st + manyF f.kd f.sz ≤ 96)) : fldB f = false := by
  cases hb : fldB f with
  | false => rfl
  | true =>
    unfold fldB at hb
    simp only [Bool.and_eq_true, decide_eq_true_eq] at hb
    exact absurd hb h
theorem fldB_true {f : Fld} (h0 : isNameB f.nm = true) (h1 : 0 ≤ f.kd) (h2 : f.kd ≤ 3) (h3 : 0 ≤ f.st) (h4 : 1 ≤ f.sz) (h5 : f.sz ≤ mostSz f.kd) (h6 : f.st + manyF f.kd f.sz ≤ 96) : fldB f = true := by
  unfold fldB
  simp only [Bool.and_eq_true, decide_eq_true_eq]
  exact ⟨h0, h1, h2, h3, h4, h5, h6⟩
theorem fldB_parts {f : Fld} (h : fldB f = true) : isNameB f.nm = true ∧ 0 ≤ f.kd ∧ f.kd ≤ 3 ∧ 0 ≤ f.st ∧ 1 ≤ f.sz ∧ f.sz ≤ mostSz f.kd ∧ f.st + manyF f.kd f.sz ≤ 96 := by
  unfold fldB at h
  simp only [Bool.and_eq_true, decide_eq_true_eq] at h
  exact h
theorem manyF_bd (kd sz : Int) (h0 : 1 ≤ sz) (h1 : sz < 32768) : 1 ≤ manyF kd sz ∧ manyF kd sz ≤ 163840 := by
  unfold manyF
  split
  · omega
  · split
    · omega
    · split <;> omega
