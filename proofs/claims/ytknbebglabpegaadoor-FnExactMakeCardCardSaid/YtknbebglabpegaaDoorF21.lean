/-
  Contracts of MakeCard, program's and reference's, and the walk of the law FnExactMakeCard.
-/
import Derived.Test.YtknbebglabpegaaDoorF19
import Derived.Test.YtknbebglabpegaaDoorF20
import Derived.Test.YtknbebglabpegaaDoorK1
import Derived.Test.YtknbebglabpegaaDoorMA
set_option linter.unusedVariables false
set_option linter.unusedSimpArgs false
set_option maxRecDepth 100000
namespace Go.Proofs.YtknbebglabpegaaDoor
open Go.RowKit
theorem getI (xs : List Int) (k : Nat) (hk : k < xs.length) : xs[k]! = xs[k] := getElem!_pos xs k hk
/-- A value is none, or one of a field. -/
def okV (f : Fld) (v : Int) : Bool := decide (-1 ≤ v ∧ v ≤ mostF f)
/-- A value is put into a mask, if there is one. -/
def putV (m : Mask) (f : Fld) (v : Int) : Mask := if 0 ≤ v then mjoin m (codeF f v) else m
def cardTo (xs : List Fld) (vs : List Int) : Nat → Mask
  | 0 => 0
  | k + 1 => putV (cardTo xs vs k) xs[k]! vs[k]!
theorem cardTo_zero (xs : List Fld) (vs : List Int) : cardTo xs vs 0 = 0 := rfl
theorem cardTo_succ (xs : List Fld) (vs : List Int) (k : Nat) (hk : k < xs.length) (hv : k < vs.length) : cardTo xs vs (k + 1) = putV (cardTo xs vs k) xs[k] vs[k] := by rw [cardTo, getF xs k hk, getI vs k hv]
def okTo (xs : List Fld) (vs : List Int) (n : Nat) : Bool := (List.range n).all fun i => okV xs[i]! vs[i]!
theorem okTo_succ (xs : List Fld) (vs : List Int) (n : Nat) : okTo xs vs (n + 1) = (okTo xs vs n && okV xs[n]! vs[n]!) := by
  unfold okTo
  rw [List.range_succ, List.all_append]
  simp
theorem okTo_miss {xs : List Fld} {vs : List Int} (k n : Nat) (hk : k < n) (h : okV xs[k]! vs[k]! = false) : okTo xs vs n = false := by
  unfold okTo
  rw [List.all_eq_false]
  exact ⟨k, List.mem_range.2 hk, by show ¬ okV xs[k]! vs[k]! = true; rw [h]; decide⟩
/-- What MakeCard returns. -/
def makeCF (xs : List Fld) (nm : ByteArray) (vs : List Int) : Crd × Int :=
  if schB xs = true then (if (isNameB nm && decide (vs.length = xs.length)) = true then (if okTo xs vs xs.length = true then (⟨nm, cardTo xs vs xs.length⟩, 0) else (Crd.z, 2)) else (Crd.z, 2)) else (Crd.z, 1)
theorem makeC_sch {xs : List Fld} {nm : ByteArray} {vs : List Int} (h : schB xs = false) : makeCF xs nm vs = (Crd.z, 1) := by unfold makeCF; rw [h]; rfl
theorem makeC_name {xs : List Fld} {nm : ByteArray} {vs : List Int} (h : schB xs = true) (h2 : isNameB nm = false ∨ ¬ vs.length = xs.length) : makeCF xs nm vs = (Crd.z, 2) := by
  unfold makeCF
  rw [if_pos h, if_neg]
  rw [Bool.and_eq_true, decide_eq_true_eq]
  rintro ⟨h3, h4⟩
  rcases h2 with h2 | h2
  · rw [h2] at h3; cases h3
  · exact h2 h4
theorem makeC_bad {xs : List Fld} {nm : ByteArray} {vs : List Int} (h : schB xs = true) (hn : isNameB nm = true) (hl : vs.length = xs.length) (k : Nat) (hk : k < xs.length) (hv : k < vs.length) (hb : okV xs[k] vs[k] = false) : makeCF xs nm vs = (Crd.z, 2) := by
  unfold makeCF
  rw [if_pos h, if_pos (by rw [hn, decide_eq_true hl]; rfl), okTo_miss k _ hk (by rw [getF xs k hk, getI vs k hv]; exact hb)]
  rfl
theorem makeC_good {xs : List Fld} {nm : ByteArray} {vs : List Int} (h : schB xs = true) (hn : isNameB nm = true) (hl : vs.length = xs.length) (ho : okTo xs vs xs.length = true) : makeCF xs nm vs = (⟨nm, cardTo xs vs xs.length⟩, 0) := by
  unfold makeCF
  rw [if_pos h, if_pos (by rw [hn, decide_eq_true hl]; rfl), if_pos ho]
attribute [irreducible] makeCF
set_option maxHeartbeats 2000000 in
theorem impl_MakeCard (xs : List Fld) (A : Option Addr) (cap : Nat) (nm : ByteArray) (vs : List Int) (B : Option Addr) (cap' : Nat) (w : World) (hR : Rd encFld w A xs) (hcap : xs.length ≤ cap) (hn : xs.length ≤ 1048576) (hok : ∀ x ∈ xs, FldIn x)
    (hnm : nm.size ≤ 9223372036854775807) (hS : Rd encI64 w B vs) (hm : vs.length ≤ 1048576) :
    Calls Tryd.prog 40 #[.slice A xs.length cap, .string nm, .slice B vs.length cap'] w fun e w' => e = .returned (.tuple #[.agg #[.string (makeCF xs nm vs).1.nm, .int .u64 (lo (makeCF xs nm vs).1.m), .int .u64 (hi (makeCF xs nm vs).1.m)], .int .i64 (makeCF xs nm vs).2]) ∧ Ext w w' := by
  have hx := @ExtOf.cell
  have his := fun (W : World) (h : Ext w W) => impl_isScheme xs A cap W (hR.ext h) hcap hn hok
  cases hs : schB xs with
  | false =>
    have hv := hd (makeC_sch (nm := nm) (vs := vs) hs)
    rw [hs] at his
    go_enter Tryd.func40, Tryd.ntmps40
    go_wp2_with fail
    refine Calls.mono (his _ (by ((repeat (first | with_reducible exact Ext.refl _ | with_reducible exact hw | with_reducible exact hb9 | with_reducible exact hb8 | with_reducible exact hb7 | with_reducible exact hb6 | with_reducible exact hb5 | with_reducible exact hb4 | with_reducible exact hb3 | with_reducible exact hb2 | with_reducible exact hb1 | with_reducible refine Ext.alloc ?_ _ | with_reducible refine Ext.drew ?_ | ((with_reducible refine Ext.set ?_ ?_ _); focus (dsimp only; omega)) | with_reducible refine Ext.trans ?_ hb9 | with_reducible refine Ext.trans ?_ hb8 | with_reducible refine Ext.trans ?_ hb7 | with_reducible refine Ext.trans ?_ hb6 | with_reducible refine Ext.trans ?_ hb5 | with_reducible refine Ext.trans ?_ hb4 | with_reducible refine Ext.trans ?_ hb3 | with_reducible refine Ext.trans ?_ hb2 | with_reducible refine Ext.trans ?_ hb1 | with_reducible refine Ext.trans ?_ hw))))) ?_
    rintro e w1 ⟨rfl, hb1⟩
    obtain ⟨hc1, hf1, hz1⟩ := bcell3 hb1
    try simp at hz1
    have hz1_0 : w.heap.size < w1.heap.size := by omega
    go_wp2
    rw [hv.out]
    have c0 : w1.cell? ⟨w.heap.size, 0, none⟩ = some (.string ⟨#[]⟩) := by go_simp
    have c1 : w1.cell? ⟨w.heap.size, 1, none⟩ = some (.int .u64 0) := by go_simp
    have c2 : w1.cell? ⟨w.heap.size, 2, none⟩ = some (.int .u64 0) := by go_simp
    try clear hc1 hf1
    try clear hc2 hf2
    try clear hc3 hf3
    try clear hc4 hf4
    try clear hc5 hf5
    try clear hc6 hf6
    try clear hc7 hf7
    try clear hc8 hf8
    try clear hc9 hf9
    refine bodyPost_ret (v := .tuple #[.agg #[.string ⟨#[]⟩, .int .u64 0, .int .u64 0], .int .i64 1]) (by simp [results, Tryd.results40, go_sem, c0, c1, c2]) rfl ⟨rfl, ?_⟩
    (repeat (first | with_reducible exact Ext.refl _ | with_reducible exact hw | with_reducible exact hb9 | with_reducible exact hb8 | with_reducible exact hb7 | with_reducible exact hb6 | with_reducible exact hb5 | with_reducible exact hb4 | with_reducible exact hb3 | with_reducible exact hb2 | with_reducible exact hb1 | with_reducible refine Ext.alloc ?_ _ | with_reducible refine Ext.drew ?_ | ((with_reducible refine Ext.set ?_ ?_ _); focus (dsimp only; omega)) | with_reducible refine Ext.trans ?_ hb9 | with_reducible refine Ext.trans ?_ hb8 | with_reducible refine Ext.trans ?_ hb7 | with_reducible refine Ext.trans ?_ hb6 | with_reducible refine Ext.trans ?_ hb5 | with_reducible refine Ext.trans ?_ hb4 | with_reducible refine Ext.trans ?_ hb3 | with_reducible refine Ext.trans ?_ hb2 | with_reducible refine Ext.trans ?_ hb1 | with_reducible refine Ext.trans ?_ hw))
  | true =>
    rw [hs] at his
    have hin := fun W => impl_isName nm W hnm
    cases hN : isNameB nm with
    | false =>
      have hv := hd (makeC_name (vs := vs) hs (.inl hN))
      rw [hN] at hin
      go_enter Tryd.func40, Tryd.ntmps40
      go_wp2_with fail
      refine Calls.mono (his _ (by ((repeat (first | with_reducible exact Ext.refl _ | with_reducible exact hw | with_reducible exact hb9 | with_reducible exact hb8 | with_reducible exact hb7 | with_reducible exact hb6 | with_reducible exact hb5 | with_reducible exact hb4 | with_reducible exact hb3 | with_reducible exact hb2 | with_reducible exact hb1 | with_reducible refine Ext.alloc ?_ _ | with_reducible refine Ext.drew ?_ | ((with_reducible refine Ext.set ?_ ?_ _); focus (dsimp only; omega)) | with_reducible refine Ext.trans ?_ hb9 | with_reducible refine Ext.trans ?_ hb8 | with_reducible refine Ext.trans ?_ hb7 | with_reducible refine Ext.trans ?_ hb6 | with_reducible refine Ext.trans ?_ hb5 | with_reducible refine Ext.trans ?_ hb4 | with_reducible refine Ext.trans ?_ hb3 | with_reducible refine Ext.trans ?_ hb2 | with_reducible refine Ext.trans ?_ hb1 | with_reducible refine Ext.trans ?_ hw))))) ?_
      rintro e w1 ⟨rfl, hb1⟩
      obtain ⟨hc1, hf1, hz1⟩ := bcell3 hb1
      try simp at hz1
      have hz1_0 : w.heap.size < w1.heap.size := by omega
      go_wp2_with fail
      refine Calls.mono (hin _) ?_
      rintro e w2 ⟨rfl, hb2⟩
      obtain ⟨hc2, hf2, hz2⟩ := bcell3 hb2
      try simp at hz2
      have hz2_0 : w.heap.size < w2.heap.size := by omega
      go_wp2
      rw [hv.out]
      have c0 : w2.cell? ⟨w.heap.size, 0, none⟩ = some (.string ⟨#[]⟩) := by go_simp
      have c1 : w2.cell? ⟨w.heap.size, 1, none⟩ = some (.int .u64 0) := by go_simp
      have c2 : w2.cell? ⟨w.heap.size, 2, none⟩ = some (.int .u64 0) := by go_simp
      try clear hc1 hf1
      try clear hc2 hf2
      try clear hc3 hf3
      try clear hc4 hf4
      try clear hc5 hf5
      try clear hc6 hf6
      try clear hc7 hf7
      try clear hc8 hf8
      try clear hc9 hf9
      refine bodyPost_ret (v := .tuple #[.agg #[.string ⟨#[]⟩, .int .u64 0, .int .u64 0], .int .i64 2]) (by simp [results, Tryd.results40, go_sem, c0, c1, c2]) rfl ⟨rfl, ?_⟩
      (repeat (first | with_reducible exact Ext.refl _ | with_reducible exact hw | with_reducible exact hb9 | with_reducible exact hb8 | with_reducible exact hb7 | with_reducible exact hb6 | with_reducible exact hb5 | with_reducible exact hb4 | with_reducible exact hb3 | with_reducible exact hb2 | with_reducible exact hb1 | with_reducible refine Ext.alloc ?_ _ | with_reducible refine Ext.drew ?_ | ((with_reducible refine Ext.set ?_ ?_ _); focus (dsimp only; omega)) | with_reducible refine Ext.trans ?_ hb9 | with_reducible refine Ext.trans ?_ hb8 | with_reducible refine Ext.trans ?_ hb7 | with_reducible refine Ext.trans ?_ hb6 | with_reducible refine Ext.trans ?_ hb5 | with_reducible refine Ext.trans ?_ hb4 | with_reducible refine Ext.trans ?_ hb3 | with_reducible refine Ext.trans ?_ hb2 | with_reducible refine Ext.trans ?_ hb1 | with_reducible refine Ext.trans ?_ hw))
    | true =>
      rw [hN] at hin
      by_cases hl : vs.length = xs.length
      · have hlI : ((vs.length : Int) != (xs.length : Int)) = false := by rw [hl]; simp
        have hbad := fun k h1 h2 h3 => hd (makeC_bad hs hN hl k h1 h2 h3)
        have hgood := fun h => hd (makeC_good hs hN hl h)
        have hl2 := hd hl
        clear hl
        go_enter Tryd.func40, Tryd.ntmps40
        go_wp2_with fail
        refine Calls.mono (his _ (by ((repeat (first | with_reducible exact Ext.refl _ | with_reducible exact hw | with_reducible exact hb9 | with_reducible exact hb8 | with_reducible exact hb7 | with_reducible exact hb6 | with_reducible exact hb5 | with_reducible exact hb4 | with_reducible exact hb3 | with_reducible exact hb2 | with_reducible exact hb1 | with_reducible refine Ext.alloc ?_ _ | with_reducible refine Ext.drew ?_ | ((with_reducible refine Ext.set ?_ ?_ _); focus (dsimp only; omega)) | with_reducible refine Ext.trans ?_ hb9 | with_reducible refine Ext.trans ?_ hb8 | with_reducible refine Ext.trans ?_ hb7 | with_reducible refine Ext.trans ?_ hb6 | with_reducible refine Ext.trans ?_ hb5 | with_reducible refine Ext.trans ?_ hb4 | with_reducible refine Ext.trans ?_ hb3 | with_reducible refine Ext.trans ?_ hb2 | with_reducible refine Ext.trans ?_ hb1 | with_reducible refine Ext.trans ?_ hw))))) ?_
        rintro e w1 ⟨rfl, hb1⟩
        obtain ⟨hc1, hf1, hz1⟩ := bcell3 hb1
        try simp at hz1
        have hz1_0 : w.heap.size < w1.heap.size := by omega
        go_wp2_with fail
        refine Calls.mono (hin _) ?_
        rintro e w2 ⟨rfl, hb2⟩
        have bC : BoxAt w2 w.heap.size #[.string ⟨#[]⟩, .int .u64 0, .int .u64 0] 68 := ((BoxAt.new' rfl).ext hb1).ext hb2
        have hw2 : Ext w w2 := by ((repeat (first | with_reducible exact Ext.refl _ | with_reducible exact hw | with_reducible exact hb9 | with_reducible exact hb8 | with_reducible exact hb7 | with_reducible exact hb6 | with_reducible exact hb5 | with_reducible exact hb4 | with_reducible exact hb3 | with_reducible exact hb2 | with_reducible exact hb1 | with_reducible refine Ext.alloc ?_ _ | with_reducible refine Ext.drew ?_ | ((with_reducible refine Ext.set ?_ ?_ _); focus (dsimp only; omega)) | with_reducible refine Ext.trans ?_ hb9 | with_reducible refine Ext.trans ?_ hb8 | with_reducible refine Ext.trans ?_ hb7 | with_reducible refine Ext.trans ?_ hb6 | with_reducible refine Ext.trans ?_ hb5 | with_reducible refine Ext.trans ?_ hb4 | with_reducible refine Ext.trans ?_ hb3 | with_reducible refine Ext.trans ?_ hb2 | with_reducible refine Ext.trans ?_ hb1 | with_reducible refine Ext.trans ?_ hw)))
        have l2 := bC.lt
        clear hc1 hf1 hb1 hb2 hz1 hz1_0
        go_wp2
        go_loopg [30] xs.length (fun g i wr => ∃ k : Nat, g = xs.length - k ∧ k ≤ xs.length ∧ i = .int .i64 k ∧ Ext w wr ∧ Hd (okTo xs vs k = true) ∧ BoxAt wr w2.heap.size #[.string nm, .int .u64 (lo (cardTo xs vs k)), .int .u64 (hi (cardTo xs vs k))] 68 ∧ BoxAt wr w.heap.size #[.string ⟨#[]⟩, .int .u64 0, .int .u64 0] 68)
        case atStart => exact ⟨0, by omega, by omega, rfl, hw2.alloc _, hd rfl, by rw [cardTo_zero, lo_zero, hi_zero]; exact BoxAt.new' rfl, bC.alloc _⟩
        case round =>
          obtain ⟨k, hg, hk, rfl, hw, hQ, hB, hC⟩ := hrel
          clear bC
          have hwl := hw2.size
          by_cases hkl : k < xs.length
          · have hkv : k < vs.length := by have := hl2.out; omega
            obtain ⟨b, off, hA, hlt, _⟩ := hR k hkl
            subst hA
            obtain ⟨b', off', hA', hlt', _⟩ := hS k hkv
            subst hA'
            obtain ⟨m0, m1, m2, m3, m4⟩ := (hR.ext hw).fld k hkl
            have v0 := (hS.ext hw).i64 k hkv
            have lv := World.block_lt_of_cell? _ _ v0
            dsimp only at lv
            have hf := (sch_all hs).2 k hkl
            obtain ⟨_, k0, k3, s0, z0, z1, z2⟩ := fldB_parts hf
            have hmo := fun W => impl_most xs[k].nm xs[k].kd xs[k].st xs[k].sz k0 k3 z0 z1 W
            change ∀ W, Calls _ _ _ W fun e w' => e = .returned (.int .i64 (mostF xs[k])) ∧ Ext W w' at hmo
            have henc := fun (h0 : 0 ≤ vs[k]) (h1 : vs[k] ≤ mostF xs[k]) (W : World) => impl_encode xs[k].nm xs[k].kd xs[k].st xs[k].sz vs[k] hf h0 h1 W
            change ∀ (h0 : 0 ≤ vs[k]) (h1 : vs[k] ≤ mostF xs[k]) W, Calls _ _ _ W fun e w' => e = .returned (.agg #[.int .u64 (lo (codeF xs[k] vs[k])), .int .u64 (hi (codeF xs[k] vs[k]))]) ∧ Ext W w' at henc
            have hsu := cardTo_succ xs vs k hkl hkv
            have hsv : 0 ≤ vs[k] → Hd (cardTo xs vs (k + 1) = mjoin (cardTo xs vs k) (codeF xs[k] vs[k])) := fun h => hd (by rw [hsu]; unfold putV; rw [if_pos h])
            have hsn : ¬ 0 ≤ vs[k] → Hd (cardTo xs vs (k + 1) = cardTo xs vs k) := fun h => hd (by rw [hsu]; unfold putV; rw [if_neg h])
            have hlow : vs[k] < -1 → Hd (makeCF xs nm vs = (Crd.z, 2)) := fun h => hbad k hkl hkv (by unfold okV; rw [decide_eq_false_iff_not]; omega)
            have hhigh : mostF xs[k] < vs[k] → Hd (makeCF xs nm vs = (Crd.z, 2)) := fun h => hbad k hkl hkv (by unfold okV; rw [decide_eq_false_iff_not]; omega)
            have hin2 : -1 ≤ vs[k] → vs[k] ≤ mostF xs[k] → Hd (okTo xs vs (k + 1) = true) := fun h1 h2 => hd (by rw [okTo_succ, hQ.out, getF xs k hkl, getI vs k hkv]; unfold okV; rw [decide_eq_true ⟨h1, h2⟩]; rfl)
            have hml := mostF_le _ hf
            clear hbad hsu hgood
            generalize codeF xs[k] vs[k] = cm at henc hsv
            generalize mostF xs[k] = mo at hmo henc hhigh hin2 hml
            generalize vs[k] = v at v0 henc hsv hsn hlow hhigh hin2
            have lB := hB.lt
            have lC := hC.lt
            by_cases q1 : v < -1
            · have hv := hlow q1
              clear hsv hsn hlow hhigh hin2
              go_wp2
              refine wp_region_ext (by kernel_rfl) (by kernel_rfl) ?_
              repeat (first | go_big_quiet_step (fail) | quiet_step (fail))
              refine wpQuiet_nil ?_
              intro w3 hq3
              have hb3 := ext_of_class hq3
              clear hq3
              obtain ⟨hc3, hf3, hz3⟩ := bcell3 hb3
              try simp at hz3
              have hC3 := (hC.alloc (.cells #[.string xs[k].nm, .int .i8 xs[k].kd, .int .i16 xs[k].st, .int .i16 xs[k].sz] 31)).ext hb3
              have hw3 : Ext w w3 := by ((repeat (first | with_reducible exact Ext.refl _ | with_reducible exact hw | with_reducible exact hb9 | with_reducible exact hb8 | with_reducible exact hb7 | with_reducible exact hb6 | with_reducible exact hb5 | with_reducible exact hb4 | with_reducible exact hb3 | with_reducible exact hb2 | with_reducible exact hb1 | with_reducible refine Ext.alloc ?_ _ | with_reducible refine Ext.drew ?_ | ((with_reducible refine Ext.set ?_ ?_ _); focus (dsimp only; omega)) | with_reducible refine Ext.trans ?_ hb9 | with_reducible refine Ext.trans ?_ hb8 | with_reducible refine Ext.trans ?_ hb7 | with_reducible refine Ext.trans ?_ hb6 | with_reducible refine Ext.trans ?_ hb5 | with_reducible refine Ext.trans ?_ hb4 | with_reducible refine Ext.trans ?_ hb3 | with_reducible refine Ext.trans ?_ hb2 | with_reducible refine Ext.trans ?_ hb1 | with_reducible refine Ext.trans ?_ hw)))
              have g0 := hC3.frozen 0
              have g1 := hC3.frozen 1
              have g2 := hC3.frozen 2
              have x0 : w3.cell? ⟨w.heap.size, 0, none⟩ = some (.string ⟨#[]⟩) := hC3.cell 0
              have x1 : w3.cell? ⟨w.heap.size, 1, none⟩ = some (.int .u64 0) := hC3.cell 1
              have x2 : w3.cell? ⟨w.heap.size, 2, none⟩ = some (.int .u64 0) := hC3.cell 2
              clear hc3 hf3 hb3
              go_wp2
              rw [hv.out]
              refine bodyPost_ret (v := .tuple #[.agg #[.string ⟨#[]⟩, .int .u64 0, .int .u64 0], .int .i64 2]) (by simp [results, Tryd.results40, go_sem, x0, x1, x2]) rfl ⟨rfl, ?_⟩
              exact ((hw3.setCell (by simp) _).setCell (by simp) _).setCell (by simp) _
            · by_cases q2 : mo < v
              · have hv := hhigh q2
                clear hsv hsn hlow hhigh hin2
                go_wp2
                refine wp_region_ext (by kernel_rfl) (by kernel_rfl) ?_
                repeat (first | go_big_quiet_step ((go_at_call 63; with_reducible exact Calls.ext_all (fun W _ => hmo W))) | quiet_step ((go_at_call 63; with_reducible exact Calls.ext_all (fun W _ => hmo W))))
                refine wpQuiet_nil ?_
                intro w3 hq3
                have hb3 := ext_of_class hq3
                clear hq3
                obtain ⟨hc3, hf3, hz3⟩ := bcell3 hb3
                try simp at hz3
                have hC3 := (hC.alloc (.cells #[.string xs[k].nm, .int .i8 xs[k].kd, .int .i16 xs[k].st, .int .i16 xs[k].sz] 31)).ext hb3
                have hw3 : Ext w w3 := by ((repeat (first | with_reducible exact Ext.refl _ | with_reducible exact hw | with_reducible exact hb9 | with_reducible exact hb8 | with_reducible exact hb7 | with_reducible exact hb6 | with_reducible exact hb5 | with_reducible exact hb4 | with_reducible exact hb3 | with_reducible exact hb2 | with_reducible exact hb1 | with_reducible refine Ext.alloc ?_ _ | with_reducible refine Ext.drew ?_ | ((with_reducible refine Ext.set ?_ ?_ _); focus (dsimp only; omega)) | with_reducible refine Ext.trans ?_ hb9 | with_reducible refine Ext.trans ?_ hb8 | with_reducible refine Ext.trans ?_ hb7 | with_reducible refine Ext.trans ?_ hb6 | with_reducible refine Ext.trans ?_ hb5 | with_reducible refine Ext.trans ?_ hb4 | with_reducible refine Ext.trans ?_ hb3 | with_reducible refine Ext.trans ?_ hb2 | with_reducible refine Ext.trans ?_ hb1 | with_reducible refine Ext.trans ?_ hw)))
                have g0 := hC3.frozen 0
                have g1 := hC3.frozen 1
                have g2 := hC3.frozen 2
                have x0 : w3.cell? ⟨w.heap.size, 0, none⟩ = some (.string ⟨#[]⟩) := hC3.cell 0
                have x1 : w3.cell? ⟨w.heap.size, 1, none⟩ = some (.int .u64 0) := hC3.cell 1
                have x2 : w3.cell? ⟨w.heap.size, 2, none⟩ = some (.int .u64 0) := hC3.cell 2
                clear hc3 hf3 hb3
                go_wp2
                rw [hv.out]
                refine bodyPost_ret (v := .tuple #[.agg #[.string ⟨#[]⟩, .int .u64 0, .int .u64 0], .int .i64 2]) (by simp [results, Tryd.results40, go_sem, x0, x1, x2]) rfl ⟨rfl, ?_⟩
                exact ((hw3.setCell (by simp) _).setCell (by simp) _).setCell (by simp) _
              · have hQ2 := hin2 (by omega) (by omega)
                clear hlow hhigh hin2
                by_cases q3 : 0 ≤ v
                · have hs := hsv q3
                  have henc := henc q3 (by omega)
                  clear hsv hsn
                  go_wp2
                  refine wp_region_ext (by kernel_rfl) (by kernel_rfl) ?_
                  repeat (first | go_big_quiet_step ((go_at_call 63; with_reducible exact Calls.ext_all (fun W _ => hmo W))) | quiet_step ((go_at_call 63; with_reducible exact Calls.ext_all (fun W _ => hmo W))))
                  refine wpQuiet_nil ?_
                  intro w3 hq3
                  have hb3 := ext_of_class hq3
                  clear hq3
                  obtain ⟨hc3, hf3, hz3⟩ := bcell3 hb3
                  try simp at hz3
                  have y0 : w3.cell? ⟨wr.heap.size, 0, none⟩ = some (.string xs[k].nm) := hb3.cell (by go_simp)
                  have y1 : w3.cell? ⟨wr.heap.size, 1, none⟩ = some (.int .i8 xs[k].kd) := hb3.cell (by go_simp)
                  have y2 : w3.cell? ⟨wr.heap.size, 2, none⟩ = some (.int .i16 xs[k].st) := hb3.cell (by go_simp)
                  have y3 : w3.cell? ⟨wr.heap.size, 3, none⟩ = some (.int .i16 xs[k].sz) := hb3.cell (by go_simp)
                  have eW : Ext wr w3 := ((Ext.refl wr).alloc _).trans hb3
                  have u0 := eW.cell v0
                  have hB3 := hB.ext eW
                  have hC3 := hC.ext eW
                  have d1 := hB3.cell 1
                  have d2 := hB3.cell 2
                  have ly := World.block_lt_of_cell? _ _ y0
                  have lu := World.block_lt_of_cell? _ _ u0
                  have lB3 := hB3.lt
                  dsimp only at ly lu
                  have hw3 := hw.trans eW
                  clear hc3 hf3 hb3 m0 m1 m2 m3 m4 v0 lv hB hC
                  go_wp2
                  refine wp_region_ext_tail 9 9 (by kernel_rfl) (by kernel_rfl) (by intro d _ _ _ _ h; cases d <;> exact h) ?_
                  simp only [List.take_succ_cons, List.take_zero, List.drop_succ_cons, List.drop_zero]
                  repeat (first | go_big_quiet_step ((first | (go_at_call 65; with_reducible exact Calls.ext_all (fun W _ => henc W)) | (go_at_call 89; with_reducible exact Calls.ext_of (impl_JoinMasks _ _ _)))) | quiet_step ((first | (go_at_call 65; with_reducible exact Calls.ext_all (fun W _ => henc W)) | (go_at_call 89; with_reducible exact Calls.ext_of (impl_JoinMasks _ _ _)))))
                  refine wpQuiet_nil ?_
                  intro w4 hq4
                  have hb4 := ext_of_class hq4
                  clear hq4
                  obtain ⟨hc4, hf4, hz4⟩ := bcell3 hb4
                  try simp at hz4
                  have hB4 := hB3.ext hb4
                  have f0 := hB4.frozen 0
                  have f1 := hB4.frozen 1
                  have f2 := hB4.frozen 2
                  have e1 := hB4.cell 1
                  have e2 := hB4.cell 2
                  have lB4 := hB4.lt
                  clear hc4 hf4 hz4
                  go_wp2
                  go_roundg (xs.length - (k + 1))
                  case rel => exact ⟨k + 1, rfl, hkl, by simp, Ext.set (by dsimp only; omega) (Ext.set (by dsimp only; omega) (hw3.trans hb4) _) _, hQ2, by rw [hs.out]; exact (hB4.set 1 _).set 2 _, ((hC3.ext hb4).setOther (by first | omega | (simp; done) | (simp; omega) | (dsimp only; omega)) _).setOther (by first | omega | (simp; done) | (simp; omega) | (dsimp only; omega)) _⟩
                  case measure => omega
                · have hs := hsn q3
                  clear hsv hsn
                  go_wp2
                  refine wp_region_ext (by kernel_rfl) (by kernel_rfl) ?_
                  repeat (first | go_big_quiet_step ((go_at_call 63; with_reducible exact Calls.ext_all (fun W _ => hmo W))) | quiet_step ((go_at_call 63; with_reducible exact Calls.ext_all (fun W _ => hmo W))))
                  refine wpQuiet_nil ?_
                  intro w3 hq3
                  have hb3 := ext_of_class hq3
                  clear hq3
                  obtain ⟨hc3, hf3, hz3⟩ := bcell3 hb3
                  try simp at hz3
                  have eW : Ext wr w3 := ((Ext.refl wr).alloc _).trans hb3
                  have u0 := eW.cell v0
                  have lu := World.block_lt_of_cell? _ _ u0
                  dsimp only at lu
                  go_wp2
                  go_roundg (xs.length - (k + 1))
                  case rel => exact ⟨k + 1, rfl, hkl, by simp, hw.trans eW, hQ2, by rw [hs.out]; exact hB.ext eW, hC.ext eW⟩
                  case measure => omega
          · obtain rfl : k = xs.length := by omega
            have hv := hgood hQ.out
            have c0 := hB.cell 0
            have c1 := hB.cell 1
            have c2 := hB.cell 2
            have l3 := hB.lt
            have l4 := hC.lt
            have g0 := hC.frozen 0
            have g1 := hC.frozen 1
            have g2 := hC.frozen 2
            have x0 : wr.cell? ⟨w.heap.size, 0, none⟩ = some (.string ⟨#[]⟩) := hC.cell 0
            have x1 : wr.cell? ⟨w.heap.size, 1, none⟩ = some (.int .u64 0) := hC.cell 1
            have x2 : wr.cell? ⟨w.heap.size, 2, none⟩ = some (.int .u64 0) := hC.cell 2
            go_wp2
            rw [hv.out]
            refine bodyPost_ret (v := .tuple #[.agg #[.string nm, .int .u64 (lo (cardTo xs vs xs.length)), .int .u64 (hi (cardTo xs vs xs.length))], .int .i64 0]) (by simp [results, Tryd.results40, go_sem, x0, x1, x2]) rfl ⟨rfl, ?_⟩
            (repeat (first | with_reducible exact Ext.refl _ | with_reducible exact hw | with_reducible exact hb9 | with_reducible exact hb8 | with_reducible exact hb7 | with_reducible exact hb6 | with_reducible exact hb5 | with_reducible exact hb4 | with_reducible exact hb3 | with_reducible exact hb2 | with_reducible exact hb1 | with_reducible refine Ext.alloc ?_ _ | with_reducible refine Ext.drew ?_ | ((with_reducible refine Ext.set ?_ ?_ _); focus (dsimp only; omega)) | with_reducible refine Ext.trans ?_ hb9 | with_reducible refine Ext.trans ?_ hb8 | with_reducible refine Ext.trans ?_ hb7 | with_reducible refine Ext.trans ?_ hb6 | with_reducible refine Ext.trans ?_ hb5 | with_reducible refine Ext.trans ?_ hb4 | with_reducible refine Ext.trans ?_ hb3 | with_reducible refine Ext.trans ?_ hb2 | with_reducible refine Ext.trans ?_ hb1 | with_reducible refine Ext.trans ?_ hw))
      · have hv := hd (makeC_name (nm := nm) hs (.inr hl))
        have hlI : ((vs.length : Int) != (xs.length : Int)) = true := by simp; omega
        clear hl
        go_enter Tryd.func40, Tryd.ntmps40
        go_wp2_with fail
        refine Calls.mono (his _ (by ((repeat (first | with_reducible exact Ext.refl _ | with_reducible exact hw | with_reducible exact hb9 | with_reducible exact hb8 | with_reducible exact hb7 | with_reducible exact hb6 | with_reducible exact hb5 | with_reducible exact hb4 | with_reducible exact hb3 | with_reducible exact hb2 | with_reducible exact hb1 | with_reducible refine Ext.alloc ?_ _ | with_reducible refine Ext.drew ?_ | ((with_reducible refine Ext.set ?_ ?_ _); focus (dsimp only; omega)) | with_reducible refine Ext.trans ?_ hb9 | with_reducible refine Ext.trans ?_ hb8 | with_reducible refine Ext.trans ?_ hb7 | with_reducible refine Ext.trans ?_ hb6 | with_reducible refine Ext.trans ?_ hb5 | with_reducible refine Ext.trans ?_ hb4 | with_reducible refine Ext.trans ?_ hb3 | with_reducible refine Ext.trans ?_ hb2 | with_reducible refine Ext.trans ?_ hb1 | with_reducible refine Ext.trans ?_ hw))))) ?_
        rintro e w1 ⟨rfl, hb1⟩
        obtain ⟨hc1, hf1, hz1⟩ := bcell3 hb1
        try simp at hz1
        have hz1_0 : w.heap.size < w1.heap.size := by omega
        go_wp2_with fail
        refine Calls.mono (hin _) ?_
        rintro e w2 ⟨rfl, hb2⟩
        obtain ⟨hc2, hf2, hz2⟩ := bcell3 hb2
        try simp at hz2
        have hz2_0 : w.heap.size < w2.heap.size := by omega
        go_wp2
        rw [hv.out]
        have c0 : w2.cell? ⟨w.heap.size, 0, none⟩ = some (.string ⟨#[]⟩) := by go_simp
        have c1 : w2.cell? ⟨w.heap.size, 1, none⟩ = some (.int .u64 0) := by go_simp
        have c2 : w2.cell? ⟨w.heap.size, 2, none⟩ = some (.int .u64 0) := by go_simp
        try clear hc1 hf1
        try clear hc2 hf2
        try clear hc3 hf3
        try clear hc4 hf4
        try clear hc5 hf5
        try clear hc6 hf6
        try clear hc7 hf7
        try clear hc8 hf8
        try clear hc9 hf9
        refine bodyPost_ret (v := .tuple #[.agg #[.string ⟨#[]⟩, .int .u64 0, .int .u64 0], .int .i64 2]) (by simp [results, Tryd.results40, go_sem, c0, c1, c2]) rfl ⟨rfl, ?_⟩
        (repeat (first | with_reducible exact Ext.refl _ | with_reducible exact hw | with_reducible exact hb9 | with_reducible exact hb8 | with_reducible exact hb7 | with_reducible exact hb6 | with_reducible exact hb5 | with_reducible exact hb4 | with_reducible exact hb3 | with_reducible exact hb2 | with_reducible exact hb1 | with_reducible refine Ext.alloc ?_ _ | with_reducible refine Ext.drew ?_ | ((with_reducible refine Ext.set ?_ ?_ _); focus (dsimp only; omega)) | with_reducible refine Ext.trans ?_ hb9 | with_reducible refine Ext.trans ?_ hb8 | with_reducible refine Ext.trans ?_ hb7 | with_reducible refine Ext.trans ?_ hb6 | with_reducible refine Ext.trans ?_ hb5 | with_reducible refine Ext.trans ?_ hb4 | with_reducible refine Ext.trans ?_ hb3 | with_reducible refine Ext.trans ?_ hb2 | with_reducible refine Ext.trans ?_ hb1 | with_reducible refine Ext.trans ?_ hw))
end Go.Proofs.YtknbebglabpegaaDoor
