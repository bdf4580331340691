/-
  Contracts of the functions that tell the first common entry of two ways up.
-/
import Derived.Test.YtoibmelbjblfhaaDoorE9
set_option linter.unusedVariables false
set_option linter.unusedSimpArgs false
set_option maxRecDepth 100000
namespace Go.Proofs.YtoibmelbjblfhaaDoor
open Go.RowKit
theorem commF_hit {xs : List Ent} {i k : Int} (hz : atsF xs [i, k] = 0) {x : Int} (h : (pathL xs i).find? (hasI (pathL xs k)) = some x) : commF xs i k = (x, 0) := by
  unfold commF
  rw [if_pos hz, h]
theorem commF_none {xs : List Ent} {i k : Int} (hz : atsF xs [i, k] = 0) (h : (pathL xs i).find? (hasI (pathL xs k)) = none) : commF xs i k = (0, 6) := by
  unfold commF
  rw [if_pos hz, h]
set_option maxHeartbeats 400000 in
theorem impl_CommonBroader (xs : List Ent) (A : Option Addr) (cap : Nat) (i k : Int) (w : World) (hC : CatArg w A cap xs) (hG : Glob w) :
    Calls Tryd.prog 43 #[.slice A xs.length cap, .int .i64 i, .int .i64 k] w fun e w' => e = .returned (.tuple #[.int .i64 (commF xs i k).1, .int .i64 (commF xs i k).2]) ∧ Ext w w' := by
  have hlen := hC.len
  by_cases hz : atsF xs [i, k] = 0
  · obtain ⟨hc, ⟨h0, h1⟩, ⟨h2, h3⟩⟩ := atsF_two hz
    have hhit := fun x => @commF_hit xs i k hz x
    have hnone := @commF_none xs i k hz
    have hpl := pathL_len xs i
    have hpl2 := pathL_len xs k
    go_enter Tryd.func43, Tryd.ntmps43
    go_wp2_with fail
    refine Calls.mono (impl_checkEntries xs A cap [i, k] _ 2 _ (hC.ext (by ((repeat (first | with_reducible exact Ext.refl _ | with_reducible exact hw | with_reducible exact hb9 | with_reducible exact hb8 | with_reducible exact hb7 | with_reducible exact hb6 | with_reducible exact hb5 | with_reducible exact hb4 | with_reducible exact hb3 | with_reducible exact hb2 | with_reducible exact hb1 | with_reducible refine Ext.alloc ?_ _ | with_reducible refine Ext.drew ?_ | ((with_reducible refine Ext.set ?_ ?_ _); focus (dsimp only; omega)) | with_reducible refine Ext.trans ?_ hb9 | with_reducible refine Ext.trans ?_ hb8 | with_reducible refine Ext.trans ?_ hb7 | with_reducible refine Ext.trans ?_ hb6 | with_reducible refine Ext.trans ?_ hb5 | with_reducible refine Ext.trans ?_ hb4 | with_reducible refine Ext.trans ?_ hb3 | with_reducible refine Ext.trans ?_ hb2 | with_reducible refine Ext.trans ?_ hb1 | with_reducible refine Ext.trans ?_ hw))))) Rd.lit2 (by simp) (hG.ext (by ((repeat (first | with_reducible exact Ext.refl _ | with_reducible exact hw | with_reducible exact hb9 | with_reducible exact hb8 | with_reducible exact hb7 | with_reducible exact hb6 | with_reducible exact hb5 | with_reducible exact hb4 | with_reducible exact hb3 | with_reducible exact hb2 | with_reducible exact hb1 | with_reducible refine Ext.alloc ?_ _ | with_reducible refine Ext.drew ?_ | ((with_reducible refine Ext.set ?_ ?_ _); focus (dsimp only; omega)) | with_reducible refine Ext.trans ?_ hb9 | with_reducible refine Ext.trans ?_ hb8 | with_reducible refine Ext.trans ?_ hb7 | with_reducible refine Ext.trans ?_ hb6 | with_reducible refine Ext.trans ?_ hb5 | with_reducible refine Ext.trans ?_ hb4 | with_reducible refine Ext.trans ?_ hb3 | with_reducible refine Ext.trans ?_ hb2 | with_reducible refine Ext.trans ?_ hb1 | with_reducible refine Ext.trans ?_ hw)))))) ?_
    rintro e w1 ⟨rfl, hb1⟩
    rw [hz]
    have hw1 : Ext w w1 := by ((repeat (first | with_reducible exact Ext.refl _ | with_reducible exact hw | with_reducible exact hb9 | with_reducible exact hb8 | with_reducible exact hb7 | with_reducible exact hb6 | with_reducible exact hb5 | with_reducible exact hb4 | with_reducible exact hb3 | with_reducible exact hb2 | with_reducible exact hb1 | with_reducible refine Ext.alloc ?_ _ | with_reducible refine Ext.drew ?_ | ((with_reducible refine Ext.set ?_ ?_ _); focus (dsimp only; omega)) | with_reducible refine Ext.trans ?_ hb9 | with_reducible refine Ext.trans ?_ hb8 | with_reducible refine Ext.trans ?_ hb7 | with_reducible refine Ext.trans ?_ hb6 | with_reducible refine Ext.trans ?_ hb5 | with_reducible refine Ext.trans ?_ hb4 | with_reducible refine Ext.trans ?_ hb3 | with_reducible refine Ext.trans ?_ hb2 | with_reducible refine Ext.trans ?_ hb1 | with_reducible refine Ext.trans ?_ hw)))
    clear hb1
    go_wp2_with fail
    refine Calls.mono (impl_pathUp xs A cap k _ (hC.rd.ext hw1) hc h2 h3) ?_
    rintro e w2 ⟨v2, rfl, hO2, hb2⟩
    obtain ⟨A2, cap2, rfl, hle2, hR2⟩ := hO2.slice
    obtain ⟨hc2, hf2, hz2⟩ := bcell3 hb2
    try simp at hz2
    have hw2 : Ext w w2 := hw1.trans hb2
    clear hb2 hO2 hc2 hf2 hw1
    go_wp2_with fail
    refine Calls.mono (impl_pathUp xs A cap i _ (hC.rd.ext hw2) hc h0 h1) ?_
    rintro e w3 ⟨v3, rfl, hO3, hb3⟩
    obtain ⟨A3, cap3, rfl, hle3, hR3⟩ := hO3.slice
    obtain ⟨hc3, hf3, hz3⟩ := bcell3 hb3
    try simp at hz3
    have hw3 : Ext w w3 := hw2.trans hb3
    have hR2' := hR2.ext hb3
    clear hb3 hO3 hc3 hf3 hw2 hR2
    generalize pathL xs i = p at hhit hnone hpl hR3 hle3
    generalize pathL xs k = r at hhit hnone hpl2 hR2' hle2
    go_wp2
    go_loopg [27] p.length (fun g i wr => ∃ j : Nat, g = p.length - j ∧ j ≤ p.length ∧ i = .int .i64 j ∧ Ext w3 wr ∧ (p.take j).find? (hasI r) = none)
    case atStart => exact ⟨0, by omega, by omega, rfl, Ext.refl _, by rw [List.take_zero]; rfl⟩
    case round =>
      obtain ⟨j, hg, hj, rfl, hw, hQ⟩ := hrel
      by_cases hjl : j < p.length
      · obtain ⟨b, off, hA, hlt, _⟩ := hR3 j hjl
        subst hA
        have m0 := (hR3.ext hw).i64 j hjl
        cases q : hasI r p[j] with
        | true =>
          have hv := hd (hhit _ (find_hit (hasI r) p j hjl q hQ))
          clear hQ hhit hnone
          go_wp2_with fail
          refine Calls.mono (slices_Contains_i64 r _ _ _ p[j] _ rfl (hR2'.ext hw) (by omega)) ?_
          rintro e w4 ⟨rfl, hb4⟩
          rw [q]
          go_wp2
          refine bodyPost_ret (v := .tuple #[.int .i64 p[j], .int .i64 0]) (by simp [results, Tryd.results43, go_sem]) rfl ⟨by rw [hv.out], ?_⟩
          (repeat (first | with_reducible exact Ext.refl _ | with_reducible exact hw | with_reducible exact hb9 | with_reducible exact hb8 | with_reducible exact hb7 | with_reducible exact hb6 | with_reducible exact hb5 | with_reducible exact hb4 | with_reducible exact hb3 | with_reducible exact hb2 | with_reducible exact hb1 | with_reducible refine Ext.alloc ?_ _ | with_reducible refine Ext.drew ?_ | ((with_reducible refine Ext.set ?_ ?_ _); focus (dsimp only; omega)) | with_reducible refine Ext.trans ?_ hb9 | with_reducible refine Ext.trans ?_ hb8 | with_reducible refine Ext.trans ?_ hb7 | with_reducible refine Ext.trans ?_ hb6 | with_reducible refine Ext.trans ?_ hb5 | with_reducible refine Ext.trans ?_ hb4 | with_reducible refine Ext.trans ?_ hb3 | with_reducible refine Ext.trans ?_ hb2 | with_reducible refine Ext.trans ?_ hb1 | with_reducible refine Ext.trans ?_ hw))
          exact hw3
        | false =>
          have hs2 := hd (find_miss (hasI r) p j hjl q hQ)
          clear hQ
          go_wp2_with fail
          refine Calls.mono (slices_Contains_i64 r _ _ _ p[j] _ rfl (hR2'.ext hw) (by omega)) ?_
          rintro e w4 ⟨rfl, hb4⟩
          rw [q]
          go_wp2
          go_roundg (p.length - (j + 1))
          case rel => exact ⟨j + 1, rfl, hjl, rfl, by ((repeat (first | with_reducible exact Ext.refl _ | with_reducible exact hw | with_reducible exact hb9 | with_reducible exact hb8 | with_reducible exact hb7 | with_reducible exact hb6 | with_reducible exact hb5 | with_reducible exact hb4 | with_reducible exact hb3 | with_reducible exact hb2 | with_reducible exact hb1 | with_reducible refine Ext.alloc ?_ _ | with_reducible refine Ext.drew ?_ | ((with_reducible refine Ext.set ?_ ?_ _); focus (dsimp only; omega)) | with_reducible refine Ext.trans ?_ hb9 | with_reducible refine Ext.trans ?_ hb8 | with_reducible refine Ext.trans ?_ hb7 | with_reducible refine Ext.trans ?_ hb6 | with_reducible refine Ext.trans ?_ hb5 | with_reducible refine Ext.trans ?_ hb4 | with_reducible refine Ext.trans ?_ hb3 | with_reducible refine Ext.trans ?_ hb2 | with_reducible refine Ext.trans ?_ hb1 | with_reducible refine Ext.trans ?_ hw))), hs2.out⟩
          case measure => omega
      · obtain rfl : j = p.length := by omega
        rw [List.take_length] at hQ
        have hv := hd (hnone hQ)
        clear hQ hhit hnone
        go_wp2
        refine bodyPost_ret (v := .tuple #[.int .i64 0, .int .i64 6]) (by simp [results, Tryd.results43, go_sem]) rfl ⟨by rw [hv.out], ?_⟩
        (repeat (first | with_reducible exact Ext.refl _ | with_reducible exact hw | with_reducible exact hb9 | with_reducible exact hb8 | with_reducible exact hb7 | with_reducible exact hb6 | with_reducible exact hb5 | with_reducible exact hb4 | with_reducible exact hb3 | with_reducible exact hb2 | with_reducible exact hb1 | with_reducible refine Ext.alloc ?_ _ | with_reducible refine Ext.drew ?_ | ((with_reducible refine Ext.set ?_ ?_ _); focus (dsimp only; omega)) | with_reducible refine Ext.trans ?_ hb9 | with_reducible refine Ext.trans ?_ hb8 | with_reducible refine Ext.trans ?_ hb7 | with_reducible refine Ext.trans ?_ hb6 | with_reducible refine Ext.trans ?_ hb5 | with_reducible refine Ext.trans ?_ hb4 | with_reducible refine Ext.trans ?_ hb3 | with_reducible refine Ext.trans ?_ hb2 | with_reducible refine Ext.trans ?_ hb1 | with_reducible refine Ext.trans ?_ hw))
        exact hw3
  · have hv := hd (show commF xs i k = (0, atsF xs [i, k]) by unfold commF; rw [if_neg hz])
    have hz2 : (atsF xs [i, k] != 0) = true := by simp [hz]
    go_enter Tryd.func43, Tryd.ntmps43
    go_wp2_with fail
    refine Calls.mono (impl_checkEntries xs A cap [i, k] _ 2 _ (hC.ext (by ((repeat (first | with_reducible exact Ext.refl _ | with_reducible exact hw | with_reducible exact hb9 | with_reducible exact hb8 | with_reducible exact hb7 | with_reducible exact hb6 | with_reducible exact hb5 | with_reducible exact hb4 | with_reducible exact hb3 | with_reducible exact hb2 | with_reducible exact hb1 | with_reducible refine Ext.alloc ?_ _ | with_reducible refine Ext.drew ?_ | ((with_reducible refine Ext.set ?_ ?_ _); focus (dsimp only; omega)) | with_reducible refine Ext.trans ?_ hb9 | with_reducible refine Ext.trans ?_ hb8 | with_reducible refine Ext.trans ?_ hb7 | with_reducible refine Ext.trans ?_ hb6 | with_reducible refine Ext.trans ?_ hb5 | with_reducible refine Ext.trans ?_ hb4 | with_reducible refine Ext.trans ?_ hb3 | with_reducible refine Ext.trans ?_ hb2 | with_reducible refine Ext.trans ?_ hb1 | with_reducible refine Ext.trans ?_ hw))))) Rd.lit2 (by simp) (hG.ext (by ((repeat (first | with_reducible exact Ext.refl _ | with_reducible exact hw | with_reducible exact hb9 | with_reducible exact hb8 | with_reducible exact hb7 | with_reducible exact hb6 | with_reducible exact hb5 | with_reducible exact hb4 | with_reducible exact hb3 | with_reducible exact hb2 | with_reducible exact hb1 | with_reducible refine Ext.alloc ?_ _ | with_reducible refine Ext.drew ?_ | ((with_reducible refine Ext.set ?_ ?_ _); focus (dsimp only; omega)) | with_reducible refine Ext.trans ?_ hb9 | with_reducible refine Ext.trans ?_ hb8 | with_reducible refine Ext.trans ?_ hb7 | with_reducible refine Ext.trans ?_ hb6 | with_reducible refine Ext.trans ?_ hb5 | with_reducible refine Ext.trans ?_ hb4 | with_reducible refine Ext.trans ?_ hb3 | with_reducible refine Ext.trans ?_ hb2 | with_reducible refine Ext.trans ?_ hb1 | with_reducible refine Ext.trans ?_ hw)))))) ?_
    rintro e w1 ⟨rfl, hb1⟩
    go_wp2
    refine bodyPost_ret (v := .tuple #[.int .i64 0, .int .i64 (atsF xs [i, k])]) (by simp [results, Tryd.results43, go_sem]) rfl ⟨by rw [hv.out], ?_⟩
    (repeat (first | with_reducible exact Ext.refl _ | with_reducible exact hw | with_reducible exact hb9 | with_reducible exact hb8 | with_reducible exact hb7 | with_reducible exact hb6 | with_reducible exact hb5 | with_reducible exact hb4 | with_reducible exact hb3 | with_reducible exact hb2 | with_reducible exact hb1 | with_reducible refine Ext.alloc ?_ _ | with_reducible refine Ext.drew ?_ | ((with_reducible refine Ext.set ?_ ?_ _); focus (dsimp only; omega)) | with_reducible refine Ext.trans ?_ hb9 | with_reducible refine Ext.trans ?_ hb8 | with_reducible refine Ext.trans ?_ hb7 | with_reducible refine Ext.trans ?_ hb6 | with_reducible refine Ext.trans ?_ hb5 | with_reducible refine Ext.trans ?_ hb4 | with_reducible refine Ext.trans ?_ hb3 | with_reducible refine Ext.trans ?_ hb2 | with_reducible refine Ext.trans ?_ hb1 | with_reducible refine Ext.trans ?_ hw))
set_option maxHeartbeats 400000 in
theorem spec_CommonBroader (xs : List Ent) (A : Option Addr) (cap : Nat) (i k : Int) (w : World) (hC : CatArg w A cap xs) :
    Calls Tryd.prog 42 #[.slice A xs.length cap, .int .i64 i, .int .i64 k] w fun e w' => e = .returned (.tuple #[.int .i64 (commF xs i k).1, .int .i64 (commF xs i k).2]) ∧ Ext w w' := by
  have hlen := hC.len
  have hpair := atsF_pair xs i k
  by_cases hi : atsF xs [i] = 0
  · rw [if_pos hi] at hpair
    by_cases hk : atsF xs [k] = 0
    · have hz : atsF xs [i, k] = 0 := hpair.trans hk
      obtain ⟨hc, ⟨h0, h1⟩, ⟨h2, h3⟩⟩ := atsF_two hz
      have hhit := fun x => @commF_hit xs i k hz x
      have hnone := @commF_none xs i k hz
      have hpl := pathL_len xs i
      have hpl2 := pathL_len xs k
      clear hpair hz
      go_enter Tryd.func42, Tryd.ntmps42
      go_wp2_with fail
      refine Calls.mono (spec_l05At xs A cap i _ (hC.ext (by ((repeat (first | with_reducible exact Ext.refl _ | with_reducible exact hw | with_reducible exact hb9 | with_reducible exact hb8 | with_reducible exact hb7 | with_reducible exact hb6 | with_reducible exact hb5 | with_reducible exact hb4 | with_reducible exact hb3 | with_reducible exact hb2 | with_reducible exact hb1 | with_reducible refine Ext.alloc ?_ _ | with_reducible refine Ext.drew ?_ | ((with_reducible refine Ext.set ?_ ?_ _); focus (dsimp only; omega)) | with_reducible refine Ext.trans ?_ hb9 | with_reducible refine Ext.trans ?_ hb8 | with_reducible refine Ext.trans ?_ hb7 | with_reducible refine Ext.trans ?_ hb6 | with_reducible refine Ext.trans ?_ hb5 | with_reducible refine Ext.trans ?_ hb4 | with_reducible refine Ext.trans ?_ hb3 | with_reducible refine Ext.trans ?_ hb2 | with_reducible refine Ext.trans ?_ hb1 | with_reducible refine Ext.trans ?_ hw)))))) ?_
      rintro e w1 ⟨rfl, hb1⟩
      rw [hi]
      go_wp2_with fail
      refine Calls.mono (spec_l05At xs A cap k _ (hC.ext (by ((repeat (first | with_reducible exact Ext.refl _ | with_reducible exact hw | with_reducible exact hb9 | with_reducible exact hb8 | with_reducible exact hb7 | with_reducible exact hb6 | with_reducible exact hb5 | with_reducible exact hb4 | with_reducible exact hb3 | with_reducible exact hb2 | with_reducible exact hb1 | with_reducible refine Ext.alloc ?_ _ | with_reducible refine Ext.drew ?_ | ((with_reducible refine Ext.set ?_ ?_ _); focus (dsimp only; omega)) | with_reducible refine Ext.trans ?_ hb9 | with_reducible refine Ext.trans ?_ hb8 | with_reducible refine Ext.trans ?_ hb7 | with_reducible refine Ext.trans ?_ hb6 | with_reducible refine Ext.trans ?_ hb5 | with_reducible refine Ext.trans ?_ hb4 | with_reducible refine Ext.trans ?_ hb3 | with_reducible refine Ext.trans ?_ hb2 | with_reducible refine Ext.trans ?_ hb1 | with_reducible refine Ext.trans ?_ hw)))))) ?_
      rintro e w2 ⟨rfl, hb2⟩
      rw [hk]
      have hw2 : Ext w w2 := hb1.trans hb2
      clear hb1 hb2
      go_wp2_with fail
      refine Calls.mono (spec_l05Path xs A cap i _ (hC.rd.ext hw2) hc h0 h1) ?_
      rintro e w3 ⟨v3, rfl, hO3, hb3⟩
      obtain ⟨A3, cap3, rfl, hle3, hR3⟩ := hO3.slice
      obtain ⟨hc3, hf3, hz3⟩ := bcell3 hb3
      try simp at hz3
      have hw3 : Ext w w3 := hw2.trans hb3
      clear hb3 hO3 hc3 hf3 hw2
      go_wp2_with fail
      refine Calls.mono (spec_l05Path xs A cap k _ (hC.rd.ext hw3) hc h2 h3) ?_
      rintro e w4 ⟨v4, rfl, hO4, hb4⟩
      obtain ⟨A4, cap4, rfl, hle4, hR4⟩ := hO4.slice
      obtain ⟨hc4, hf4, hz4⟩ := bcell3 hb4
      try simp at hz4
      have hw4 : Ext w w4 := hw3.trans hb4
      have hR3' := hR3.ext hb4
      clear hb4 hO4 hc4 hf4 hw3 hR3
      generalize pathL xs i = p at hhit hnone hpl hR3' hle3
      generalize pathL xs k = r at hhit hnone hpl2 hR4 hle4
      go_wp2
      go_loopg [11] p.length (fun g i wr => ∃ j : Nat, g = p.length - j ∧ j ≤ p.length ∧ i = .int .i64 j ∧ Ext w4 wr ∧ (p.take j).find? (hasI r) = none)
      case atStart => exact ⟨0, by omega, by omega, rfl, Ext.refl _, by rw [List.take_zero]; rfl⟩
      case round =>
        obtain ⟨j, hg, hj, rfl, hw, hQ⟩ := hrel
        by_cases hjl : j < p.length
        · obtain ⟨b, off, hA, hlt, _⟩ := hR3' j hjl
          subst hA
          have m0 := (hR3'.ext hw).i64 j hjl
          cases q : hasI r p[j] with
          | true =>
            have hv := hd (hhit _ (find_hit (hasI r) p j hjl q hQ))
            clear hQ hhit hnone
            go_wp2_with fail
            refine Calls.mono (spec_l05In r _ _ p[j] _ (hR4.ext hw) (by omega)) ?_
            rintro e w5 ⟨rfl, hb5⟩
            rw [q]
            have m1 := hb5.cell m0
            go_wp2
            refine bodyPost_ret (v := .tuple #[.int .i64 p[j], .int .i64 0]) (by simp [results, Tryd.results42, go_sem]) rfl ⟨by rw [hv.out], ?_⟩
            (repeat (first | with_reducible exact Ext.refl _ | with_reducible exact hw | with_reducible exact hb9 | with_reducible exact hb8 | with_reducible exact hb7 | with_reducible exact hb6 | with_reducible exact hb5 | with_reducible exact hb4 | with_reducible exact hb3 | with_reducible exact hb2 | with_reducible exact hb1 | with_reducible refine Ext.alloc ?_ _ | with_reducible refine Ext.drew ?_ | ((with_reducible refine Ext.set ?_ ?_ _); focus (dsimp only; omega)) | with_reducible refine Ext.trans ?_ hb9 | with_reducible refine Ext.trans ?_ hb8 | with_reducible refine Ext.trans ?_ hb7 | with_reducible refine Ext.trans ?_ hb6 | with_reducible refine Ext.trans ?_ hb5 | with_reducible refine Ext.trans ?_ hb4 | with_reducible refine Ext.trans ?_ hb3 | with_reducible refine Ext.trans ?_ hb2 | with_reducible refine Ext.trans ?_ hb1 | with_reducible refine Ext.trans ?_ hw))
            exact hw4
          | false =>
            have hs2 := hd (find_miss (hasI r) p j hjl q hQ)
            clear hQ
            go_wp2_with fail
            refine Calls.mono (spec_l05In r _ _ p[j] _ (hR4.ext hw) (by omega)) ?_
            rintro e w5 ⟨rfl, hb5⟩
            rw [q]
            go_wp2
            go_roundg (p.length - (j + 1))
            case rel => exact ⟨j + 1, rfl, hjl, rfl, by ((repeat (first | with_reducible exact Ext.refl _ | with_reducible exact hw | with_reducible exact hb9 | with_reducible exact hb8 | with_reducible exact hb7 | with_reducible exact hb6 | with_reducible exact hb5 | with_reducible exact hb4 | with_reducible exact hb3 | with_reducible exact hb2 | with_reducible exact hb1 | with_reducible refine Ext.alloc ?_ _ | with_reducible refine Ext.drew ?_ | ((with_reducible refine Ext.set ?_ ?_ _); focus (dsimp only; omega)) | with_reducible refine Ext.trans ?_ hb9 | with_reducible refine Ext.trans ?_ hb8 | with_reducible refine Ext.trans ?_ hb7 | with_reducible refine Ext.trans ?_ hb6 | with_reducible refine Ext.trans ?_ hb5 | with_reducible refine Ext.trans ?_ hb4 | with_reducible refine Ext.trans ?_ hb3 | with_reducible refine Ext.trans ?_ hb2 | with_reducible refine Ext.trans ?_ hb1 | with_reducible refine Ext.trans ?_ hw))), hs2.out⟩
            case measure => omega
        · obtain rfl : j = p.length := by omega
          rw [List.take_length] at hQ
          have hv := hd (hnone hQ)
          clear hQ hhit hnone
          go_wp2
          refine bodyPost_ret (v := .tuple #[.int .i64 0, .int .i64 6]) (by simp [results, Tryd.results42, go_sem]) rfl ⟨by rw [hv.out], ?_⟩
          (repeat (first | with_reducible exact Ext.refl _ | with_reducible exact hw | with_reducible exact hb9 | with_reducible exact hb8 | with_reducible exact hb7 | with_reducible exact hb6 | with_reducible exact hb5 | with_reducible exact hb4 | with_reducible exact hb3 | with_reducible exact hb2 | with_reducible exact hb1 | with_reducible refine Ext.alloc ?_ _ | with_reducible refine Ext.drew ?_ | ((with_reducible refine Ext.set ?_ ?_ _); focus (dsimp only; omega)) | with_reducible refine Ext.trans ?_ hb9 | with_reducible refine Ext.trans ?_ hb8 | with_reducible refine Ext.trans ?_ hb7 | with_reducible refine Ext.trans ?_ hb6 | with_reducible refine Ext.trans ?_ hb5 | with_reducible refine Ext.trans ?_ hb4 | with_reducible refine Ext.trans ?_ hb3 | with_reducible refine Ext.trans ?_ hb2 | with_reducible refine Ext.trans ?_ hb1 | with_reducible refine Ext.trans ?_ hw))
          exact hw4
    · have hz : ¬ atsF xs [i, k] = 0 := fun h => hk (hpair.symm.trans h)
      have hv := hd (show commF xs i k = (0, atsF xs [k]) by unfold commF; rw [if_neg hz, hpair])
      have hk2 : (atsF xs [k] != 0) = true := by simp [hk]
      clear hz hpair
      go_enter Tryd.func42, Tryd.ntmps42
      go_wp2_with fail
      refine Calls.mono (spec_l05At xs A cap i _ (hC.ext (by ((repeat (first | with_reducible exact Ext.refl _ | with_reducible exact hw | with_reducible exact hb9 | with_reducible exact hb8 | with_reducible exact hb7 | with_reducible exact hb6 | with_reducible exact hb5 | with_reducible exact hb4 | with_reducible exact hb3 | with_reducible exact hb2 | with_reducible exact hb1 | with_reducible refine Ext.alloc ?_ _ | with_reducible refine Ext.drew ?_ | ((with_reducible refine Ext.set ?_ ?_ _); focus (dsimp only; omega)) | with_reducible refine Ext.trans ?_ hb9 | with_reducible refine Ext.trans ?_ hb8 | with_reducible refine Ext.trans ?_ hb7 | with_reducible refine Ext.trans ?_ hb6 | with_reducible refine Ext.trans ?_ hb5 | with_reducible refine Ext.trans ?_ hb4 | with_reducible refine Ext.trans ?_ hb3 | with_reducible refine Ext.trans ?_ hb2 | with_reducible refine Ext.trans ?_ hb1 | with_reducible refine Ext.trans ?_ hw)))))) ?_
      rintro e w1 ⟨rfl, hb1⟩
      rw [hi]
      go_wp2_with fail
      refine Calls.mono (spec_l05At xs A cap k _ (hC.ext (by ((repeat (first | with_reducible exact Ext.refl _ | with_reducible exact hw | with_reducible exact hb9 | with_reducible exact hb8 | with_reducible exact hb7 | with_reducible exact hb6 | with_reducible exact hb5 | with_reducible exact hb4 | with_reducible exact hb3 | with_reducible exact hb2 | with_reducible exact hb1 | with_reducible refine Ext.alloc ?_ _ | with_reducible refine Ext.drew ?_ | ((with_reducible refine Ext.set ?_ ?_ _); focus (dsimp only; omega)) | with_reducible refine Ext.trans ?_ hb9 | with_reducible refine Ext.trans ?_ hb8 | with_reducible refine Ext.trans ?_ hb7 | with_reducible refine Ext.trans ?_ hb6 | with_reducible refine Ext.trans ?_ hb5 | with_reducible refine Ext.trans ?_ hb4 | with_reducible refine Ext.trans ?_ hb3 | with_reducible refine Ext.trans ?_ hb2 | with_reducible refine Ext.trans ?_ hb1 | with_reducible refine Ext.trans ?_ hw)))))) ?_
      rintro e w2 ⟨rfl, hb2⟩
      go_wp2
      refine bodyPost_ret (v := .tuple #[.int .i64 0, .int .i64 (atsF xs [k])]) (by simp [results, Tryd.results42, go_sem]) rfl ⟨by rw [hv.out], ?_⟩
      (repeat (first | with_reducible exact Ext.refl _ | with_reducible exact hw | with_reducible exact hb9 | with_reducible exact hb8 | with_reducible exact hb7 | with_reducible exact hb6 | with_reducible exact hb5 | with_reducible exact hb4 | with_reducible exact hb3 | with_reducible exact hb2 | with_reducible exact hb1 | with_reducible refine Ext.alloc ?_ _ | with_reducible refine Ext.drew ?_ | ((with_reducible refine Ext.set ?_ ?_ _); focus (dsimp only; omega)) | with_reducible refine Ext.trans ?_ hb9 | with_reducible refine Ext.trans ?_ hb8 | with_reducible refine Ext.trans ?_ hb7 | with_reducible refine Ext.trans ?_ hb6 | with_reducible refine Ext.trans ?_ hb5 | with_reducible refine Ext.trans ?_ hb4 | with_reducible refine Ext.trans ?_ hb3 | with_reducible refine Ext.trans ?_ hb2 | with_reducible refine Ext.trans ?_ hb1 | with_reducible refine Ext.trans ?_ hw))
  · rw [if_neg hi] at hpair
    have hz : ¬ atsF xs [i, k] = 0 := fun h => hi (hpair.symm.trans h)
    have hv := hd (show commF xs i k = (0, atsF xs [i]) by unfold commF; rw [if_neg hz, hpair])
    have hi2 : (atsF xs [i] != 0) = true := by simp [hi]
    have hi3 : (atsF xs [i] = 0) = False := by simp [hi]
    clear hz hpair
    go_enter Tryd.func42, Tryd.ntmps42
    go_wp2_with fail
    refine Calls.mono (spec_l05At xs A cap i _ (hC.ext (by ((repeat (first | with_reducible exact Ext.refl _ | with_reducible exact hw | with_reducible exact hb9 | with_reducible exact hb8 | with_reducible exact hb7 | with_reducible exact hb6 | with_reducible exact hb5 | with_reducible exact hb4 | with_reducible exact hb3 | with_reducible exact hb2 | with_reducible exact hb1 | with_reducible refine Ext.alloc ?_ _ | with_reducible refine Ext.drew ?_ | ((with_reducible refine Ext.set ?_ ?_ _); focus (dsimp only; omega)) | with_reducible refine Ext.trans ?_ hb9 | with_reducible refine Ext.trans ?_ hb8 | with_reducible refine Ext.trans ?_ hb7 | with_reducible refine Ext.trans ?_ hb6 | with_reducible refine Ext.trans ?_ hb5 | with_reducible refine Ext.trans ?_ hb4 | with_reducible refine Ext.trans ?_ hb3 | with_reducible refine Ext.trans ?_ hb2 | with_reducible refine Ext.trans ?_ hb1 | with_reducible refine Ext.trans ?_ hw)))))) ?_
    rintro e w1 ⟨rfl, hb1⟩
    go_wp2
    refine bodyPost_ret (v := .tuple #[.int .i64 0, .int .i64 (atsF xs [i])]) (by simp [results, Tryd.results42, go_sem]) rfl ⟨by rw [hv.out], ?_⟩
    (repeat (first | with_reducible exact Ext.refl _ | with_reducible exact hw | with_reducible exact hb9 | with_reducible exact hb8 | with_reducible exact hb7 | with_reducible exact hb6 | with_reducible exact hb5 | with_reducible exact hb4 | with_reducible exact hb3 | with_reducible exact hb2 | with_reducible exact hb1 | with_reducible refine Ext.alloc ?_ _ | with_reducible refine Ext.drew ?_ | ((with_reducible refine Ext.set ?_ ?_ _); focus (dsimp only; omega)) | with_reducible refine Ext.trans ?_ hb9 | with_reducible refine Ext.trans ?_ hb8 | with_reducible refine Ext.trans ?_ hb7 | with_reducible refine Ext.trans ?_ hb6 | with_reducible refine Ext.trans ?_ hb5 | with_reducible refine Ext.trans ?_ hb4 | with_reducible refine Ext.trans ?_ hb3 | with_reducible refine Ext.trans ?_ hb2 | with_reducible refine Ext.trans ?_ hb1 | with_reducible refine Ext.trans ?_ hw))
