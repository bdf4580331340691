/-
  Contracts of the functions that pick holes of several masks.
-/
import Derived.Test.YthkphhacmneeiaaC6
set_option linter.unusedVariables false
set_option linter.unusedSimpArgs false
namespace Go.Proofs.Ythkphhacmneeiaa
open Go.RowKit
set_option maxHeartbeats 1000000 in
theorem impl_MajorityOf (xs : List Mask) (A : Option Addr) (cap : Nat) (w : World) (hR : Rd encMask w A xs) (hn : xs.length ≤ 1048576) :
    Calls Try.prog 6 #[.slice A xs.length cap] w fun e w' => e = .returned (.tuple #[.agg #[.int .u64 (lo (majF xs).1), .int .u64 (hi (majF xs).1)], .int .i64 (majF xs).2]) ∧ Ext w w' := by
  cases hM : xs.all isMaskB with
  | false =>
    have hv : majF xs = (0, 1) := by simp [majF, masksCode, hM]
    rw [hv]
    clear hv
    go_enter Try.func6, Try.ntmps6
    go_wp2_with fail
    refine Calls.mono (impl_areMasks xs A cap _ (hR.ext (by ((repeat (first | with_reducible exact Ext.refl _ | with_reducible exact hw | with_reducible exact hb9 | with_reducible exact hb8 | with_reducible exact hb7 | with_reducible exact hb6 | with_reducible exact hb5 | with_reducible exact hb4 | with_reducible exact hb3 | with_reducible exact hb2 | with_reducible exact hb1 | with_reducible refine Ext.alloc ?_ _ | with_reducible refine Ext.drew ?_ | ((with_reducible refine Ext.set ?_ ?_ _); focus (dsimp only; omega)) | with_reducible refine Ext.trans ?_ hb9 | with_reducible refine Ext.trans ?_ hb8 | with_reducible refine Ext.trans ?_ hb7 | with_reducible refine Ext.trans ?_ hb6 | with_reducible refine Ext.trans ?_ hb5 | with_reducible refine Ext.trans ?_ hb4 | with_reducible refine Ext.trans ?_ hb3 | with_reducible refine Ext.trans ?_ hb2 | with_reducible refine Ext.trans ?_ hb1 | with_reducible refine Ext.trans ?_ hw))))) hn) ?_
    rintro e w1 ⟨rfl, hb1⟩
    obtain ⟨hc1, hf1, hz1⟩ := bcell3 hb1
    try simp at hz1
    have hz1_0 : w.heap.size < w1.heap.size := by omega
    go_wp2
    have c0 : w1.cell? ⟨w.heap.size, 0, none⟩ = some (.int .u64 0) := by go_simp
    have c1 : w1.cell? ⟨w.heap.size, 1, none⟩ = some (.int .u64 0) := by go_simp
    try clear hc1 hf1
    try clear hc2 hf2
    try clear hc3 hf3
    try clear hc4 hf4
    try clear hc5 hf5
    try clear hc6 hf6
    try clear hc7 hf7
    try clear hc8 hf8
    try clear hc9 hf9
    refine bodyPost_ret (v := .tuple #[.agg #[.int .u64 0, .int .u64 0], .int .i64 1]) (by simp [results, Try.results6, go_sem, c0, c1]) rfl ⟨rfl, ?_⟩
    (repeat (first | with_reducible exact Ext.refl _ | with_reducible exact hw | with_reducible exact hb9 | with_reducible exact hb8 | with_reducible exact hb7 | with_reducible exact hb6 | with_reducible exact hb5 | with_reducible exact hb4 | with_reducible exact hb3 | with_reducible exact hb2 | with_reducible exact hb1 | with_reducible refine Ext.alloc ?_ _ | with_reducible refine Ext.drew ?_ | ((with_reducible refine Ext.set ?_ ?_ _); focus (dsimp only; omega)) | with_reducible refine Ext.trans ?_ hb9 | with_reducible refine Ext.trans ?_ hb8 | with_reducible refine Ext.trans ?_ hb7 | with_reducible refine Ext.trans ?_ hb6 | with_reducible refine Ext.trans ?_ hb5 | with_reducible refine Ext.trans ?_ hb4 | with_reducible refine Ext.trans ?_ hb3 | with_reducible refine Ext.trans ?_ hb2 | with_reducible refine Ext.trans ?_ hb1 | with_reducible refine Ext.trans ?_ hw))
  | true =>
    by_cases h15 : 15 < xs.length
    · have hv : majF xs = (0, 2) := by simp [majF, masksCode, hM, h15]
      rw [hv]
      clear hv
      go_enter Try.func6, Try.ntmps6
      go_wp2_with fail
      refine Calls.mono (impl_areMasks xs A cap _ (hR.ext (by ((repeat (first | with_reducible exact Ext.refl _ | with_reducible exact hw | with_reducible exact hb9 | with_reducible exact hb8 | with_reducible exact hb7 | with_reducible exact hb6 | with_reducible exact hb5 | with_reducible exact hb4 | with_reducible exact hb3 | with_reducible exact hb2 | with_reducible exact hb1 | with_reducible refine Ext.alloc ?_ _ | with_reducible refine Ext.drew ?_ | ((with_reducible refine Ext.set ?_ ?_ _); focus (dsimp only; omega)) | with_reducible refine Ext.trans ?_ hb9 | with_reducible refine Ext.trans ?_ hb8 | with_reducible refine Ext.trans ?_ hb7 | with_reducible refine Ext.trans ?_ hb6 | with_reducible refine Ext.trans ?_ hb5 | with_reducible refine Ext.trans ?_ hb4 | with_reducible refine Ext.trans ?_ hb3 | with_reducible refine Ext.trans ?_ hb2 | with_reducible refine Ext.trans ?_ hb1 | with_reducible refine Ext.trans ?_ hw))))) hn) ?_
      rintro e w1 ⟨rfl, hb1⟩
      obtain ⟨hc1, hf1, hz1⟩ := bcell3 hb1
      try simp at hz1
      have hz1_0 : w.heap.size < w1.heap.size := by omega
      go_wp2
      have c0 : w1.cell? ⟨w.heap.size, 0, none⟩ = some (.int .u64 0) := by go_simp
      have c1 : w1.cell? ⟨w.heap.size, 1, none⟩ = some (.int .u64 0) := by go_simp
      try clear hc1 hf1
      try clear hc2 hf2
      try clear hc3 hf3
      try clear hc4 hf4
      try clear hc5 hf5
      try clear hc6 hf6
      try clear hc7 hf7
      try clear hc8 hf8
      try clear hc9 hf9
      refine bodyPost_ret (v := .tuple #[.agg #[.int .u64 0, .int .u64 0], .int .i64 2]) (by simp [results, Try.results6, go_sem, c0, c1]) rfl ⟨rfl, ?_⟩
      (repeat (first | with_reducible exact Ext.refl _ | with_reducible exact hw | with_reducible exact hb9 | with_reducible exact hb8 | with_reducible exact hb7 | with_reducible exact hb6 | with_reducible exact hb5 | with_reducible exact hb4 | with_reducible exact hb3 | with_reducible exact hb2 | with_reducible exact hb1 | with_reducible refine Ext.alloc ?_ _ | with_reducible refine Ext.drew ?_ | ((with_reducible refine Ext.set ?_ ?_ _); focus (dsimp only; omega)) | with_reducible refine Ext.trans ?_ hb9 | with_reducible refine Ext.trans ?_ hb8 | with_reducible refine Ext.trans ?_ hb7 | with_reducible refine Ext.trans ?_ hb6 | with_reducible refine Ext.trans ?_ hb5 | with_reducible refine Ext.trans ?_ hb4 | with_reducible refine Ext.trans ?_ hb3 | with_reducible refine Ext.trans ?_ hb2 | with_reducible refine Ext.trans ?_ hb1 | with_reducible refine Ext.trans ?_ hw))
    · have hM0 : masksCode xs = 0 := by simp [masksCode, hM, h15]
      by_cases hs : xs.length = 0
      · obtain rfl := List.eq_nil_of_length_eq_zero hs
        clear hs
        have hv : majF [] = (0, 6) := by rw [majF, if_pos hM0]; rfl
        rw [hv]
        clear hv
        go_enter Try.func6, Try.ntmps6
        go_wp2_with fail
        refine Calls.mono (impl_areMasks [] A cap _ (hR.ext (by ((repeat (first | with_reducible exact Ext.refl _ | with_reducible exact hw | with_reducible exact hb9 | with_reducible exact hb8 | with_reducible exact hb7 | with_reducible exact hb6 | with_reducible exact hb5 | with_reducible exact hb4 | with_reducible exact hb3 | with_reducible exact hb2 | with_reducible exact hb1 | with_reducible refine Ext.alloc ?_ _ | with_reducible refine Ext.drew ?_ | ((with_reducible refine Ext.set ?_ ?_ _); focus (dsimp only; omega)) | with_reducible refine Ext.trans ?_ hb9 | with_reducible refine Ext.trans ?_ hb8 | with_reducible refine Ext.trans ?_ hb7 | with_reducible refine Ext.trans ?_ hb6 | with_reducible refine Ext.trans ?_ hb5 | with_reducible refine Ext.trans ?_ hb4 | with_reducible refine Ext.trans ?_ hb3 | with_reducible refine Ext.trans ?_ hb2 | with_reducible refine Ext.trans ?_ hb1 | with_reducible refine Ext.trans ?_ hw))))) (by simp)) ?_
        rintro e w1 ⟨rfl, hb1⟩
        obtain ⟨hc1, hf1, hz1⟩ := bcell3 hb1
        try simp at hz1
        have hz1_0 : w.heap.size < w1.heap.size := by omega
        go_wp2
        have c0 : w1.cell? ⟨w.heap.size, 0, none⟩ = some (.int .u64 0) := by go_simp
        have c1 : w1.cell? ⟨w.heap.size, 1, none⟩ = some (.int .u64 0) := by go_simp
        try clear hc1 hf1
        try clear hc2 hf2
        try clear hc3 hf3
        try clear hc4 hf4
        try clear hc5 hf5
        try clear hc6 hf6
        try clear hc7 hf7
        try clear hc8 hf8
        try clear hc9 hf9
        refine bodyPost_ret (v := .tuple #[.agg #[.int .u64 0, .int .u64 0], .int .i64 6]) (by simp [results, Try.results6, go_sem, c0, c1]) rfl ⟨rfl, ?_⟩
        (repeat (first | with_reducible exact Ext.refl _ | with_reducible exact hw | with_reducible exact hb9 | with_reducible exact hb8 | with_reducible exact hb7 | with_reducible exact hb6 | with_reducible exact hb5 | with_reducible exact hb4 | with_reducible exact hb3 | with_reducible exact hb2 | with_reducible exact hb1 | with_reducible refine Ext.alloc ?_ _ | with_reducible refine Ext.drew ?_ | ((with_reducible refine Ext.set ?_ ?_ _); focus (dsimp only; omega)) | with_reducible refine Ext.trans ?_ hb9 | with_reducible refine Ext.trans ?_ hb8 | with_reducible refine Ext.trans ?_ hb7 | with_reducible refine Ext.trans ?_ hb6 | with_reducible refine Ext.trans ?_ hb5 | with_reducible refine Ext.trans ?_ hb4 | with_reducible refine Ext.trans ?_ hb3 | with_reducible refine Ext.trans ?_ hb2 | with_reducible refine Ext.trans ?_ hb1 | with_reducible refine Ext.trans ?_ hw))
      · have hv : majF xs = (pickTo (majP xs) 96, 0) := by rw [majF, if_pos hM0, if_neg hs]
        rw [hv]
        clear hv
        have e9 : ((xs.length : Int) == 0) = false := by simp only [beq_eq_false_iff_ne, ne_eq]; omega
        go_enter Try.func6, Try.ntmps6
        go_wp2_with fail
        refine Calls.mono (impl_areMasks xs A cap _ (hR.ext (by ((repeat (first | with_reducible exact Ext.refl _ | with_reducible exact hw | with_reducible exact hb9 | with_reducible exact hb8 | with_reducible exact hb7 | with_reducible exact hb6 | with_reducible exact hb5 | with_reducible exact hb4 | with_reducible exact hb3 | with_reducible exact hb2 | with_reducible exact hb1 | with_reducible refine Ext.alloc ?_ _ | with_reducible refine Ext.drew ?_ | ((with_reducible refine Ext.set ?_ ?_ _); focus (dsimp only; omega)) | with_reducible refine Ext.trans ?_ hb9 | with_reducible refine Ext.trans ?_ hb8 | with_reducible refine Ext.trans ?_ hb7 | with_reducible refine Ext.trans ?_ hb6 | with_reducible refine Ext.trans ?_ hb5 | with_reducible refine Ext.trans ?_ hb4 | with_reducible refine Ext.trans ?_ hb3 | with_reducible refine Ext.trans ?_ hb2 | with_reducible refine Ext.trans ?_ hb1 | with_reducible refine Ext.trans ?_ hw))))) hn) ?_
        rintro e w1 ⟨rfl, hb1⟩
        obtain ⟨hc1, hf1, hz1⟩ := bcell3 hb1
        try simp at hz1
        have hz1_0 : w.heap.size < w1.heap.size := by omega
        go_wp2
        go_loopg [21] 96 (fun g i wr => ∃ k : Nat, g = 96 - k ∧ k ≤ 96 ∧ i = .int .i64 k ∧ Ext w wr ∧ BoxAt wr w1.heap.size #[.int .u64 (lo (pickTo (majP xs) k)), .int .u64 (hi (pickTo (majP xs) k))] 26 ∧ BoxAt wr w.heap.size #[.int .u64 0, .int .u64 0] 26)
        case atStart => exact ⟨0, by omega, by omega, rfl, by ((repeat (first | with_reducible exact Ext.refl _ | with_reducible exact hw | with_reducible exact hb9 | with_reducible exact hb8 | with_reducible exact hb7 | with_reducible exact hb6 | with_reducible exact hb5 | with_reducible exact hb4 | with_reducible exact hb3 | with_reducible exact hb2 | with_reducible exact hb1 | with_reducible refine Ext.alloc ?_ _ | with_reducible refine Ext.drew ?_ | ((with_reducible refine Ext.set ?_ ?_ _); focus (dsimp only; omega)) | with_reducible refine Ext.trans ?_ hb9 | with_reducible refine Ext.trans ?_ hb8 | with_reducible refine Ext.trans ?_ hb7 | with_reducible refine Ext.trans ?_ hb6 | with_reducible refine Ext.trans ?_ hb5 | with_reducible refine Ext.trans ?_ hb4 | with_reducible refine Ext.trans ?_ hb3 | with_reducible refine Ext.trans ?_ hb2 | with_reducible refine Ext.trans ?_ hb1 | with_reducible refine Ext.trans ?_ hw))), by rw [pickTo_zero, lo_zero, hi_zero]; exact BoxAt.new' rfl, ((BoxAt.new' rfl).ext hb1).alloc _⟩
        case round =>
          obtain ⟨k, hg, hk, rfl, hw, hB, hC⟩ := hrel
          by_cases hkl : k < 96
          · have g1 := votesN_ge k xs
            have g2 := votesN_le k xs
            cases hp : majP xs k with
            | true =>
              have hq := hp
              simp only [majP, decide_eq_true_eq] at hq
              go_wp2_with fail
              refine Calls.mono (impl_votes xs A cap k (by omega) (by omega) _ (hR.ext hw) hn) ?_
              rintro e w2 ⟨rfl, hb2⟩
              have c0 : w2.cell? ⟨w1.heap.size, 0, none⟩ = some (.int .u64 (lo (pickTo (majP xs) k))) := (hB.ext hb2).cell 0
              have c1 : w2.cell? ⟨w1.heap.size, 1, none⟩ = some (.int .u64 (hi (pickTo (majP xs) k))) := (hB.ext hb2).cell 1
              have l2 := (hB.ext hb2).lt
              have y0 := (hB.ext hb2).frozen 0
              have y1 := (hB.ext hb2).frozen 1
              go_wp2_with fail
              refine Calls.mono (impl_with _ [(k : Int)] _ 1 _ (Rd.lit encI64 _ [(k : Int)] _ _ (by simp) rfl) (by simp) (by simp; omega)) ?_
              rintro e w3 ⟨rfl, hb3⟩
              have hB3 := ((hB.ext hb2).alloc _).ext hb3
              have f0 := hB3.frozen 0
              have f1 := hB3.frozen 1
              have d0 := hB3.cell 0
              have d1 := hB3.cell 1
              go_wp2
              go_roundg (96 - (k + 1))
              case rel => exact ⟨k + 1, rfl, hkl, rfl, by ((repeat (first | with_reducible exact Ext.refl _ | with_reducible exact hw | with_reducible exact hb9 | with_reducible exact hb8 | with_reducible exact hb7 | with_reducible exact hb6 | with_reducible exact hb5 | with_reducible exact hb4 | with_reducible exact hb3 | with_reducible exact hb2 | with_reducible exact hb1 | with_reducible refine Ext.alloc ?_ _ | with_reducible refine Ext.drew ?_ | ((with_reducible refine Ext.set ?_ ?_ _); focus (dsimp only; omega)) | with_reducible refine Ext.trans ?_ hb9 | with_reducible refine Ext.trans ?_ hb8 | with_reducible refine Ext.trans ?_ hb7 | with_reducible refine Ext.trans ?_ hb6 | with_reducible refine Ext.trans ?_ hb5 | with_reducible refine Ext.trans ?_ hb4 | with_reducible refine Ext.trans ?_ hb3 | with_reducible refine Ext.trans ?_ hb2 | with_reducible refine Ext.trans ?_ hb1 | with_reducible refine Ext.trans ?_ hw))), by rw [pickTo_hit _ k hp]; exact (hB3.set 0 _).set 1 _, (((((hC.ext hb2).alloc _).ext hb3).setOther (by simp; omega) _).setOther (by simp; omega) _)⟩
              case measure => omega
            | false =>
              have hq := hp
              simp only [majP, decide_eq_false_iff_not] at hq
              go_wp2_with fail
              refine Calls.mono (impl_votes xs A cap k (by omega) (by omega) _ (hR.ext hw) hn) ?_
              rintro e w2 ⟨rfl, hb2⟩
              go_wp2
              go_roundg (96 - (k + 1))
              case rel => exact ⟨k + 1, rfl, hkl, rfl, by ((repeat (first | with_reducible exact Ext.refl _ | with_reducible exact hw | with_reducible exact hb9 | with_reducible exact hb8 | with_reducible exact hb7 | with_reducible exact hb6 | with_reducible exact hb5 | with_reducible exact hb4 | with_reducible exact hb3 | with_reducible exact hb2 | with_reducible exact hb1 | with_reducible refine Ext.alloc ?_ _ | with_reducible refine Ext.drew ?_ | ((with_reducible refine Ext.set ?_ ?_ _); focus (dsimp only; omega)) | with_reducible refine Ext.trans ?_ hb9 | with_reducible refine Ext.trans ?_ hb8 | with_reducible refine Ext.trans ?_ hb7 | with_reducible refine Ext.trans ?_ hb6 | with_reducible refine Ext.trans ?_ hb5 | with_reducible refine Ext.trans ?_ hb4 | with_reducible refine Ext.trans ?_ hb3 | with_reducible refine Ext.trans ?_ hb2 | with_reducible refine Ext.trans ?_ hb1 | with_reducible refine Ext.trans ?_ hw))), by rw [pickTo_miss _ k hp]; exact hB.ext hb2, hC.ext hb2⟩
              case measure => omega
          · obtain rfl : k = 96 := by omega
            have c0 : wr.cell? ⟨w1.heap.size, 0, none⟩ = some (.int .u64 (lo (pickTo (majP xs) 96))) := hB.cell 0
            have c1 : wr.cell? ⟨w1.heap.size, 1, none⟩ = some (.int .u64 (hi (pickTo (majP xs) 96))) := hB.cell 1
            have z0 : wr.cell? ⟨w.heap.size, 0, none⟩ = some (.int .u64 0) := hC.cell 0
            have z1 : wr.cell? ⟨w.heap.size, 1, none⟩ = some (.int .u64 0) := hC.cell 1
            have y0 := hC.frozen 0
            have y1 := hC.frozen 1
            go_wp2
            refine bodyPost_ret (v := .tuple #[.agg #[.int .u64 (lo (pickTo (majP xs) 96)), .int .u64 (hi (pickTo (majP xs) 96))], .int .i64 0]) (by simp [results, Try.results6, go_sem, z0, z1]) rfl ⟨rfl, ?_⟩
            (repeat (first | with_reducible exact Ext.refl _ | with_reducible exact hw | with_reducible exact hb9 | with_reducible exact hb8 | with_reducible exact hb7 | with_reducible exact hb6 | with_reducible exact hb5 | with_reducible exact hb4 | with_reducible exact hb3 | with_reducible exact hb2 | with_reducible exact hb1 | with_reducible refine Ext.alloc ?_ _ | with_reducible refine Ext.drew ?_ | ((with_reducible refine Ext.set ?_ ?_ _); focus (dsimp only; omega)) | with_reducible refine Ext.trans ?_ hb9 | with_reducible refine Ext.trans ?_ hb8 | with_reducible refine Ext.trans ?_ hb7 | with_reducible refine Ext.trans ?_ hb6 | with_reducible refine Ext.trans ?_ hb5 | with_reducible refine Ext.trans ?_ hb4 | with_reducible refine Ext.trans ?_ hb3 | with_reducible refine Ext.trans ?_ hb2 | with_reducible refine Ext.trans ?_ hb1 | with_reducible refine Ext.trans ?_ hw))
set_option maxHeartbeats 1000000 in
theorem spec_MajorityOf (xs : List Mask) (A : Option Addr) (cap : Nat) (w : World) (hR : Rd encMask w A xs) (hn : xs.length ≤ 1048576) :
    Calls Try.prog 11 #[.slice A xs.length cap] w fun e w' => e = .returned (.tuple #[.agg #[.int .u64 (lo (majF xs).1), .int .u64 (hi (majF xs).1)], .int .i64 (majF xs).2]) ∧ Ext w w' := by
  have hx := @ExtOf.cell
  by_cases hM : masksCode xs = 0
  · have hM0 := hM
    have h15 := (masksCode_le hM).2
    by_cases hs : xs.length = 0
    · obtain rfl := List.eq_nil_of_length_eq_zero hs
      clear hs
      have hv : majF [] = (0, 6) := by rw [majF, if_pos hM0]; rfl
      rw [hv]
      clear hv
      go_enter Try.func11, Try.ntmps11
      go_wp2_with fail
      refine Calls.mono (spec_l04Masks [] A cap _ (hR.ext (by ((repeat (first | with_reducible exact Ext.refl _ | with_reducible exact hw | with_reducible exact hb9 | with_reducible exact hb8 | with_reducible exact hb7 | with_reducible exact hb6 | with_reducible exact hb5 | with_reducible exact hb4 | with_reducible exact hb3 | with_reducible exact hb2 | with_reducible exact hb1 | with_reducible refine Ext.alloc ?_ _ | with_reducible refine Ext.drew ?_ | ((with_reducible refine Ext.set ?_ ?_ _); focus (dsimp only; omega)) | with_reducible refine Ext.trans ?_ hb9 | with_reducible refine Ext.trans ?_ hb8 | with_reducible refine Ext.trans ?_ hb7 | with_reducible refine Ext.trans ?_ hb6 | with_reducible refine Ext.trans ?_ hb5 | with_reducible refine Ext.trans ?_ hb4 | with_reducible refine Ext.trans ?_ hb3 | with_reducible refine Ext.trans ?_ hb2 | with_reducible refine Ext.trans ?_ hb1 | with_reducible refine Ext.trans ?_ hw))))) (by simp)) ?_
      rintro e w1 ⟨rfl, hb1⟩
      obtain ⟨hc1, hf1, hz1⟩ := bcell3 hb1
      try simp at hz1
      have hz1_0 : w.heap.size < w1.heap.size := by omega
      go_wp2
      have c0 : w1.cell? ⟨w.heap.size, 0, none⟩ = some (.int .u64 0) := by go_simp
      have c1 : w1.cell? ⟨w.heap.size, 1, none⟩ = some (.int .u64 0) := by go_simp
      try clear hc1 hf1
      try clear hc2 hf2
      try clear hc3 hf3
      try clear hc4 hf4
      try clear hc5 hf5
      try clear hc6 hf6
      try clear hc7 hf7
      try clear hc8 hf8
      try clear hc9 hf9
      refine bodyPost_ret (v := .tuple #[.agg #[.int .u64 0, .int .u64 0], .int .i64 6]) (by simp [results, Try.results11, go_sem, c0, c1]) rfl ⟨rfl, ?_⟩
      (repeat (first | with_reducible exact Ext.refl _ | with_reducible exact hw | with_reducible exact hb9 | with_reducible exact hb8 | with_reducible exact hb7 | with_reducible exact hb6 | with_reducible exact hb5 | with_reducible exact hb4 | with_reducible exact hb3 | with_reducible exact hb2 | with_reducible exact hb1 | with_reducible refine Ext.alloc ?_ _ | with_reducible refine Ext.drew ?_ | ((with_reducible refine Ext.set ?_ ?_ _); focus (dsimp only; omega)) | with_reducible refine Ext.trans ?_ hb9 | with_reducible refine Ext.trans ?_ hb8 | with_reducible refine Ext.trans ?_ hb7 | with_reducible refine Ext.trans ?_ hb6 | with_reducible refine Ext.trans ?_ hb5 | with_reducible refine Ext.trans ?_ hb4 | with_reducible refine Ext.trans ?_ hb3 | with_reducible refine Ext.trans ?_ hb2 | with_reducible refine Ext.trans ?_ hb1 | with_reducible refine Ext.trans ?_ hw))
    · have hv : majF xs = (pickTo (majP xs) 96, 0) := by rw [majF, if_pos hM0, if_neg hs]
      rw [hv]
      clear hv
      have e9 : ((xs.length : Int) == 0) = false := by simp only [beq_eq_false_iff_ne, ne_eq]; omega
      go_enter Try.func11, Try.ntmps11
      go_wp2_with fail
      refine Calls.mono (spec_l04Masks xs A cap _ (hR.ext (by ((repeat (first | with_reducible exact Ext.refl _ | with_reducible exact hw | with_reducible exact hb9 | with_reducible exact hb8 | with_reducible exact hb7 | with_reducible exact hb6 | with_reducible exact hb5 | with_reducible exact hb4 | with_reducible exact hb3 | with_reducible exact hb2 | with_reducible exact hb1 | with_reducible refine Ext.alloc ?_ _ | with_reducible refine Ext.drew ?_ | ((with_reducible refine Ext.set ?_ ?_ _); focus (dsimp only; omega)) | with_reducible refine Ext.trans ?_ hb9 | with_reducible refine Ext.trans ?_ hb8 | with_reducible refine Ext.trans ?_ hb7 | with_reducible refine Ext.trans ?_ hb6 | with_reducible refine Ext.trans ?_ hb5 | with_reducible refine Ext.trans ?_ hb4 | with_reducible refine Ext.trans ?_ hb3 | with_reducible refine Ext.trans ?_ hb2 | with_reducible refine Ext.trans ?_ hb1 | with_reducible refine Ext.trans ?_ hw))))) hn) ?_
      rintro e w1 ⟨rfl, hb1⟩
      obtain ⟨hc1, hf1, hz1⟩ := bcell3 hb1
      try simp at hz1
      have hz1_0 : w.heap.size < w1.heap.size := by omega
      go_wp2
      go_loopg [6] 96 (fun g i wr => ∃ k : Nat, g = 96 - k ∧ k ≤ 96 ∧ i = .int .i64 k ∧ Ext w wr ∧ BoxAt wr w1.heap.size #[.int .u64 (lo (pickTo (majP xs) k)), .int .u64 (hi (pickTo (majP xs) k))] 26 ∧ BoxAt wr w.heap.size #[.int .u64 0, .int .u64 0] 26)
      case atStart => exact ⟨0, by omega, by omega, rfl, by ((repeat (first | with_reducible exact Ext.refl _ | with_reducible exact hw | with_reducible exact hb9 | with_reducible exact hb8 | with_reducible exact hb7 | with_reducible exact hb6 | with_reducible exact hb5 | with_reducible exact hb4 | with_reducible exact hb3 | with_reducible exact hb2 | with_reducible exact hb1 | with_reducible refine Ext.alloc ?_ _ | with_reducible refine Ext.drew ?_ | ((with_reducible refine Ext.set ?_ ?_ _); focus (dsimp only; omega)) | with_reducible refine Ext.trans ?_ hb9 | with_reducible refine Ext.trans ?_ hb8 | with_reducible refine Ext.trans ?_ hb7 | with_reducible refine Ext.trans ?_ hb6 | with_reducible refine Ext.trans ?_ hb5 | with_reducible refine Ext.trans ?_ hb4 | with_reducible refine Ext.trans ?_ hb3 | with_reducible refine Ext.trans ?_ hb2 | with_reducible refine Ext.trans ?_ hb1 | with_reducible refine Ext.trans ?_ hw))), by rw [pickTo_zero, lo_zero, hi_zero]; exact BoxAt.new' rfl, ((BoxAt.new' rfl).ext hb1).alloc _⟩
      case round =>
        obtain ⟨k, hg, hk, rfl, hw, hB, hC⟩ := hrel
        by_cases hkl : k < 96
        · have g1 := votesN_ge k xs
          have g2 := votesN_le k xs
          cases hp : majP xs k with
          | true =>
            have hq := hp
            simp only [majP, decide_eq_true_eq] at hq
            go_wp2_with fail
            refine Calls.mono (spec_l04Votes xs A cap k (by omega) (by omega) _ (hR.ext hw) hn) ?_
            rintro e w2 ⟨rfl, hb2⟩
            have c0 : w2.cell? ⟨w1.heap.size, 0, none⟩ = some (.int .u64 (lo (pickTo (majP xs) k))) := (hB.ext hb2).cell 0
            have c1 : w2.cell? ⟨w1.heap.size, 1, none⟩ = some (.int .u64 (hi (pickTo (majP xs) k))) := (hB.ext hb2).cell 1
            have l2 := (hB.ext hb2).lt
            have y0 := (hB.ext hb2).frozen 0
            have y1 := (hB.ext hb2).frozen 1
            go_wp2
            refine wp_region_ext_tail 4 4 (by kernel_rfl) (by kernel_rfl) (by intro d _ _ _ _ h; cases d <;> exact h) ?_
            simp only [List.take_succ_cons, List.take_zero, List.drop_succ_cons, List.drop_zero]
            repeat (first | go_big_quiet_step ((first | (go_at_call 18; with_reducible exact Calls.ext_of (spec_l01Bit k (by omega) (by omega) _)) | (go_at_call 17; with_reducible exact Calls.ext_of (spec_l01Join _ _ _)))) | quiet_step ((first | (go_at_call 18; with_reducible exact Calls.ext_of (spec_l01Bit k (by omega) (by omega) _)) | (go_at_call 17; with_reducible exact Calls.ext_of (spec_l01Join _ _ _)))))
            refine wpQuiet_nil ?_
            intro w3 hq3
            have hb3 := ext_of_class hq3
            clear hq3
            obtain ⟨hc3, hf3, hz3⟩ := bcell3 hb3
            try simp at hz3
            have hB3 := (hB.ext hb2).ext hb3
            have f0 := hB3.frozen 0
            have f1 := hB3.frozen 1
            have d0 := hB3.cell 0
            have d1 := hB3.cell 1
            go_wp2
            go_roundg (96 - (k + 1))
            case rel => exact ⟨k + 1, rfl, hkl, rfl, by ((repeat (first | with_reducible exact Ext.refl _ | with_reducible exact hw | with_reducible exact hb9 | with_reducible exact hb8 | with_reducible exact hb7 | with_reducible exact hb6 | with_reducible exact hb5 | with_reducible exact hb4 | with_reducible exact hb3 | with_reducible exact hb2 | with_reducible exact hb1 | with_reducible refine Ext.alloc ?_ _ | with_reducible refine Ext.drew ?_ | ((with_reducible refine Ext.set ?_ ?_ _); focus (dsimp only; omega)) | with_reducible refine Ext.trans ?_ hb9 | with_reducible refine Ext.trans ?_ hb8 | with_reducible refine Ext.trans ?_ hb7 | with_reducible refine Ext.trans ?_ hb6 | with_reducible refine Ext.trans ?_ hb5 | with_reducible refine Ext.trans ?_ hb4 | with_reducible refine Ext.trans ?_ hb3 | with_reducible refine Ext.trans ?_ hb2 | with_reducible refine Ext.trans ?_ hb1 | with_reducible refine Ext.trans ?_ hw))), by rw [pickTo_hit _ k hp]; exact (hB3.set 0 _).set 1 _, ((((hC.ext hb2).ext hb3).setOther (by simp; omega) _).setOther (by simp; omega) _)⟩
            case measure => omega
          | false =>
            have hq := hp
            simp only [majP, decide_eq_false_iff_not] at hq
            go_wp2_with fail
            refine Calls.mono (spec_l04Votes xs A cap k (by omega) (by omega) _ (hR.ext hw) hn) ?_
            rintro e w2 ⟨rfl, hb2⟩
            go_wp2
            go_roundg (96 - (k + 1))
            case rel => exact ⟨k + 1, rfl, hkl, rfl, by ((repeat (first | with_reducible exact Ext.refl _ | with_reducible exact hw | with_reducible exact hb9 | with_reducible exact hb8 | with_reducible exact hb7 | with_reducible exact hb6 | with_reducible exact hb5 | with_reducible exact hb4 | with_reducible exact hb3 | with_reducible exact hb2 | with_reducible exact hb1 | with_reducible refine Ext.alloc ?_ _ | with_reducible refine Ext.drew ?_ | ((with_reducible refine Ext.set ?_ ?_ _); focus (dsimp only; omega)) | with_reducible refine Ext.trans ?_ hb9 | with_reducible refine Ext.trans ?_ hb8 | with_reducible refine Ext.trans ?_ hb7 | with_reducible refine Ext.trans ?_ hb6 | with_reducible refine Ext.trans ?_ hb5 | with_reducible refine Ext.trans ?_ hb4 | with_reducible refine Ext.trans ?_ hb3 | with_reducible refine Ext.trans ?_ hb2 | with_reducible refine Ext.trans ?_ hb1 | with_reducible refine Ext.trans ?_ hw))), by rw [pickTo_miss _ k hp]; exact hB.ext hb2, hC.ext hb2⟩
            case measure => omega
        · obtain rfl : k = 96 := by omega
          have c0 : wr.cell? ⟨w1.heap.size, 0, none⟩ = some (.int .u64 (lo (pickTo (majP xs) 96))) := hB.cell 0
          have c1 : wr.cell? ⟨w1.heap.size, 1, none⟩ = some (.int .u64 (hi (pickTo (majP xs) 96))) := hB.cell 1
          have z0 : wr.cell? ⟨w.heap.size, 0, none⟩ = some (.int .u64 0) := hC.cell 0
          have z1 : wr.cell? ⟨w.heap.size, 1, none⟩ = some (.int .u64 0) := hC.cell 1
          have y0 := hC.frozen 0
          have y1 := hC.frozen 1
          go_wp2
          refine bodyPost_ret (v := .tuple #[.agg #[.int .u64 (lo (pickTo (majP xs) 96)), .int .u64 (hi (pickTo (majP xs) 96))], .int .i64 0]) (by simp [results, Try.results11, go_sem, z0, z1]) rfl ⟨rfl, ?_⟩
          (repeat (first | with_reducible exact Ext.refl _ | with_reducible exact hw | with_reducible exact hb9 | with_reducible exact hb8 | with_reducible exact hb7 | with_reducible exact hb6 | with_reducible exact hb5 | with_reducible exact hb4 | with_reducible exact hb3 | with_reducible exact hb2 | with_reducible exact hb1 | with_reducible refine Ext.alloc ?_ _ | with_reducible refine Ext.drew ?_ | ((with_reducible refine Ext.set ?_ ?_ _); focus (dsimp only; omega)) | with_reducible refine Ext.trans ?_ hb9 | with_reducible refine Ext.trans ?_ hb8 | with_reducible refine Ext.trans ?_ hb7 | with_reducible refine Ext.trans ?_ hb6 | with_reducible refine Ext.trans ?_ hb5 | with_reducible refine Ext.trans ?_ hb4 | with_reducible refine Ext.trans ?_ hb3 | with_reducible refine Ext.trans ?_ hb2 | with_reducible refine Ext.trans ?_ hb1 | with_reducible refine Ext.trans ?_ hw))
  · have hv : majF xs = (0, (masksCode xs)) := by rw [majF, if_neg hM]
    rw [hv]
    clear hv
    go_enter Try.func11, Try.ntmps11
    go_wp2_with fail
    refine Calls.mono (spec_l04Masks xs A cap _ (hR.ext (by ((repeat (first | with_reducible exact Ext.refl _ | with_reducible exact hw | with_reducible exact hb9 | with_reducible exact hb8 | with_reducible exact hb7 | with_reducible exact hb6 | with_reducible exact hb5 | with_reducible exact hb4 | with_reducible exact hb3 | with_reducible exact hb2 | with_reducible exact hb1 | with_reducible refine Ext.alloc ?_ _ | with_reducible refine Ext.drew ?_ | ((with_reducible refine Ext.set ?_ ?_ _); focus (dsimp only; omega)) | with_reducible refine Ext.trans ?_ hb9 | with_reducible refine Ext.trans ?_ hb8 | with_reducible refine Ext.trans ?_ hb7 | with_reducible refine Ext.trans ?_ hb6 | with_reducible refine Ext.trans ?_ hb5 | with_reducible refine Ext.trans ?_ hb4 | with_reducible refine Ext.trans ?_ hb3 | with_reducible refine Ext.trans ?_ hb2 | with_reducible refine Ext.trans ?_ hb1 | with_reducible refine Ext.trans ?_ hw))))) hn) ?_
    rintro e w1 ⟨rfl, hb1⟩
    obtain ⟨hc1, hf1, hz1⟩ := bcell3 hb1
    try simp at hz1
    have hz1_0 : w.heap.size < w1.heap.size := by omega
    go_wp2
    have c0 : w1.cell? ⟨w.heap.size, 0, none⟩ = some (.int .u64 0) := by go_simp
    have c1 : w1.cell? ⟨w.heap.size, 1, none⟩ = some (.int .u64 0) := by go_simp
    try clear hc1 hf1
    try clear hc2 hf2
    try clear hc3 hf3
    try clear hc4 hf4
    try clear hc5 hf5
    try clear hc6 hf6
    try clear hc7 hf7
    try clear hc8 hf8
    try clear hc9 hf9
    refine bodyPost_ret (v := .tuple #[.agg #[.int .u64 0, .int .u64 0], .int .i64 (masksCode xs)]) (by simp [results, Try.results11, go_sem, c0, c1]) rfl ⟨rfl, ?_⟩
    (repeat (first | with_reducible exact Ext.refl _ | with_reducible exact hw | with_reducible exact hb9 | with_reducible exact hb8 | with_reducible exact hb7 | with_reducible exact hb6 | with_reducible exact hb5 | with_reducible exact hb4 | with_reducible exact hb3 | with_reducible exact hb2 | with_reducible exact hb1 | with_reducible refine Ext.alloc ?_ _ | with_reducible refine Ext.drew ?_ | ((with_reducible refine Ext.set ?_ ?_ _); focus (dsimp only; omega)) | with_reducible refine Ext.trans ?_ hb9 | with_reducible refine Ext.trans ?_ hb8 | with_reducible refine Ext.trans ?_ hb7 | with_reducible refine Ext.trans ?_ hb6 | with_reducible refine Ext.trans ?_ hb5 | with_reducible refine Ext.trans ?_ hb4 | with_reducible refine Ext.trans ?_ hb3 | with_reducible refine Ext.trans ?_ hb2 | with_reducible refine Ext.trans ?_ hb1 | with_reducible refine Ext.trans ?_ hw))
set_option maxHeartbeats 1000000 in
theorem impl_LonelyHoles (xs : List Mask) (A : Option Addr) (cap : Nat) (w : World) (hR : Rd encMask w A xs) (hn : xs.length ≤ 1048576) :
    Calls Try.prog 7 #[.slice A xs.length cap] w fun e w' => e = .returned (.tuple #[.agg #[.int .u64 (lo (lonF xs).1), .int .u64 (hi (lonF xs).1)], .int .i64 (lonF xs).2]) ∧ Ext w w' := by
  cases hM : xs.all isMaskB with
  | false =>
    have hv : lonF xs = (0, 1) := by simp [lonF, masksCode, hM]
    rw [hv]
    clear hv
    go_enter Try.func7, Try.ntmps7
    go_wp2_with fail
    refine Calls.mono (impl_areMasks xs A cap _ (hR.ext (by ((repeat (first | with_reducible exact Ext.refl _ | with_reducible exact hw | with_reducible exact hb9 | with_reducible exact hb8 | with_reducible exact hb7 | with_reducible exact hb6 | with_reducible exact hb5 | with_reducible exact hb4 | with_reducible exact hb3 | with_reducible exact hb2 | with_reducible exact hb1 | with_reducible refine Ext.alloc ?_ _ | with_reducible refine Ext.drew ?_ | ((with_reducible refine Ext.set ?_ ?_ _); focus (dsimp only; omega)) | with_reducible refine Ext.trans ?_ hb9 | with_reducible refine Ext.trans ?_ hb8 | with_reducible refine Ext.trans ?_ hb7 | with_reducible refine Ext.trans ?_ hb6 | with_reducible refine Ext.trans ?_ hb5 | with_reducible refine Ext.trans ?_ hb4 | with_reducible refine Ext.trans ?_ hb3 | with_reducible refine Ext.trans ?_ hb2 | with_reducible refine Ext.trans ?_ hb1 | with_reducible refine Ext.trans ?_ hw))))) hn) ?_
    rintro e w1 ⟨rfl, hb1⟩
    obtain ⟨hc1, hf1, hz1⟩ := bcell3 hb1
    try simp at hz1
    have hz1_0 : w.heap.size < w1.heap.size := by omega
    go_wp2
    have c0 : w1.cell? ⟨w.heap.size, 0, none⟩ = some (.int .u64 0) := by go_simp
    have c1 : w1.cell? ⟨w.heap.size, 1, none⟩ = some (.int .u64 0) := by go_simp
    try clear hc1 hf1
    try clear hc2 hf2
    try clear hc3 hf3
    try clear hc4 hf4
    try clear hc5 hf5
    try clear hc6 hf6
    try clear hc7 hf7
    try clear hc8 hf8
    try clear hc9 hf9
    refine bodyPost_ret (v := .tuple #[.agg #[.int .u64 0, .int .u64 0], .int .i64 1]) (by simp [results, Try.results7, go_sem, c0, c1]) rfl ⟨rfl, ?_⟩
    (repeat (first | with_reducible exact Ext.refl _ | with_reducible exact hw | with_reducible exact hb9 | with_reducible exact hb8 | with_reducible exact hb7 | with_reducible exact hb6 | with_reducible exact hb5 | with_reducible exact hb4 | with_reducible exact hb3 | with_reducible exact hb2 | with_reducible exact hb1 | with_reducible refine Ext.alloc ?_ _ | with_reducible refine Ext.drew ?_ | ((with_reducible refine Ext.set ?_ ?_ _); focus (dsimp only; omega)) | with_reducible refine Ext.trans ?_ hb9 | with_reducible refine Ext.trans ?_ hb8 | with_reducible refine Ext.trans ?_ hb7 | with_reducible refine Ext.trans ?_ hb6 | with_reducible refine Ext.trans ?_ hb5 | with_reducible refine Ext.trans ?_ hb4 | with_reducible refine Ext.trans ?_ hb3 | with_reducible refine Ext.trans ?_ hb2 | with_reducible refine Ext.trans ?_ hb1 | with_reducible refine Ext.trans ?_ hw))
  | true =>
    by_cases h15 : 15 < xs.length
    · have hv : lonF xs = (0, 2) := by simp [lonF, masksCode, hM, h15]
      rw [hv]
      clear hv
      go_enter Try.func7, Try.ntmps7
      go_wp2_with fail
      refine Calls.mono (impl_areMasks xs A cap _ (hR.ext (by ((repeat (first | with_reducible exact Ext.refl _ | with_reducible exact hw | with_reducible exact hb9 | with_reducible exact hb8 | with_reducible exact hb7 | with_reducible exact hb6 | with_reducible exact hb5 | with_reducible exact hb4 | with_reducible exact hb3 | with_reducible exact hb2 | with_reducible exact hb1 | with_reducible refine Ext.alloc ?_ _ | with_reducible refine Ext.drew ?_ | ((with_reducible refine Ext.set ?_ ?_ _); focus (dsimp only; omega)) | with_reducible refine Ext.trans ?_ hb9 | with_reducible refine Ext.trans ?_ hb8 | with_reducible refine Ext.trans ?_ hb7 | with_reducible refine Ext.trans ?_ hb6 | with_reducible refine Ext.trans ?_ hb5 | with_reducible refine Ext.trans ?_ hb4 | with_reducible refine Ext.trans ?_ hb3 | with_reducible refine Ext.trans ?_ hb2 | with_reducible refine Ext.trans ?_ hb1 | with_reducible refine Ext.trans ?_ hw))))) hn) ?_
      rintro e w1 ⟨rfl, hb1⟩
      obtain ⟨hc1, hf1, hz1⟩ := bcell3 hb1
      try simp at hz1
      have hz1_0 : w.heap.size < w1.heap.size := by omega
      go_wp2
      have c0 : w1.cell? ⟨w.heap.size, 0, none⟩ = some (.int .u64 0) := by go_simp
      have c1 : w1.cell? ⟨w.heap.size, 1, none⟩ = some (.int .u64 0) := by go_simp
      try clear hc1 hf1
      try clear hc2 hf2
      try clear hc3 hf3
      try clear hc4 hf4
      try clear hc5 hf5
      try clear hc6 hf6
      try clear hc7 hf7
      try clear hc8 hf8
      try clear hc9 hf9
      refine bodyPost_ret (v := .tuple #[.agg #[.int .u64 0, .int .u64 0], .int .i64 2]) (by simp [results, Try.results7, go_sem, c0, c1]) rfl ⟨rfl, ?_⟩
      (repeat (first | with_reducible exact Ext.refl _ | with_reducible exact hw | with_reducible exact hb9 | with_reducible exact hb8 | with_reducible exact hb7 | with_reducible exact hb6 | with_reducible exact hb5 | with_reducible exact hb4 | with_reducible exact hb3 | with_reducible exact hb2 | with_reducible exact hb1 | with_reducible refine Ext.alloc ?_ _ | with_reducible refine Ext.drew ?_ | ((with_reducible refine Ext.set ?_ ?_ _); focus (dsimp only; omega)) | with_reducible refine Ext.trans ?_ hb9 | with_reducible refine Ext.trans ?_ hb8 | with_reducible refine Ext.trans ?_ hb7 | with_reducible refine Ext.trans ?_ hb6 | with_reducible refine Ext.trans ?_ hb5 | with_reducible refine Ext.trans ?_ hb4 | with_reducible refine Ext.trans ?_ hb3 | with_reducible refine Ext.trans ?_ hb2 | with_reducible refine Ext.trans ?_ hb1 | with_reducible refine Ext.trans ?_ hw))
    · have hM0 : masksCode xs = 0 := by simp [masksCode, hM, h15]
      by_cases hs : xs.length < 3
      · have hv : lonF xs = (0, 6) := by rw [lonF, if_pos hM0, if_pos hs]
        rw [hv]
        clear hv
        go_enter Try.func7, Try.ntmps7
        go_wp2_with fail
        refine Calls.mono (impl_areMasks xs A cap _ (hR.ext (by ((repeat (first | with_reducible exact Ext.refl _ | with_reducible exact hw | with_reducible exact hb9 | with_reducible exact hb8 | with_reducible exact hb7 | with_reducible exact hb6 | with_reducible exact hb5 | with_reducible exact hb4 | with_reducible exact hb3 | with_reducible exact hb2 | with_reducible exact hb1 | with_reducible refine Ext.alloc ?_ _ | with_reducible refine Ext.drew ?_ | ((with_reducible refine Ext.set ?_ ?_ _); focus (dsimp only; omega)) | with_reducible refine Ext.trans ?_ hb9 | with_reducible refine Ext.trans ?_ hb8 | with_reducible refine Ext.trans ?_ hb7 | with_reducible refine Ext.trans ?_ hb6 | with_reducible refine Ext.trans ?_ hb5 | with_reducible refine Ext.trans ?_ hb4 | with_reducible refine Ext.trans ?_ hb3 | with_reducible refine Ext.trans ?_ hb2 | with_reducible refine Ext.trans ?_ hb1 | with_reducible refine Ext.trans ?_ hw))))) hn) ?_
        rintro e w1 ⟨rfl, hb1⟩
        obtain ⟨hc1, hf1, hz1⟩ := bcell3 hb1
        try simp at hz1
        have hz1_0 : w.heap.size < w1.heap.size := by omega
        go_wp2
        have c0 : w1.cell? ⟨w.heap.size, 0, none⟩ = some (.int .u64 0) := by go_simp
        have c1 : w1.cell? ⟨w.heap.size, 1, none⟩ = some (.int .u64 0) := by go_simp
        try clear hc1 hf1
        try clear hc2 hf2
        try clear hc3 hf3
        try clear hc4 hf4
        try clear hc5 hf5
        try clear hc6 hf6
        try clear hc7 hf7
        try clear hc8 hf8
        try clear hc9 hf9
        refine bodyPost_ret (v := .tuple #[.agg #[.int .u64 0, .int .u64 0], .int .i64 6]) (by simp [results, Try.results7, go_sem, c0, c1]) rfl ⟨rfl, ?_⟩
        (repeat (first | with_reducible exact Ext.refl _ | with_reducible exact hw | with_reducible exact hb9 | with_reducible exact hb8 | with_reducible exact hb7 | with_reducible exact hb6 | with_reducible exact hb5 | with_reducible exact hb4 | with_reducible exact hb3 | with_reducible exact hb2 | with_reducible exact hb1 | with_reducible refine Ext.alloc ?_ _ | with_reducible refine Ext.drew ?_ | ((with_reducible refine Ext.set ?_ ?_ _); focus (dsimp only; omega)) | with_reducible refine Ext.trans ?_ hb9 | with_reducible refine Ext.trans ?_ hb8 | with_reducible refine Ext.trans ?_ hb7 | with_reducible refine Ext.trans ?_ hb6 | with_reducible refine Ext.trans ?_ hb5 | with_reducible refine Ext.trans ?_ hb4 | with_reducible refine Ext.trans ?_ hb3 | with_reducible refine Ext.trans ?_ hb2 | with_reducible refine Ext.trans ?_ hb1 | with_reducible refine Ext.trans ?_ hw))
      · have hv : lonF xs = (pickTo (lonP xs) 96, 0) := by rw [lonF, if_pos hM0, if_neg hs]
        rw [hv]
        clear hv
        go_enter Try.func7, Try.ntmps7
        go_wp2_with fail
        refine Calls.mono (impl_areMasks xs A cap _ (hR.ext (by ((repeat (first | with_reducible exact Ext.refl _ | with_reducible exact hw | with_reducible exact hb9 | with_reducible exact hb8 | with_reducible exact hb7 | with_reducible exact hb6 | with_reducible exact hb5 | with_reducible exact hb4 | with_reducible exact hb3 | with_reducible exact hb2 | with_reducible exact hb1 | with_reducible refine Ext.alloc ?_ _ | with_reducible refine Ext.drew ?_ | ((with_reducible refine Ext.set ?_ ?_ _); focus (dsimp only; omega)) | with_reducible refine Ext.trans ?_ hb9 | with_reducible refine Ext.trans ?_ hb8 | with_reducible refine Ext.trans ?_ hb7 | with_reducible refine Ext.trans ?_ hb6 | with_reducible refine Ext.trans ?_ hb5 | with_reducible refine Ext.trans ?_ hb4 | with_reducible refine Ext.trans ?_ hb3 | with_reducible refine Ext.trans ?_ hb2 | with_reducible refine Ext.trans ?_ hb1 | with_reducible refine Ext.trans ?_ hw))))) hn) ?_
        rintro e w1 ⟨rfl, hb1⟩
        obtain ⟨hc1, hf1, hz1⟩ := bcell3 hb1
        try simp at hz1
        have hz1_0 : w.heap.size < w1.heap.size := by omega
        go_wp2
        go_loopg [22] 96 (fun g i wr => ∃ k : Nat, g = 96 - k ∧ k ≤ 96 ∧ i = .int .i64 k ∧ Ext w wr ∧ BoxAt wr w1.heap.size #[.int .u64 (lo (pickTo (lonP xs) k)), .int .u64 (hi (pickTo (lonP xs) k))] 26 ∧ BoxAt wr w.heap.size #[.int .u64 0, .int .u64 0] 26)
        case atStart => exact ⟨0, by omega, by omega, rfl, by ((repeat (first | with_reducible exact Ext.refl _ | with_reducible exact hw | with_reducible exact hb9 | with_reducible exact hb8 | with_reducible exact hb7 | with_reducible exact hb6 | with_reducible exact hb5 | with_reducible exact hb4 | with_reducible exact hb3 | with_reducible exact hb2 | with_reducible exact hb1 | with_reducible refine Ext.alloc ?_ _ | with_reducible refine Ext.drew ?_ | ((with_reducible refine Ext.set ?_ ?_ _); focus (dsimp only; omega)) | with_reducible refine Ext.trans ?_ hb9 | with_reducible refine Ext.trans ?_ hb8 | with_reducible refine Ext.trans ?_ hb7 | with_reducible refine Ext.trans ?_ hb6 | with_reducible refine Ext.trans ?_ hb5 | with_reducible refine Ext.trans ?_ hb4 | with_reducible refine Ext.trans ?_ hb3 | with_reducible refine Ext.trans ?_ hb2 | with_reducible refine Ext.trans ?_ hb1 | with_reducible refine Ext.trans ?_ hw))), by rw [pickTo_zero, lo_zero, hi_zero]; exact BoxAt.new' rfl, ((BoxAt.new' rfl).ext hb1).alloc _⟩
        case round =>
          obtain ⟨k, hg, hk, rfl, hw, hB, hC⟩ := hrel
          by_cases hkl : k < 96
          · have g1 := votesN_ge k xs
            have g2 := votesN_le k xs
            cases hp : lonP xs k with
            | true =>
              have hq := hp
              simp only [lonP, decide_eq_true_eq] at hq
              by_cases hq1 : votesN k xs = 1
              · go_wp2_with fail
                refine Calls.mono (impl_votes xs A cap k (by omega) (by omega) _ (hR.ext hw) hn) ?_
                rintro e w2 ⟨rfl, hb2⟩
                have c0 : w2.cell? ⟨w1.heap.size, 0, none⟩ = some (.int .u64 (lo (pickTo (lonP xs) k))) := (hB.ext hb2).cell 0
                have c1 : w2.cell? ⟨w1.heap.size, 1, none⟩ = some (.int .u64 (hi (pickTo (lonP xs) k))) := (hB.ext hb2).cell 1
                have l2 := (hB.ext hb2).lt
                have y0 := (hB.ext hb2).frozen 0
                have y1 := (hB.ext hb2).frozen 1
                go_wp2_with fail
                refine Calls.mono (impl_with _ [(k : Int)] _ 1 _ (Rd.lit encI64 _ [(k : Int)] _ _ (by simp) rfl) (by simp) (by simp; omega)) ?_
                rintro e w3 ⟨rfl, hb3⟩
                have hB3 := ((hB.ext hb2).alloc _).ext hb3
                have f0 := hB3.frozen 0
                have f1 := hB3.frozen 1
                have d0 := hB3.cell 0
                have d1 := hB3.cell 1
                go_wp2
                go_roundg (96 - (k + 1))
                case rel => exact ⟨k + 1, rfl, hkl, rfl, by ((repeat (first | with_reducible exact Ext.refl _ | with_reducible exact hw | with_reducible exact hb9 | with_reducible exact hb8 | with_reducible exact hb7 | with_reducible exact hb6 | with_reducible exact hb5 | with_reducible exact hb4 | with_reducible exact hb3 | with_reducible exact hb2 | with_reducible exact hb1 | with_reducible refine Ext.alloc ?_ _ | with_reducible refine Ext.drew ?_ | ((with_reducible refine Ext.set ?_ ?_ _); focus (dsimp only; omega)) | with_reducible refine Ext.trans ?_ hb9 | with_reducible refine Ext.trans ?_ hb8 | with_reducible refine Ext.trans ?_ hb7 | with_reducible refine Ext.trans ?_ hb6 | with_reducible refine Ext.trans ?_ hb5 | with_reducible refine Ext.trans ?_ hb4 | with_reducible refine Ext.trans ?_ hb3 | with_reducible refine Ext.trans ?_ hb2 | with_reducible refine Ext.trans ?_ hb1 | with_reducible refine Ext.trans ?_ hw))), by rw [pickTo_hit _ k hp]; exact (hB3.set 0 _).set 1 _, (((((hC.ext hb2).alloc _).ext hb3).setOther (by simp; omega) _).setOther (by simp; omega) _)⟩
                case measure => omega
              · have hq := hq.resolve_left hq1
                go_wp2_with fail
                refine Calls.mono (impl_votes xs A cap k (by omega) (by omega) _ (hR.ext hw) hn) ?_
                rintro e w2 ⟨rfl, hb2⟩
                have c0 : w2.cell? ⟨w1.heap.size, 0, none⟩ = some (.int .u64 (lo (pickTo (lonP xs) k))) := (hB.ext hb2).cell 0
                have c1 : w2.cell? ⟨w1.heap.size, 1, none⟩ = some (.int .u64 (hi (pickTo (lonP xs) k))) := (hB.ext hb2).cell 1
                have l2 := (hB.ext hb2).lt
                have y0 := (hB.ext hb2).frozen 0
                have y1 := (hB.ext hb2).frozen 1
                go_wp2_with fail
                refine Calls.mono (impl_with _ [(k : Int)] _ 1 _ (Rd.lit encI64 _ [(k : Int)] _ _ (by simp) rfl) (by simp) (by simp; omega)) ?_
                rintro e w3 ⟨rfl, hb3⟩
                have hB3 := ((hB.ext hb2).alloc _).ext hb3
                have f0 := hB3.frozen 0
                have f1 := hB3.frozen 1
                have d0 := hB3.cell 0
                have d1 := hB3.cell 1
                go_wp2
                go_roundg (96 - (k + 1))
                case rel => exact ⟨k + 1, rfl, hkl, rfl, by ((repeat (first | with_reducible exact Ext.refl _ | with_reducible exact hw | with_reducible exact hb9 | with_reducible exact hb8 | with_reducible exact hb7 | with_reducible exact hb6 | with_reducible exact hb5 | with_reducible exact hb4 | with_reducible exact hb3 | with_reducible exact hb2 | with_reducible exact hb1 | with_reducible refine Ext.alloc ?_ _ | with_reducible refine Ext.drew ?_ | ((with_reducible refine Ext.set ?_ ?_ _); focus (dsimp only; omega)) | with_reducible refine Ext.trans ?_ hb9 | with_reducible refine Ext.trans ?_ hb8 | with_reducible refine Ext.trans ?_ hb7 | with_reducible refine Ext.trans ?_ hb6 | with_reducible refine Ext.trans ?_ hb5 | with_reducible refine Ext.trans ?_ hb4 | with_reducible refine Ext.trans ?_ hb3 | with_reducible refine Ext.trans ?_ hb2 | with_reducible refine Ext.trans ?_ hb1 | with_reducible refine Ext.trans ?_ hw))), by rw [pickTo_hit _ k hp]; exact (hB3.set 0 _).set 1 _, (((((hC.ext hb2).alloc _).ext hb3).setOther (by simp; omega) _).setOther (by simp; omega) _)⟩
                case measure => omega
            | false =>
              have hq := hp
              simp only [lonP, decide_eq_false_iff_not] at hq
              rw [not_or] at hq
              obtain ⟨hq1, hq2⟩ := hq
              have e8 : (votesN k xs == (xs.length : Int) - 1) = false := by simpa using hq2
              have e7 : (votesN k xs == 1) = false := by simpa using hq1
              go_wp2_with fail
              refine Calls.mono (impl_votes xs A cap k (by omega) (by omega) _ (hR.ext hw) hn) ?_
              rintro e w2 ⟨rfl, hb2⟩
              go_wp2
              go_roundg (96 - (k + 1))
              case rel => exact ⟨k + 1, rfl, hkl, rfl, by ((repeat (first | with_reducible exact Ext.refl _ | with_reducible exact hw | with_reducible exact hb9 | with_reducible exact hb8 | with_reducible exact hb7 | with_reducible exact hb6 | with_reducible exact hb5 | with_reducible exact hb4 | with_reducible exact hb3 | with_reducible exact hb2 | with_reducible exact hb1 | with_reducible refine Ext.alloc ?_ _ | with_reducible refine Ext.drew ?_ | ((with_reducible refine Ext.set ?_ ?_ _); focus (dsimp only; omega)) | with_reducible refine Ext.trans ?_ hb9 | with_reducible refine Ext.trans ?_ hb8 | with_reducible refine Ext.trans ?_ hb7 | with_reducible refine Ext.trans ?_ hb6 | with_reducible refine Ext.trans ?_ hb5 | with_reducible refine Ext.trans ?_ hb4 | with_reducible refine Ext.trans ?_ hb3 | with_reducible refine Ext.trans ?_ hb2 | with_reducible refine Ext.trans ?_ hb1 | with_reducible refine Ext.trans ?_ hw))), by rw [pickTo_miss _ k hp]; exact hB.ext hb2, hC.ext hb2⟩
              case measure => omega
          · obtain rfl : k = 96 := by omega
            have c0 : wr.cell? ⟨w1.heap.size, 0, none⟩ = some (.int .u64 (lo (pickTo (lonP xs) 96))) := hB.cell 0
            have c1 : wr.cell? ⟨w1.heap.size, 1, none⟩ = some (.int .u64 (hi (pickTo (lonP xs) 96))) := hB.cell 1
            have z0 : wr.cell? ⟨w.heap.size, 0, none⟩ = some (.int .u64 0) := hC.cell 0
            have z1 : wr.cell? ⟨w.heap.size, 1, none⟩ = some (.int .u64 0) := hC.cell 1
            have y0 := hC.frozen 0
            have y1 := hC.frozen 1
            go_wp2
            refine bodyPost_ret (v := .tuple #[.agg #[.int .u64 (lo (pickTo (lonP xs) 96)), .int .u64 (hi (pickTo (lonP xs) 96))], .int .i64 0]) (by simp [results, Try.results7, go_sem, z0, z1]) rfl ⟨rfl, ?_⟩
            (repeat (first | with_reducible exact Ext.refl _ | with_reducible exact hw | with_reducible exact hb9 | with_reducible exact hb8 | with_reducible exact hb7 | with_reducible exact hb6 | with_reducible exact hb5 | with_reducible exact hb4 | with_reducible exact hb3 | with_reducible exact hb2 | with_reducible exact hb1 | with_reducible refine Ext.alloc ?_ _ | with_reducible refine Ext.drew ?_ | ((with_reducible refine Ext.set ?_ ?_ _); focus (dsimp only; omega)) | with_reducible refine Ext.trans ?_ hb9 | with_reducible refine Ext.trans ?_ hb8 | with_reducible refine Ext.trans ?_ hb7 | with_reducible refine Ext.trans ?_ hb6 | with_reducible refine Ext.trans ?_ hb5 | with_reducible refine Ext.trans ?_ hb4 | with_reducible refine Ext.trans ?_ hb3 | with_reducible refine Ext.trans ?_ hb2 | with_reducible refine Ext.trans ?_ hb1 | with_reducible refine Ext.trans ?_ hw))
set_option maxHeartbeats 1000000 in
theorem spec_LonelyHoles (xs : List Mask) (A : Option Addr) (cap : Nat) (w : World) (hR : Rd encMask w A xs) (hn : xs.length ≤ 1048576) :
    Calls Try.prog 12 #[.slice A xs.length cap] w fun e w' => e = .returned (.tuple #[.agg #[.int .u64 (lo (lonF xs).1), .int .u64 (hi (lonF xs).1)], .int .i64 (lonF xs).2]) ∧ Ext w w' := by
  have hx := @ExtOf.cell
  by_cases hM : masksCode xs = 0
  · have hM0 := hM
    have h15 := (masksCode_le hM).2
    by_cases hs : xs.length < 3
    · have hv : lonF xs = (0, 6) := by rw [lonF, if_pos hM0, if_pos hs]
      rw [hv]
      clear hv
      go_enter Try.func12, Try.ntmps12
      go_wp2_with fail
      refine Calls.mono (spec_l04Masks xs A cap _ (hR.ext (by ((repeat (first | with_reducible exact Ext.refl _ | with_reducible exact hw | with_reducible exact hb9 | with_reducible exact hb8 | with_reducible exact hb7 | with_reducible exact hb6 | with_reducible exact hb5 | with_reducible exact hb4 | with_reducible exact hb3 | with_reducible exact hb2 | with_reducible exact hb1 | with_reducible refine Ext.alloc ?_ _ | with_reducible refine Ext.drew ?_ | ((with_reducible refine Ext.set ?_ ?_ _); focus (dsimp only; omega)) | with_reducible refine Ext.trans ?_ hb9 | with_reducible refine Ext.trans ?_ hb8 | with_reducible refine Ext.trans ?_ hb7 | with_reducible refine Ext.trans ?_ hb6 | with_reducible refine Ext.trans ?_ hb5 | with_reducible refine Ext.trans ?_ hb4 | with_reducible refine Ext.trans ?_ hb3 | with_reducible refine Ext.trans ?_ hb2 | with_reducible refine Ext.trans ?_ hb1 | with_reducible refine Ext.trans ?_ hw))))) hn) ?_
      rintro e w1 ⟨rfl, hb1⟩
      obtain ⟨hc1, hf1, hz1⟩ := bcell3 hb1
      try simp at hz1
      have hz1_0 : w.heap.size < w1.heap.size := by omega
      go_wp2
      have c0 : w1.cell? ⟨w.heap.size, 0, none⟩ = some (.int .u64 0) := by go_simp
      have c1 : w1.cell? ⟨w.heap.size, 1, none⟩ = some (.int .u64 0) := by go_simp
      try clear hc1 hf1
      try clear hc2 hf2
      try clear hc3 hf3
      try clear hc4 hf4
      try clear hc5 hf5
      try clear hc6 hf6
      try clear hc7 hf7
      try clear hc8 hf8
      try clear hc9 hf9
      refine bodyPost_ret (v := .tuple #[.agg #[.int .u64 0, .int .u64 0], .int .i64 6]) (by simp [results, Try.results12, go_sem, c0, c1]) rfl ⟨rfl, ?_⟩
      (repeat (first | with_reducible exact Ext.refl _ | with_reducible exact hw | with_reducible exact hb9 | with_reducible exact hb8 | with_reducible exact hb7 | with_reducible exact hb6 | with_reducible exact hb5 | with_reducible exact hb4 | with_reducible exact hb3 | with_reducible exact hb2 | with_reducible exact hb1 | with_reducible refine Ext.alloc ?_ _ | with_reducible refine Ext.drew ?_ | ((with_reducible refine Ext.set ?_ ?_ _); focus (dsimp only; omega)) | with_reducible refine Ext.trans ?_ hb9 | with_reducible refine Ext.trans ?_ hb8 | with_reducible refine Ext.trans ?_ hb7 | with_reducible refine Ext.trans ?_ hb6 | with_reducible refine Ext.trans ?_ hb5 | with_reducible refine Ext.trans ?_ hb4 | with_reducible refine Ext.trans ?_ hb3 | with_reducible refine Ext.trans ?_ hb2 | with_reducible refine Ext.trans ?_ hb1 | with_reducible refine Ext.trans ?_ hw))
    · have hv : lonF xs = (pickTo (lonP xs) 96, 0) := by rw [lonF, if_pos hM0, if_neg hs]
      rw [hv]
      clear hv
      go_enter Try.func12, Try.ntmps12
      go_wp2_with fail
      refine Calls.mono (spec_l04Masks xs A cap _ (hR.ext (by ((repeat (first | with_reducible exact Ext.refl _ | with_reducible exact hw | with_reducible exact hb9 | with_reducible exact hb8 | with_reducible exact hb7 | with_reducible exact hb6 | with_reducible exact hb5 | with_reducible exact hb4 | with_reducible exact hb3 | with_reducible exact hb2 | with_reducible exact hb1 | with_reducible refine Ext.alloc ?_ _ | with_reducible refine Ext.drew ?_ | ((with_reducible refine Ext.set ?_ ?_ _); focus (dsimp only; omega)) | with_reducible refine Ext.trans ?_ hb9 | with_reducible refine Ext.trans ?_ hb8 | with_reducible refine Ext.trans ?_ hb7 | with_reducible refine Ext.trans ?_ hb6 | with_reducible refine Ext.trans ?_ hb5 | with_reducible refine Ext.trans ?_ hb4 | with_reducible refine Ext.trans ?_ hb3 | with_reducible refine Ext.trans ?_ hb2 | with_reducible refine Ext.trans ?_ hb1 | with_reducible refine Ext.trans ?_ hw))))) hn) ?_
      rintro e w1 ⟨rfl, hb1⟩
      obtain ⟨hc1, hf1, hz1⟩ := bcell3 hb1
      try simp at hz1
      have hz1_0 : w.heap.size < w1.heap.size := by omega
      go_wp2
      go_loopg [6] 96 (fun g i wr => ∃ k : Nat, g = 96 - k ∧ k ≤ 96 ∧ i = .int .i64 k ∧ Ext w wr ∧ BoxAt wr w1.heap.size #[.int .u64 (lo (pickTo (lonP xs) k)), .int .u64 (hi (pickTo (lonP xs) k))] 26 ∧ BoxAt wr w.heap.size #[.int .u64 0, .int .u64 0] 26)
      case atStart => exact ⟨0, by omega, by omega, rfl, by ((repeat (first | with_reducible exact Ext.refl _ | with_reducible exact hw | with_reducible exact hb9 | with_reducible exact hb8 | with_reducible exact hb7 | with_reducible exact hb6 | with_reducible exact hb5 | with_reducible exact hb4 | with_reducible exact hb3 | with_reducible exact hb2 | with_reducible exact hb1 | with_reducible refine Ext.alloc ?_ _ | with_reducible refine Ext.drew ?_ | ((with_reducible refine Ext.set ?_ ?_ _); focus (dsimp only; omega)) | with_reducible refine Ext.trans ?_ hb9 | with_reducible refine Ext.trans ?_ hb8 | with_reducible refine Ext.trans ?_ hb7 | with_reducible refine Ext.trans ?_ hb6 | with_reducible refine Ext.trans ?_ hb5 | with_reducible refine Ext.trans ?_ hb4 | with_reducible refine Ext.trans ?_ hb3 | with_reducible refine Ext.trans ?_ hb2 | with_reducible refine Ext.trans ?_ hb1 | with_reducible refine Ext.trans ?_ hw))), by rw [pickTo_zero, lo_zero, hi_zero]; exact BoxAt.new' rfl, ((BoxAt.new' rfl).ext hb1).alloc _⟩
      case round =>
        obtain ⟨k, hg, hk, rfl, hw, hB, hC⟩ := hrel
        by_cases hkl : k < 96
        · have g1 := votesN_ge k xs
          have g2 := votesN_le k xs
          cases hp : lonP xs k with
          | true =>
            have hq := hp
            simp only [lonP, decide_eq_true_eq] at hq
            by_cases hq1 : votesN k xs = 1
            · go_wp2_with fail
              refine Calls.mono (spec_l04Votes xs A cap k (by omega) (by omega) _ (hR.ext hw) hn) ?_
              rintro e w2 ⟨rfl, hb2⟩
              have c0 : w2.cell? ⟨w1.heap.size, 0, none⟩ = some (.int .u64 (lo (pickTo (lonP xs) k))) := (hB.ext hb2).cell 0
              have c1 : w2.cell? ⟨w1.heap.size, 1, none⟩ = some (.int .u64 (hi (pickTo (lonP xs) k))) := (hB.ext hb2).cell 1
              have l2 := (hB.ext hb2).lt
              have y0 := (hB.ext hb2).frozen 0
              have y1 := (hB.ext hb2).frozen 1
              go_wp2
              refine wp_region_ext_tail 4 4 (by kernel_rfl) (by kernel_rfl) (by intro d _ _ _ _ h; cases d <;> exact h) ?_
              simp only [List.take_succ_cons, List.take_zero, List.drop_succ_cons, List.drop_zero]
              repeat (first | go_big_quiet_step ((first | (go_at_call 18; with_reducible exact Calls.ext_of (spec_l01Bit k (by omega) (by omega) _)) | (go_at_call 17; with_reducible exact Calls.ext_of (spec_l01Join _ _ _)))) | quiet_step ((first | (go_at_call 18; with_reducible exact Calls.ext_of (spec_l01Bit k (by omega) (by omega) _)) | (go_at_call 17; with_reducible exact Calls.ext_of (spec_l01Join _ _ _)))))
              refine wpQuiet_nil ?_
              intro w3 hq3
              have hb3 := ext_of_class hq3
              clear hq3
              obtain ⟨hc3, hf3, hz3⟩ := bcell3 hb3
              try simp at hz3
              have hB3 := (hB.ext hb2).ext hb3
              have f0 := hB3.frozen 0
              have f1 := hB3.frozen 1
              have d0 := hB3.cell 0
              have d1 := hB3.cell 1
              go_wp2
              go_roundg (96 - (k + 1))
              case rel => exact ⟨k + 1, rfl, hkl, rfl, by ((repeat (first | with_reducible exact Ext.refl _ | with_reducible exact hw | with_reducible exact hb9 | with_reducible exact hb8 | with_reducible exact hb7 | with_reducible exact hb6 | with_reducible exact hb5 | with_reducible exact hb4 | with_reducible exact hb3 | with_reducible exact hb2 | with_reducible exact hb1 | with_reducible refine Ext.alloc ?_ _ | with_reducible refine Ext.drew ?_ | ((with_reducible refine Ext.set ?_ ?_ _); focus (dsimp only; omega)) | with_reducible refine Ext.trans ?_ hb9 | with_reducible refine Ext.trans ?_ hb8 | with_reducible refine Ext.trans ?_ hb7 | with_reducible refine Ext.trans ?_ hb6 | with_reducible refine Ext.trans ?_ hb5 | with_reducible refine Ext.trans ?_ hb4 | with_reducible refine Ext.trans ?_ hb3 | with_reducible refine Ext.trans ?_ hb2 | with_reducible refine Ext.trans ?_ hb1 | with_reducible refine Ext.trans ?_ hw))), by rw [pickTo_hit _ k hp]; exact (hB3.set 0 _).set 1 _, ((((hC.ext hb2).ext hb3).setOther (by simp; omega) _).setOther (by simp; omega) _)⟩
              case measure => omega
            · have hq := hq.resolve_left hq1
              go_wp2_with fail
              refine Calls.mono (spec_l04Votes xs A cap k (by omega) (by omega) _ (hR.ext hw) hn) ?_
              rintro e w2 ⟨rfl, hb2⟩
              have c0 : w2.cell? ⟨w1.heap.size, 0, none⟩ = some (.int .u64 (lo (pickTo (lonP xs) k))) := (hB.ext hb2).cell 0
              have c1 : w2.cell? ⟨w1.heap.size, 1, none⟩ = some (.int .u64 (hi (pickTo (lonP xs) k))) := (hB.ext hb2).cell 1
              have l2 := (hB.ext hb2).lt
              have y0 := (hB.ext hb2).frozen 0
              have y1 := (hB.ext hb2).frozen 1
              go_wp2
              refine wp_region_ext_tail 4 4 (by kernel_rfl) (by kernel_rfl) (by intro d _ _ _ _ h; cases d <;> exact h) ?_
              simp only [List.take_succ_cons, List.take_zero, List.drop_succ_cons, List.drop_zero]
              repeat (first | go_big_quiet_step ((first | (go_at_call 18; with_reducible exact Calls.ext_of (spec_l01Bit k (by omega) (by omega) _)) | (go_at_call 17; with_reducible exact Calls.ext_of (spec_l01Join _ _ _)))) | quiet_step ((first | (go_at_call 18; with_reducible exact Calls.ext_of (spec_l01Bit k (by omega) (by omega) _)) | (go_at_call 17; with_reducible exact Calls.ext_of (spec_l01Join _ _ _)))))
              refine wpQuiet_nil ?_
              intro w3 hq3
              have hb3 := ext_of_class hq3
              clear hq3
              obtain ⟨hc3, hf3, hz3⟩ := bcell3 hb3
              try simp at hz3
              have hB3 := (hB.ext hb2).ext hb3
              have f0 := hB3.frozen 0
              have f1 := hB3.frozen 1
              have d0 := hB3.cell 0
              have d1 := hB3.cell 1
              go_wp2
              go_roundg (96 - (k + 1))
              case rel => exact ⟨k + 1, rfl, hkl, rfl, by ((repeat (first | with_reducible exact Ext.refl _ | with_reducible exact hw | with_reducible exact hb9 | with_reducible exact hb8 | with_reducible exact hb7 | with_reducible exact hb6 | with_reducible exact hb5 | with_reducible exact hb4 | with_reducible exact hb3 | with_reducible exact hb2 | with_reducible exact hb1 | with_reducible refine Ext.alloc ?_ _ | with_reducible refine Ext.drew ?_ | ((with_reducible refine Ext.set ?_ ?_ _); focus (dsimp only; omega)) | with_reducible refine Ext.trans ?_ hb9 | with_reducible refine Ext.trans ?_ hb8 | with_reducible refine Ext.trans ?_ hb7 | with_reducible refine Ext.trans ?_ hb6 | with_reducible refine Ext.trans ?_ hb5 | with_reducible refine Ext.trans ?_ hb4 | with_reducible refine Ext.trans ?_ hb3 | with_reducible refine Ext.trans ?_ hb2 | with_reducible refine Ext.trans ?_ hb1 | with_reducible refine Ext.trans ?_ hw))), by rw [pickTo_hit _ k hp]; exact (hB3.set 0 _).set 1 _, ((((hC.ext hb2).ext hb3).setOther (by simp; omega) _).setOther (by simp; omega) _)⟩
              case measure => omega
          | false =>
            have hq := hp
            simp only [lonP, decide_eq_false_iff_not] at hq
            rw [not_or] at hq
            obtain ⟨hq1, hq2⟩ := hq
            have e8 : (votesN k xs == (xs.length : Int) - 1) = false := by simpa using hq2
            have e7 : (votesN k xs == 1) = false := by simpa using hq1
            go_wp2_with fail
            refine Calls.mono (spec_l04Votes xs A cap k (by omega) (by omega) _ (hR.ext hw) hn) ?_
            rintro e w2 ⟨rfl, hb2⟩
            go_wp2
            go_roundg (96 - (k + 1))
            case rel => exact ⟨k + 1, rfl, hkl, rfl, by ((repeat (first | with_reducible exact Ext.refl _ | with_reducible exact hw | with_reducible exact hb9 | with_reducible exact hb8 | with_reducible exact hb7 | with_reducible exact hb6 | with_reducible exact hb5 | with_reducible exact hb4 | with_reducible exact hb3 | with_reducible exact hb2 | with_reducible exact hb1 | with_reducible refine Ext.alloc ?_ _ | with_reducible refine Ext.drew ?_ | ((with_reducible refine Ext.set ?_ ?_ _); focus (dsimp only; omega)) | with_reducible refine Ext.trans ?_ hb9 | with_reducible refine Ext.trans ?_ hb8 | with_reducible refine Ext.trans ?_ hb7 | with_reducible refine Ext.trans ?_ hb6 | with_reducible refine Ext.trans ?_ hb5 | with_reducible refine Ext.trans ?_ hb4 | with_reducible refine Ext.trans ?_ hb3 | with_reducible refine Ext.trans ?_ hb2 | with_reducible refine Ext.trans ?_ hb1 | with_reducible refine Ext.trans ?_ hw))), by rw [pickTo_miss _ k hp]; exact hB.ext hb2, hC.ext hb2⟩
            case measure => omega
        · obtain rfl : k = 96 := by omega
          have c0 : wr.cell? ⟨w1.heap.size, 0, none⟩ = some (.int .u64 (lo (pickTo (lonP xs) 96))) := hB.cell 0
          have c1 : wr.cell? ⟨w1.heap.size, 1, none⟩ = some (.int .u64 (hi (pickTo (lonP xs) 96))) := hB.cell 1
          have z0 : wr.cell? ⟨w.heap.size, 0, none⟩ = some (.int .u64 0) := hC.cell 0
          have z1 : wr.cell? ⟨w.heap.size, 1, none⟩ = some (.int .u64 0) := hC.cell 1
          have y0 := hC.frozen 0
          have y1 := hC.frozen 1
          go_wp2
          refine bodyPost_ret (v := .tuple #[.agg #[.int .u64 (lo (pickTo (lonP xs) 96)), .int .u64 (hi (pickTo (lonP xs) 96))], .int .i64 0]) (by simp [results, Try.results12, go_sem, z0, z1]) rfl ⟨rfl, ?_⟩
          (repeat (first | with_reducible exact Ext.refl _ | with_reducible exact hw | with_reducible exact hb9 | with_reducible exact hb8 | with_reducible exact hb7 | with_reducible exact hb6 | with_reducible exact hb5 | with_reducible exact hb4 | with_reducible exact hb3 | with_reducible exact hb2 | with_reducible exact hb1 | with_reducible refine Ext.alloc ?_ _ | with_reducible refine Ext.drew ?_ | ((with_reducible refine Ext.set ?_ ?_ _); focus (dsimp only; omega)) | with_reducible refine Ext.trans ?_ hb9 | with_reducible refine Ext.trans ?_ hb8 | with_reducible refine Ext.trans ?_ hb7 | with_reducible refine Ext.trans ?_ hb6 | with_reducible refine Ext.trans ?_ hb5 | with_reducible refine Ext.trans ?_ hb4 | with_reducible refine Ext.trans ?_ hb3 | with_reducible refine Ext.trans ?_ hb2 | with_reducible refine Ext.trans ?_ hb1 | with_reducible refine Ext.trans ?_ hw))
  · have hv : lonF xs = (0, (masksCode xs)) := by rw [lonF, if_neg hM]
    rw [hv]
    clear hv
    go_enter Try.func12, Try.ntmps12
    go_wp2_with fail
    refine Calls.mono (spec_l04Masks xs A cap _ (hR.ext (by ((repeat (first | with_reducible exact Ext.refl _ | with_reducible exact hw | with_reducible exact hb9 | with_reducible exact hb8 | with_reducible exact hb7 | with_reducible exact hb6 | with_reducible exact hb5 | with_reducible exact hb4 | with_reducible exact hb3 | with_reducible exact hb2 | with_reducible exact hb1 | with_reducible refine Ext.alloc ?_ _ | with_reducible refine Ext.drew ?_ | ((with_reducible refine Ext.set ?_ ?_ _); focus (dsimp only; omega)) | with_reducible refine Ext.trans ?_ hb9 | with_reducible refine Ext.trans ?_ hb8 | with_reducible refine Ext.trans ?_ hb7 | with_reducible refine Ext.trans ?_ hb6 | with_reducible refine Ext.trans ?_ hb5 | with_reducible refine Ext.trans ?_ hb4 | with_reducible refine Ext.trans ?_ hb3 | with_reducible refine Ext.trans ?_ hb2 | with_reducible refine Ext.trans ?_ hb1 | with_reducible refine Ext.trans ?_ hw))))) hn) ?_
    rintro e w1 ⟨rfl, hb1⟩
    obtain ⟨hc1, hf1, hz1⟩ := bcell3 hb1
    try simp at hz1
    have hz1_0 : w.heap.size < w1.heap.size := by omega
    go_wp2
    have c0 : w1.cell? ⟨w.heap.size, 0, none⟩ = some (.int .u64 0) := by go_simp
    have c1 : w1.cell? ⟨w.heap.size, 1, none⟩ = some (.int .u64 0) := by go_simp
    try clear hc1 hf1
    try clear hc2 hf2
    try clear hc3 hf3
    try clear hc4 hf4
    try clear hc5 hf5
    try clear hc6 hf6
    try clear hc7 hf7
    try clear hc8 hf8
    try clear hc9 hf9
    refine bodyPost_ret (v := .tuple #[.agg #[.int .u64 0, .int .u64 0], .int .i64 (masksCode xs)]) (by simp [results, Try.results12, go_sem, c0, c1]) rfl ⟨rfl, ?_⟩
    (repeat (first | with_reducible exact Ext.refl _ | with_reducible exact hw | with_reducible exact hb9 | with_reducible exact hb8 | with_reducible exact hb7 | with_reducible exact hb6 | with_reducible exact hb5 | with_reducible exact hb4 | with_reducible exact hb3 | with_reducible exact hb2 | with_reducible exact hb1 | with_reducible refine Ext.alloc ?_ _ | with_reducible refine Ext.drew ?_ | ((with_reducible refine Ext.set ?_ ?_ _); focus (dsimp only; omega)) | with_reducible refine Ext.trans ?_ hb9 | with_reducible refine Ext.trans ?_ hb8 | with_reducible refine Ext.trans ?_ hb7 | with_reducible refine Ext.trans ?_ hb6 | with_reducible refine Ext.trans ?_ hb5 | with_reducible refine Ext.trans ?_ hb4 | with_reducible refine Ext.trans ?_ hb3 | with_reducible refine Ext.trans ?_ hb2 | with_reducible refine Ext.trans ?_ hb1 | with_reducible refine Ext.trans ?_ hw))
