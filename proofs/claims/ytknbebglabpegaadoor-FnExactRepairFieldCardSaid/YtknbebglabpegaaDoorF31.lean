/-
  Contracts of RepairField, program's and reference's.
-/
import Derived.Test.YtknbebglabpegaaDoorF30
set_option linter.unusedVariables false
set_option linter.unusedSimpArgs false
set_option maxRecDepth 100000
namespace Go.Proofs.YtknbebglabpegaaDoor
open Go.RowKit
set_option maxHeartbeats 2000000 in
theorem impl_RepairField (nm : ByteArray) (kd st sz : Int) (hok : Fld.ok ⟨nm, kd, st, sz⟩) (hnmx : nm.size ≤ 9223372036854775807) (m : Mask) (xs : List Mask) (A : Option Addr) (cap : Nat) (w : World) (hR : Rd encMask w A xs) (hn : xs.length ≤ 1048576) :
    Calls Tryd.prog 27 #[.agg #[.string nm, .int .i8 kd, .int .i16 st, .int .i16 sz], .agg #[.int .u64 (lo m), .int .u64 (hi m)], .slice A xs.length cap] w fun e w' => e = .returned (.tuple #[.agg #[.int .u64 (lo (repairF ⟨nm, kd, st, sz⟩ m xs).1), .int .u64 (hi (repairF ⟨nm, kd, st, sz⟩ m xs).1)], .int .i64 (repairF ⟨nm, kd, st, sz⟩ m xs).2.1, .int .i64 (repairF ⟨nm, kd, st, sz⟩ m xs).2.2]) ∧ Ext w w' := by
  have hx := @ExtOf.cell
  obtain ⟨⟨a0, a1⟩, ⟨a2, a3⟩, a4, a5⟩ := hok
  dsimp only at a0 a1 a2 a3 a4 a5
  have hif := fun W => impl_isField nm kd st sz a0 a1 a2 a3 a4 a5 hnmx W
  cases hf : fldB ⟨nm, kd, st, sz⟩ with
  | false =>
    have hv := hd (repair_bad (f := ⟨nm, kd, st, sz⟩) (m := m) (xs := xs) (by rw [hf]; rfl))
    rw [hf] at hif
    go_enter Tryd.func27, Tryd.ntmps27
    go_wp2_with fail
    refine Calls.mono (hif _) ?_
    rintro e w1 ⟨rfl, hb1⟩
    obtain ⟨hc1, hf1, hz1⟩ := bcell3 hb1
    try simp at hz1
    have hz1_0 : w.heap.size < w1.heap.size := by omega
    have hz1_1 : w.heap.size + 1 < w1.heap.size := by omega
    have hz1_2 : w.heap.size + 1 + 1 < w1.heap.size := by omega
    go_wp2
    rw [hv.out]
    have c0 : w1.cell? ⟨w.heap.size + 1 + 1, 0, none⟩ = some (.int .u64 0) := by go_simp
    have c1 : w1.cell? ⟨w.heap.size + 1 + 1, 1, none⟩ = some (.int .u64 0) := by go_simp
    try clear hc1 hf1
    try clear hc2 hf2
    try clear hc3 hf3
    try clear hc4 hf4
    try clear hc5 hf5
    try clear hc6 hf6
    try clear hc7 hf7
    try clear hc8 hf8
    try clear hc9 hf9
    refine bodyPost_ret (v := .tuple #[.agg #[.int .u64 0, .int .u64 0], .int .i64 0, .int .i64 1]) (by simp [results, Tryd.results27, go_sem, c0, c1]) rfl ⟨rfl, ?_⟩
    (repeat (first | with_reducible exact Ext.refl _ | with_reducible exact hw | with_reducible exact hb9 | with_reducible exact hb8 | with_reducible exact hb7 | with_reducible exact hb6 | with_reducible exact hb5 | with_reducible exact hb4 | with_reducible exact hb3 | with_reducible exact hb2 | with_reducible exact hb1 | with_reducible refine Ext.alloc ?_ _ | with_reducible refine Ext.drew ?_ | ((with_reducible refine Ext.set ?_ ?_ _); focus (dsimp only; omega)) | with_reducible refine Ext.trans ?_ hb9 | with_reducible refine Ext.trans ?_ hb8 | with_reducible refine Ext.trans ?_ hb7 | with_reducible refine Ext.trans ?_ hb6 | with_reducible refine Ext.trans ?_ hb5 | with_reducible refine Ext.trans ?_ hb4 | with_reducible refine Ext.trans ?_ hb3 | with_reducible refine Ext.trans ?_ hb2 | with_reducible refine Ext.trans ?_ hb1 | with_reducible refine Ext.trans ?_ hw))
  | true =>
    rw [hf] at hif
    have him := fun W => impl_isMask m W
    cases hm : isMaskB m with
    | false =>
      have hv := hd (repair_bad (f := ⟨nm, kd, st, sz⟩) (m := m) (xs := xs) (by rw [hf, hm]; rfl))
      rw [hm] at him
      go_enter Tryd.func27, Tryd.ntmps27
      go_wp2_with fail
      refine Calls.mono (hif _) ?_
      rintro e w1 ⟨rfl, hb1⟩
      obtain ⟨hc1, hf1, hz1⟩ := bcell3 hb1
      try simp at hz1
      have hz1_0 : w.heap.size < w1.heap.size := by omega
      have hz1_1 : w.heap.size + 1 < w1.heap.size := by omega
      have hz1_2 : w.heap.size + 1 + 1 < w1.heap.size := by omega
      go_wp2_with fail
      refine Calls.mono (him _) ?_
      rintro e w2 ⟨rfl, hb2⟩
      obtain ⟨hc2, hf2, hz2⟩ := bcell3 hb2
      try simp at hz2
      have hz2_0 : w.heap.size < w2.heap.size := by omega
      have hz2_1 : w.heap.size + 1 < w2.heap.size := by omega
      have hz2_2 : w.heap.size + 1 + 1 < w2.heap.size := by omega
      go_wp2
      rw [hv.out]
      have c0 : w2.cell? ⟨w.heap.size + 1 + 1, 0, none⟩ = some (.int .u64 0) := by go_simp
      have c1 : w2.cell? ⟨w.heap.size + 1 + 1, 1, none⟩ = some (.int .u64 0) := by go_simp
      try clear hc1 hf1
      try clear hc2 hf2
      try clear hc3 hf3
      try clear hc4 hf4
      try clear hc5 hf5
      try clear hc6 hf6
      try clear hc7 hf7
      try clear hc8 hf8
      try clear hc9 hf9
      refine bodyPost_ret (v := .tuple #[.agg #[.int .u64 0, .int .u64 0], .int .i64 0, .int .i64 1]) (by simp [results, Tryd.results27, go_sem, c0, c1]) rfl ⟨rfl, ?_⟩
      (repeat (first | with_reducible exact Ext.refl _ | with_reducible exact hw | with_reducible exact hb9 | with_reducible exact hb8 | with_reducible exact hb7 | with_reducible exact hb6 | with_reducible exact hb5 | with_reducible exact hb4 | with_reducible exact hb3 | with_reducible exact hb2 | with_reducible exact hb1 | with_reducible refine Ext.alloc ?_ _ | with_reducible refine Ext.drew ?_ | ((with_reducible refine Ext.set ?_ ?_ _); focus (dsimp only; omega)) | with_reducible refine Ext.trans ?_ hb9 | with_reducible refine Ext.trans ?_ hb8 | with_reducible refine Ext.trans ?_ hb7 | with_reducible refine Ext.trans ?_ hb6 | with_reducible refine Ext.trans ?_ hb5 | with_reducible refine Ext.trans ?_ hb4 | with_reducible refine Ext.trans ?_ hb3 | with_reducible refine Ext.trans ?_ hb2 | with_reducible refine Ext.trans ?_ hb1 | with_reducible refine Ext.trans ?_ hw))
    | true =>
      rw [hm] at him
      have hfm : (fldB ⟨nm, kd, st, sz⟩ && isMaskB m) = true := by rw [hf, hm]; rfl
      have hic := fun (W : World) (h : Ext w W) => impl_areMasks xs A cap W (hR.ext h) hn
      cases ha : xs.all isMaskB with
      | false =>
        have hv := hd (repair_code (xs := xs) hfm (by rw [show masksCode xs = 1 by unfold masksCode; rw [ha]; rfl]; decide))
        rw [show masksCode xs = 1 by unfold masksCode; rw [ha]; rfl] at hv
        rw [ha] at hic
        go_enter Tryd.func27, Tryd.ntmps27
        go_wp2_with fail
        refine Calls.mono (hif _) ?_
        rintro e w1 ⟨rfl, hb1⟩
        obtain ⟨hc1, hf1, hz1⟩ := bcell3 hb1
        try simp at hz1
        have hz1_0 : w.heap.size < w1.heap.size := by omega
        have hz1_1 : w.heap.size + 1 < w1.heap.size := by omega
        have hz1_2 : w.heap.size + 1 + 1 < w1.heap.size := by omega
        go_wp2_with fail
        refine Calls.mono (him _) ?_
        rintro e w2 ⟨rfl, hb2⟩
        obtain ⟨hc2, hf2, hz2⟩ := bcell3 hb2
        try simp at hz2
        have hz2_0 : w.heap.size < w2.heap.size := by omega
        have hz2_1 : w.heap.size + 1 < w2.heap.size := by omega
        have hz2_2 : w.heap.size + 1 + 1 < w2.heap.size := by omega
        go_wp2_with fail
        refine Calls.mono (hic _ (by ((repeat (first | with_reducible exact Ext.refl _ | with_reducible exact hw | with_reducible exact hb9 | with_reducible exact hb8 | with_reducible exact hb7 | with_reducible exact hb6 | with_reducible exact hb5 | with_reducible exact hb4 | with_reducible exact hb3 | with_reducible exact hb2 | with_reducible exact hb1 | with_reducible refine Ext.alloc ?_ _ | with_reducible refine Ext.drew ?_ | ((with_reducible refine Ext.set ?_ ?_ _); focus (dsimp only; omega)) | with_reducible refine Ext.trans ?_ hb9 | with_reducible refine Ext.trans ?_ hb8 | with_reducible refine Ext.trans ?_ hb7 | with_reducible refine Ext.trans ?_ hb6 | with_reducible refine Ext.trans ?_ hb5 | with_reducible refine Ext.trans ?_ hb4 | with_reducible refine Ext.trans ?_ hb3 | with_reducible refine Ext.trans ?_ hb2 | with_reducible refine Ext.trans ?_ hb1 | with_reducible refine Ext.trans ?_ hw))))) ?_
        rintro e w3 ⟨rfl, hb3⟩
        obtain ⟨hc3, hf3, hz3⟩ := bcell3 hb3
        try simp at hz3
        have hz3_0 : w.heap.size < w3.heap.size := by omega
        have hz3_1 : w.heap.size + 1 < w3.heap.size := by omega
        have hz3_2 : w.heap.size + 1 + 1 < w3.heap.size := by omega
        go_wp2
        rw [hv.out]
        have c0 : w3.cell? ⟨w.heap.size + 1 + 1, 0, none⟩ = some (.int .u64 0) := by go_simp
        have c1 : w3.cell? ⟨w.heap.size + 1 + 1, 1, none⟩ = some (.int .u64 0) := by go_simp
        try clear hc1 hf1
        try clear hc2 hf2
        try clear hc3 hf3
        try clear hc4 hf4
        try clear hc5 hf5
        try clear hc6 hf6
        try clear hc7 hf7
        try clear hc8 hf8
        try clear hc9 hf9
        refine bodyPost_ret (v := .tuple #[.agg #[.int .u64 0, .int .u64 0], .int .i64 0, .int .i64 1]) (by simp [results, Tryd.results27, go_sem, c0, c1]) rfl ⟨rfl, ?_⟩
        (repeat (first | with_reducible exact Ext.refl _ | with_reducible exact hw | with_reducible exact hb9 | with_reducible exact hb8 | with_reducible exact hb7 | with_reducible exact hb6 | with_reducible exact hb5 | with_reducible exact hb4 | with_reducible exact hb3 | with_reducible exact hb2 | with_reducible exact hb1 | with_reducible refine Ext.alloc ?_ _ | with_reducible refine Ext.drew ?_ | ((with_reducible refine Ext.set ?_ ?_ _); focus (dsimp only; omega)) | with_reducible refine Ext.trans ?_ hb9 | with_reducible refine Ext.trans ?_ hb8 | with_reducible refine Ext.trans ?_ hb7 | with_reducible refine Ext.trans ?_ hb6 | with_reducible refine Ext.trans ?_ hb5 | with_reducible refine Ext.trans ?_ hb4 | with_reducible refine Ext.trans ?_ hb3 | with_reducible refine Ext.trans ?_ hb2 | with_reducible refine Ext.trans ?_ hb1 | with_reducible refine Ext.trans ?_ hw))
      | true =>
        rw [ha] at hic
        by_cases h15 : 15 < xs.length
        · have hmc : masksCode xs = 2 := by unfold masksCode; rw [ha, if_pos rfl, if_pos h15]
          have hv := hd (repair_code (xs := xs) hfm (by rw [hmc]; decide))
          rw [hmc] at hv
          go_enter Tryd.func27, Tryd.ntmps27
          go_wp2_with fail
          refine Calls.mono (hif _) ?_
          rintro e w1 ⟨rfl, hb1⟩
          obtain ⟨hc1, hf1, hz1⟩ := bcell3 hb1
          try simp at hz1
          have hz1_0 : w.heap.size < w1.heap.size := by omega
          have hz1_1 : w.heap.size + 1 < w1.heap.size := by omega
          have hz1_2 : w.heap.size + 1 + 1 < w1.heap.size := by omega
          go_wp2_with fail
          refine Calls.mono (him _) ?_
          rintro e w2 ⟨rfl, hb2⟩
          obtain ⟨hc2, hf2, hz2⟩ := bcell3 hb2
          try simp at hz2
          have hz2_0 : w.heap.size < w2.heap.size := by omega
          have hz2_1 : w.heap.size + 1 < w2.heap.size := by omega
          have hz2_2 : w.heap.size + 1 + 1 < w2.heap.size := by omega
          go_wp2_with fail
          refine Calls.mono (hic _ (by ((repeat (first | with_reducible exact Ext.refl _ | with_reducible exact hw | with_reducible exact hb9 | with_reducible exact hb8 | with_reducible exact hb7 | with_reducible exact hb6 | with_reducible exact hb5 | with_reducible exact hb4 | with_reducible exact hb3 | with_reducible exact hb2 | with_reducible exact hb1 | with_reducible refine Ext.alloc ?_ _ | with_reducible refine Ext.drew ?_ | ((with_reducible refine Ext.set ?_ ?_ _); focus (dsimp only; omega)) | with_reducible refine Ext.trans ?_ hb9 | with_reducible refine Ext.trans ?_ hb8 | with_reducible refine Ext.trans ?_ hb7 | with_reducible refine Ext.trans ?_ hb6 | with_reducible refine Ext.trans ?_ hb5 | with_reducible refine Ext.trans ?_ hb4 | with_reducible refine Ext.trans ?_ hb3 | with_reducible refine Ext.trans ?_ hb2 | with_reducible refine Ext.trans ?_ hb1 | with_reducible refine Ext.trans ?_ hw))))) ?_
          rintro e w3 ⟨rfl, hb3⟩
          obtain ⟨hc3, hf3, hz3⟩ := bcell3 hb3
          try simp at hz3
          have hz3_0 : w.heap.size < w3.heap.size := by omega
          have hz3_1 : w.heap.size + 1 < w3.heap.size := by omega
          have hz3_2 : w.heap.size + 1 + 1 < w3.heap.size := by omega
          go_wp2
          rw [hv.out]
          have c0 : w3.cell? ⟨w.heap.size + 1 + 1, 0, none⟩ = some (.int .u64 0) := by go_simp
          have c1 : w3.cell? ⟨w.heap.size + 1 + 1, 1, none⟩ = some (.int .u64 0) := by go_simp
          try clear hc1 hf1
          try clear hc2 hf2
          try clear hc3 hf3
          try clear hc4 hf4
          try clear hc5 hf5
          try clear hc6 hf6
          try clear hc7 hf7
          try clear hc8 hf8
          try clear hc9 hf9
          refine bodyPost_ret (v := .tuple #[.agg #[.int .u64 0, .int .u64 0], .int .i64 0, .int .i64 2]) (by simp [results, Tryd.results27, go_sem, c0, c1]) rfl ⟨rfl, ?_⟩
          (repeat (first | with_reducible exact Ext.refl _ | with_reducible exact hw | with_reducible exact hb9 | with_reducible exact hb8 | with_reducible exact hb7 | with_reducible exact hb6 | with_reducible exact hb5 | with_reducible exact hb4 | with_reducible exact hb3 | with_reducible exact hb2 | with_reducible exact hb1 | with_reducible refine Ext.alloc ?_ _ | with_reducible refine Ext.drew ?_ | ((with_reducible refine Ext.set ?_ ?_ _); focus (dsimp only; omega)) | with_reducible refine Ext.trans ?_ hb9 | with_reducible refine Ext.trans ?_ hb8 | with_reducible refine Ext.trans ?_ hb7 | with_reducible refine Ext.trans ?_ hb6 | with_reducible refine Ext.trans ?_ hb5 | with_reducible refine Ext.trans ?_ hb4 | with_reducible refine Ext.trans ?_ hb3 | with_reducible refine Ext.trans ?_ hb2 | with_reducible refine Ext.trans ?_ hb1 | with_reducible refine Ext.trans ?_ hw))
        · have hmc : masksCode xs = 0 := by unfold masksCode; rw [ha, if_pos rfl, if_neg h15]
          have hno := fun h => hd (repair_no hfm hmc h)
          have hyes := fun h => hd (repair_yes hfm hmc h)
          have hhow := rep_how ⟨nm, kd, st, sz⟩ m xs
          have hre := fun (W : World) (h : Ext w W) => impl_repaired nm kd st sz hf m xs A cap W (hR.ext h) (by omega)
          generalize repF ⟨nm, kd, st, sz⟩ m xs = q at hno hyes hhow hre
          obtain ⟨mm, how⟩ := q
          dsimp only at hno hyes hhow hre
          go_enter Tryd.func27, Tryd.ntmps27
          go_wp2_with fail
          refine Calls.mono (hif _) ?_
          rintro e w1 ⟨rfl, hb1⟩
          obtain ⟨hc1, hf1, hz1⟩ := bcell3 hb1
          try simp at hz1
          have hz1_0 : w.heap.size < w1.heap.size := by omega
          have hz1_1 : w.heap.size + 1 < w1.heap.size := by omega
          have hz1_2 : w.heap.size + 1 + 1 < w1.heap.size := by omega
          go_wp2_with fail
          refine Calls.mono (him _) ?_
          rintro e w2 ⟨rfl, hb2⟩
          obtain ⟨hc2, hf2, hz2⟩ := bcell3 hb2
          try simp at hz2
          have hz2_0 : w.heap.size < w2.heap.size := by omega
          have hz2_1 : w.heap.size + 1 < w2.heap.size := by omega
          have hz2_2 : w.heap.size + 1 + 1 < w2.heap.size := by omega
          go_wp2_with fail
          refine Calls.mono (hic _ (by ((repeat (first | with_reducible exact Ext.refl _ | with_reducible exact hw | with_reducible exact hb9 | with_reducible exact hb8 | with_reducible exact hb7 | with_reducible exact hb6 | with_reducible exact hb5 | with_reducible exact hb4 | with_reducible exact hb3 | with_reducible exact hb2 | with_reducible exact hb1 | with_reducible refine Ext.alloc ?_ _ | with_reducible refine Ext.drew ?_ | ((with_reducible refine Ext.set ?_ ?_ _); focus (dsimp only; omega)) | with_reducible refine Ext.trans ?_ hb9 | with_reducible refine Ext.trans ?_ hb8 | with_reducible refine Ext.trans ?_ hb7 | with_reducible refine Ext.trans ?_ hb6 | with_reducible refine Ext.trans ?_ hb5 | with_reducible refine Ext.trans ?_ hb4 | with_reducible refine Ext.trans ?_ hb3 | with_reducible refine Ext.trans ?_ hb2 | with_reducible refine Ext.trans ?_ hb1 | with_reducible refine Ext.trans ?_ hw))))) ?_
          rintro e w3 ⟨rfl, hb3⟩
          obtain ⟨hc3, hf3, hz3⟩ := bcell3 hb3
          try simp at hz3
          have hz3_0 : w.heap.size < w3.heap.size := by omega
          have hz3_1 : w.heap.size + 1 < w3.heap.size := by omega
          have hz3_2 : w.heap.size + 1 + 1 < w3.heap.size := by omega
          have hw3 : Ext w w3 := by ((repeat (first | with_reducible exact Ext.refl _ | with_reducible exact hw | with_reducible exact hb9 | with_reducible exact hb8 | with_reducible exact hb7 | with_reducible exact hb6 | with_reducible exact hb5 | with_reducible exact hb4 | with_reducible exact hb3 | with_reducible exact hb2 | with_reducible exact hb1 | with_reducible refine Ext.alloc ?_ _ | with_reducible refine Ext.drew ?_ | ((with_reducible refine Ext.set ?_ ?_ _); focus (dsimp only; omega)) | with_reducible refine Ext.trans ?_ hb9 | with_reducible refine Ext.trans ?_ hb8 | with_reducible refine Ext.trans ?_ hb7 | with_reducible refine Ext.trans ?_ hb6 | with_reducible refine Ext.trans ?_ hb5 | with_reducible refine Ext.trans ?_ hb4 | with_reducible refine Ext.trans ?_ hb3 | with_reducible refine Ext.trans ?_ hb2 | with_reducible refine Ext.trans ?_ hb1 | with_reducible refine Ext.trans ?_ hw)))
          have bR : BoxAt w3 (w.heap.size + 1 + 1) #[.int .u64 0, .int .u64 0] 33 := (((BoxAt.new' (by simp)).ext hb1).ext hb2).ext hb3
          have c0 : w3.cell? ⟨w.heap.size, 0, none⟩ = some (.string nm) := hb3.cell (by go_simp)
          have c1 : w3.cell? ⟨w.heap.size, 1, none⟩ = some (.int .i8 kd) := hb3.cell (by go_simp)
          have c2 : w3.cell? ⟨w.heap.size, 2, none⟩ = some (.int .i16 st) := hb3.cell (by go_simp)
          have c3 : w3.cell? ⟨w.heap.size, 3, none⟩ = some (.int .i16 sz) := hb3.cell (by go_simp)
          have c4 : w3.cell? ⟨w.heap.size + 1, 0, none⟩ = some (.int .u64 (lo m)) := hb3.cell (by go_simp)
          have c5 : w3.cell? ⟨w.heap.size + 1, 1, none⟩ = some (.int .u64 (hi m)) := hb3.cell (by go_simp)
          clear hc1 hf1 hb1 hz1 hz1_0 hz1_1 hz1_2 hc2 hf2 hb2 hz2 hz2_0 hz2_1 hz2_2 hc3 hf3 hb3 hz3
          go_wp2_with fail
          refine Calls.mono (hre _ hw3) ?_
          rintro e w4 ⟨rfl, hb4⟩
          have bR := bR.ext hb4
          have hw4 := hw3.trans hb4
          have g0 := (bR.alloc (.cells #[.int .u64 (lo mm), .int .u64 (hi mm)] 33)).frozen 0
          have g1 := (bR.alloc (.cells #[.int .u64 (lo mm), .int .u64 (hi mm)] 33)).frozen 1
          have f0 := bR.frozen 0
          have f1 := bR.frozen 1
          have x0 : w4.cell? ⟨w.heap.size + 1 + 1, 0, none⟩ = some (.int .u64 0) := bR.cell 0
          have x1 : w4.cell? ⟨w.heap.size + 1 + 1, 1, none⟩ = some (.int .u64 0) := bR.cell 1
          have lR := bR.lt
          have ne : ¬ w.heap.size + 1 + 1 = w4.heap.size := by omega
          have ne2 : ¬ w4.heap.size = w.heap.size + 1 + 1 := by omega
          have lR2 : w.heap.size + 1 + 1 < w4.heap.size + 1 := by omega
          clear c0 c1 c2 c3 c4 c5 hb4
          by_cases hneg : how < 0
          · have hv := hno hneg
            go_wp2
            rw [hv.out]
            refine bodyPost_ret (v := .tuple #[.agg #[.int .u64 0, .int .u64 0], .int .i64 0, .int .i64 4]) (by simp [results, Tryd.results27, go_sem, x0, x1, g0, g1, f0, f1, ne, ne2, lR]) rfl ⟨rfl, ?_⟩
            have hw := hw4
            (repeat (first | with_reducible exact Ext.refl _ | with_reducible exact hw | with_reducible exact hb9 | with_reducible exact hb8 | with_reducible exact hb7 | with_reducible exact hb6 | with_reducible exact hb5 | with_reducible exact hb4 | with_reducible exact hb3 | with_reducible exact hb2 | with_reducible exact hb1 | with_reducible refine Ext.alloc ?_ _ | with_reducible refine Ext.drew ?_ | ((with_reducible refine Ext.set ?_ ?_ _); focus (dsimp only; omega)) | with_reducible refine Ext.trans ?_ hb9 | with_reducible refine Ext.trans ?_ hb8 | with_reducible refine Ext.trans ?_ hb7 | with_reducible refine Ext.trans ?_ hb6 | with_reducible refine Ext.trans ?_ hb5 | with_reducible refine Ext.trans ?_ hb4 | with_reducible refine Ext.trans ?_ hb3 | with_reducible refine Ext.trans ?_ hb2 | with_reducible refine Ext.trans ?_ hb1 | with_reducible refine Ext.trans ?_ hw))
          · have hv := hyes (by omega)
            go_wp2
            rw [hv.out]
            refine bodyPost_ret (v := .tuple #[.agg #[.int .u64 (lo mm), .int .u64 (hi mm)], .int .i64 how, .int .i64 0]) (by simp [results, Tryd.results27, go_sem, x0, x1, g0, g1, f0, f1, ne, ne2, lR]) rfl ⟨rfl, ?_⟩
            have hw := hw4
            (repeat (first | with_reducible exact Ext.refl _ | with_reducible exact hw | with_reducible exact hb9 | with_reducible exact hb8 | with_reducible exact hb7 | with_reducible exact hb6 | with_reducible exact hb5 | with_reducible exact hb4 | with_reducible exact hb3 | with_reducible exact hb2 | with_reducible exact hb1 | with_reducible refine Ext.alloc ?_ _ | with_reducible refine Ext.drew ?_ | ((with_reducible refine Ext.set ?_ ?_ _); focus (dsimp only; omega)) | with_reducible refine Ext.trans ?_ hb9 | with_reducible refine Ext.trans ?_ hb8 | with_reducible refine Ext.trans ?_ hb7 | with_reducible refine Ext.trans ?_ hb6 | with_reducible refine Ext.trans ?_ hb5 | with_reducible refine Ext.trans ?_ hb4 | with_reducible refine Ext.trans ?_ hb3 | with_reducible refine Ext.trans ?_ hb2 | with_reducible refine Ext.trans ?_ hb1 | with_reducible refine Ext.trans ?_ hw))
set_option maxHeartbeats 2000000 in
theorem spec_RepairField (nm : ByteArray) (kd st sz : Int) (hok : Fld.ok ⟨nm, kd, st, sz⟩) (hnmx : nm.size ≤ 9223372036854775807) (m : Mask) (xs : List Mask) (A : Option Addr) (cap : Nat) (w : World) (hR : Rd encMask w A xs) (hn : xs.length ≤ 1048576) :
    Calls Tryd.prog 25 #[.agg #[.string nm, .int .i8 kd, .int .i16 st, .int .i16 sz], .agg #[.int .u64 (lo m), .int .u64 (hi m)], .slice A xs.length cap] w fun e w' => e = .returned (.tuple #[.agg #[.int .u64 (lo (repairF ⟨nm, kd, st, sz⟩ m xs).1), .int .u64 (hi (repairF ⟨nm, kd, st, sz⟩ m xs).1)], .int .i64 (repairF ⟨nm, kd, st, sz⟩ m xs).2.1, .int .i64 (repairF ⟨nm, kd, st, sz⟩ m xs).2.2]) ∧ Ext w w' := by
  have hx := @ExtOf.cell
  obtain ⟨⟨a0, a1⟩, ⟨a2, a3⟩, a4, a5⟩ := hok
  dsimp only at a0 a1 a2 a3 a4 a5
  have hA : FldAt (((w.alloc (.cells #[.string nm, .int .i8 kd, .int .i16 st, .int .i16 sz] 31)).alloc (.cells #[.int .u64 (lo m), .int .u64 (hi m)] 33)).alloc (.cells #[.int .u64 0, .int .u64 0] 33)) w.heap.size 0 ⟨nm, kd, st, sz⟩ := ⟨by go_simp, by go_simp, by go_simp, by go_simp⟩
  have hif := spec_l01Field nm kd st sz w.heap.size 0 a0 a1 a2 a3 a4 a5 hnmx _ hA (by simp <;> omega)
  cases hf : fldB ⟨nm, kd, st, sz⟩ with
  | false =>
    have hv := hd (repair_bad (f := ⟨nm, kd, st, sz⟩) (m := m) (xs := xs) (by rw [hf]; rfl))
    rw [hf] at hif
    clear hA
    go_enter Tryd.func25, Tryd.ntmps25
    go_wp2_with fail
    refine Calls.mono (hif) ?_
    rintro e w1 ⟨rfl, hb1⟩
    obtain ⟨hc1, hf1, hz1⟩ := bcell3 hb1
    try simp at hz1
    have hz1_0 : w.heap.size < w1.heap.size := by omega
    have hz1_1 : w.heap.size + 1 < w1.heap.size := by omega
    have hz1_2 : w.heap.size + 1 + 1 < w1.heap.size := by omega
    go_wp2
    rw [hv.out]
    have c0 : w1.cell? ⟨w.heap.size + 1 + 1, 0, none⟩ = some (.int .u64 0) := by go_simp
    have c1 : w1.cell? ⟨w.heap.size + 1 + 1, 1, none⟩ = some (.int .u64 0) := by go_simp
    try clear hc1 hf1
    try clear hc2 hf2
    try clear hc3 hf3
    try clear hc4 hf4
    try clear hc5 hf5
    try clear hc6 hf6
    try clear hc7 hf7
    try clear hc8 hf8
    try clear hc9 hf9
    refine bodyPost_ret (v := .tuple #[.agg #[.int .u64 0, .int .u64 0], .int .i64 0, .int .i64 1]) (by simp [results, Tryd.results25, go_sem, c0, c1]) rfl ⟨rfl, ?_⟩
    (repeat (first | with_reducible exact Ext.refl _ | with_reducible exact hw | with_reducible exact hb9 | with_reducible exact hb8 | with_reducible exact hb7 | with_reducible exact hb6 | with_reducible exact hb5 | with_reducible exact hb4 | with_reducible exact hb3 | with_reducible exact hb2 | with_reducible exact hb1 | with_reducible refine Ext.alloc ?_ _ | with_reducible refine Ext.drew ?_ | ((with_reducible refine Ext.set ?_ ?_ _); focus (dsimp only; omega)) | with_reducible refine Ext.trans ?_ hb9 | with_reducible refine Ext.trans ?_ hb8 | with_reducible refine Ext.trans ?_ hb7 | with_reducible refine Ext.trans ?_ hb6 | with_reducible refine Ext.trans ?_ hb5 | with_reducible refine Ext.trans ?_ hb4 | with_reducible refine Ext.trans ?_ hb3 | with_reducible refine Ext.trans ?_ hb2 | with_reducible refine Ext.trans ?_ hb1 | with_reducible refine Ext.trans ?_ hw))
  | true =>
    rw [hf] at hif
    have him := fun W => spec_l01Mask m W
    cases hm : isMaskB m with
    | false =>
      have hv := hd (repair_bad (f := ⟨nm, kd, st, sz⟩) (m := m) (xs := xs) (by rw [hf, hm]; rfl))
      rw [hm] at him
      clear hA
      go_enter Tryd.func25, Tryd.ntmps25
      go_wp2_with fail
      refine Calls.mono (hif) ?_
      rintro e w1 ⟨rfl, hb1⟩
      obtain ⟨hc1, hf1, hz1⟩ := bcell3 hb1
      try simp at hz1
      have hz1_0 : w.heap.size < w1.heap.size := by omega
      have hz1_1 : w.heap.size + 1 < w1.heap.size := by omega
      have hz1_2 : w.heap.size + 1 + 1 < w1.heap.size := by omega
      go_wp2_with fail
      refine Calls.mono (him _) ?_
      rintro e w2 ⟨rfl, hb2⟩
      obtain ⟨hc2, hf2, hz2⟩ := bcell3 hb2
      try simp at hz2
      have hz2_0 : w.heap.size < w2.heap.size := by omega
      have hz2_1 : w.heap.size + 1 < w2.heap.size := by omega
      have hz2_2 : w.heap.size + 1 + 1 < w2.heap.size := by omega
      go_wp2
      rw [hv.out]
      have c0 : w2.cell? ⟨w.heap.size + 1 + 1, 0, none⟩ = some (.int .u64 0) := by go_simp
      have c1 : w2.cell? ⟨w.heap.size + 1 + 1, 1, none⟩ = some (.int .u64 0) := by go_simp
      try clear hc1 hf1
      try clear hc2 hf2
      try clear hc3 hf3
      try clear hc4 hf4
      try clear hc5 hf5
      try clear hc6 hf6
      try clear hc7 hf7
      try clear hc8 hf8
      try clear hc9 hf9
      refine bodyPost_ret (v := .tuple #[.agg #[.int .u64 0, .int .u64 0], .int .i64 0, .int .i64 1]) (by simp [results, Tryd.results25, go_sem, c0, c1]) rfl ⟨rfl, ?_⟩
      (repeat (first | with_reducible exact Ext.refl _ | with_reducible exact hw | with_reducible exact hb9 | with_reducible exact hb8 | with_reducible exact hb7 | with_reducible exact hb6 | with_reducible exact hb5 | with_reducible exact hb4 | with_reducible exact hb3 | with_reducible exact hb2 | with_reducible exact hb1 | with_reducible refine Ext.alloc ?_ _ | with_reducible refine Ext.drew ?_ | ((with_reducible refine Ext.set ?_ ?_ _); focus (dsimp only; omega)) | with_reducible refine Ext.trans ?_ hb9 | with_reducible refine Ext.trans ?_ hb8 | with_reducible refine Ext.trans ?_ hb7 | with_reducible refine Ext.trans ?_ hb6 | with_reducible refine Ext.trans ?_ hb5 | with_reducible refine Ext.trans ?_ hb4 | with_reducible refine Ext.trans ?_ hb3 | with_reducible refine Ext.trans ?_ hb2 | with_reducible refine Ext.trans ?_ hb1 | with_reducible refine Ext.trans ?_ hw))
    | true =>
      rw [hm] at him
      have hfm : (fldB ⟨nm, kd, st, sz⟩ && isMaskB m) = true := by rw [hf, hm]; rfl
      have hic := fun (W : World) (h : Ext w W) => spec_l04Masks xs A cap W (hR.ext h) hn
      by_cases hmc : masksCode xs = 0
      · have h15 := (masksCode_le hmc).2
        have hno := fun h => hd (repair_no hfm hmc h)
        have hyes := fun h => hd (repair_yes hfm hmc h)
        have hhow := rep_how ⟨nm, kd, st, sz⟩ m xs
        have hre := fun (W : World) (h : Ext w W) (h2 : FldAt W w.heap.size 0 ⟨nm, kd, st, sz⟩) => spec_l04Repair ⟨nm, kd, st, sz⟩ hf m xs A cap w.heap.size 0 W h2 (hR.ext h) h15
        generalize repF ⟨nm, kd, st, sz⟩ m xs = q at hno hyes hhow hre
        obtain ⟨mm, how⟩ := q
        dsimp only at hno hyes hhow hre
        rw [hmc] at hic
        go_enter Tryd.func25, Tryd.ntmps25
        go_wp2_with fail
        refine Calls.mono (hif) ?_
        rintro e w1 ⟨rfl, hb1⟩
        obtain ⟨hc1, hf1, hz1⟩ := bcell3 hb1
        try simp at hz1
        have hz1_0 : w.heap.size < w1.heap.size := by omega
        have hz1_1 : w.heap.size + 1 < w1.heap.size := by omega
        have hz1_2 : w.heap.size + 1 + 1 < w1.heap.size := by omega
        have hA := hA.ext hb1
        go_wp2_with fail
        refine Calls.mono (him _) ?_
        rintro e w2 ⟨rfl, hb2⟩
        obtain ⟨hc2, hf2, hz2⟩ := bcell3 hb2
        try simp at hz2
        have hz2_0 : w.heap.size < w2.heap.size := by omega
        have hz2_1 : w.heap.size + 1 < w2.heap.size := by omega
        have hz2_2 : w.heap.size + 1 + 1 < w2.heap.size := by omega
        have hA := hA.ext hb2
        go_wp2_with fail
        refine Calls.mono (hic _ (by ((repeat (first | with_reducible exact Ext.refl _ | with_reducible exact hw | with_reducible exact hb9 | with_reducible exact hb8 | with_reducible exact hb7 | with_reducible exact hb6 | with_reducible exact hb5 | with_reducible exact hb4 | with_reducible exact hb3 | with_reducible exact hb2 | with_reducible exact hb1 | with_reducible refine Ext.alloc ?_ _ | with_reducible refine Ext.drew ?_ | ((with_reducible refine Ext.set ?_ ?_ _); focus (dsimp only; omega)) | with_reducible refine Ext.trans ?_ hb9 | with_reducible refine Ext.trans ?_ hb8 | with_reducible refine Ext.trans ?_ hb7 | with_reducible refine Ext.trans ?_ hb6 | with_reducible refine Ext.trans ?_ hb5 | with_reducible refine Ext.trans ?_ hb4 | with_reducible refine Ext.trans ?_ hb3 | with_reducible refine Ext.trans ?_ hb2 | with_reducible refine Ext.trans ?_ hb1 | with_reducible refine Ext.trans ?_ hw))))) ?_
        rintro e w3 ⟨rfl, hb3⟩
        obtain ⟨hc3, hf3, hz3⟩ := bcell3 hb3
        try simp at hz3
        have hz3_0 : w.heap.size < w3.heap.size := by omega
        have hz3_1 : w.heap.size + 1 < w3.heap.size := by omega
        have hz3_2 : w.heap.size + 1 + 1 < w3.heap.size := by omega
        have hA := hA.ext hb3
        have hw3 : Ext w w3 := by ((repeat (first | with_reducible exact Ext.refl _ | with_reducible exact hw | with_reducible exact hb9 | with_reducible exact hb8 | with_reducible exact hb7 | with_reducible exact hb6 | with_reducible exact hb5 | with_reducible exact hb4 | with_reducible exact hb3 | with_reducible exact hb2 | with_reducible exact hb1 | with_reducible refine Ext.alloc ?_ _ | with_reducible refine Ext.drew ?_ | ((with_reducible refine Ext.set ?_ ?_ _); focus (dsimp only; omega)) | with_reducible refine Ext.trans ?_ hb9 | with_reducible refine Ext.trans ?_ hb8 | with_reducible refine Ext.trans ?_ hb7 | with_reducible refine Ext.trans ?_ hb6 | with_reducible refine Ext.trans ?_ hb5 | with_reducible refine Ext.trans ?_ hb4 | with_reducible refine Ext.trans ?_ hb3 | with_reducible refine Ext.trans ?_ hb2 | with_reducible refine Ext.trans ?_ hb1 | with_reducible refine Ext.trans ?_ hw)))
        have bR : BoxAt w3 (w.heap.size + 1 + 1) #[.int .u64 0, .int .u64 0] 33 := (((BoxAt.new' (by simp)).ext hb1).ext hb2).ext hb3
        have c4 : w3.cell? ⟨w.heap.size + 1, 0, none⟩ = some (.int .u64 (lo m)) := hb3.cell (by go_simp)
        have c5 : w3.cell? ⟨w.heap.size + 1, 1, none⟩ = some (.int .u64 (hi m)) := hb3.cell (by go_simp)
        clear hc1 hf1 hb1 hz1 hz1_0 hz1_1 hz1_2 hc2 hf2 hb2 hz2 hz2_0 hz2_1 hz2_2 hc3 hf3 hb3 hz3
        go_wp2_with fail
        refine Calls.mono (hre _ hw3 hA) ?_
        rintro e w4 ⟨rfl, hb4⟩
        have bR := bR.ext hb4
        have hw4 := hw3.trans hb4
        have g0 := (bR.alloc (.cells #[.int .u64 (lo mm), .int .u64 (hi mm)] 33)).frozen 0
        have g1 := (bR.alloc (.cells #[.int .u64 (lo mm), .int .u64 (hi mm)] 33)).frozen 1
        have f0 := bR.frozen 0
        have f1 := bR.frozen 1
        have x0 : w4.cell? ⟨w.heap.size + 1 + 1, 0, none⟩ = some (.int .u64 0) := bR.cell 0
        have x1 : w4.cell? ⟨w.heap.size + 1 + 1, 1, none⟩ = some (.int .u64 0) := bR.cell 1
        have lR := bR.lt
        have ne : ¬ w.heap.size + 1 + 1 = w4.heap.size := by omega
        have ne2 : ¬ w4.heap.size = w.heap.size + 1 + 1 := by omega
        have lR2 : w.heap.size + 1 + 1 < w4.heap.size + 1 := by omega
        clear c4 c5 hb4 hA
        by_cases hneg : how < 0
        · have hv := hno hneg
          go_wp2
          rw [hv.out]
          refine bodyPost_ret (v := .tuple #[.agg #[.int .u64 0, .int .u64 0], .int .i64 0, .int .i64 4]) (by simp [results, Tryd.results25, go_sem, x0, x1, g0, g1, f0, f1, ne, ne2, lR]) rfl ⟨rfl, ?_⟩
          have hw := hw4
          (repeat (first | with_reducible exact Ext.refl _ | with_reducible exact hw | with_reducible exact hb9 | with_reducible exact hb8 | with_reducible exact hb7 | with_reducible exact hb6 | with_reducible exact hb5 | with_reducible exact hb4 | with_reducible exact hb3 | with_reducible exact hb2 | with_reducible exact hb1 | with_reducible refine Ext.alloc ?_ _ | with_reducible refine Ext.drew ?_ | ((with_reducible refine Ext.set ?_ ?_ _); focus (dsimp only; omega)) | with_reducible refine Ext.trans ?_ hb9 | with_reducible refine Ext.trans ?_ hb8 | with_reducible refine Ext.trans ?_ hb7 | with_reducible refine Ext.trans ?_ hb6 | with_reducible refine Ext.trans ?_ hb5 | with_reducible refine Ext.trans ?_ hb4 | with_reducible refine Ext.trans ?_ hb3 | with_reducible refine Ext.trans ?_ hb2 | with_reducible refine Ext.trans ?_ hb1 | with_reducible refine Ext.trans ?_ hw))
        · have hv := hyes (by omega)
          go_wp2
          rw [hv.out]
          refine bodyPost_ret (v := .tuple #[.agg #[.int .u64 (lo mm), .int .u64 (hi mm)], .int .i64 how, .int .i64 0]) (by simp [results, Tryd.results25, go_sem, x0, x1, g0, g1, f0, f1, ne, ne2, lR]) rfl ⟨rfl, ?_⟩
          have hw := hw4
          (repeat (first | with_reducible exact Ext.refl _ | with_reducible exact hw | with_reducible exact hb9 | with_reducible exact hb8 | with_reducible exact hb7 | with_reducible exact hb6 | with_reducible exact hb5 | with_reducible exact hb4 | with_reducible exact hb3 | with_reducible exact hb2 | with_reducible exact hb1 | with_reducible refine Ext.alloc ?_ _ | with_reducible refine Ext.drew ?_ | ((with_reducible refine Ext.set ?_ ?_ _); focus (dsimp only; omega)) | with_reducible refine Ext.trans ?_ hb9 | with_reducible refine Ext.trans ?_ hb8 | with_reducible refine Ext.trans ?_ hb7 | with_reducible refine Ext.trans ?_ hb6 | with_reducible refine Ext.trans ?_ hb5 | with_reducible refine Ext.trans ?_ hb4 | with_reducible refine Ext.trans ?_ hb3 | with_reducible refine Ext.trans ?_ hb2 | with_reducible refine Ext.trans ?_ hb1 | with_reducible refine Ext.trans ?_ hw))
      · have hv := hd (repair_code (xs := xs) hfm hmc)
        have hq : (masksCode xs != 0) = true := by simp [hmc]
        generalize masksCode xs = mc at hic hv hq
        clear hA hmc
        go_enter Tryd.func25, Tryd.ntmps25
        go_wp2_with fail
        refine Calls.mono (hif) ?_
        rintro e w1 ⟨rfl, hb1⟩
        obtain ⟨hc1, hf1, hz1⟩ := bcell3 hb1
        try simp at hz1
        have hz1_0 : w.heap.size < w1.heap.size := by omega
        have hz1_1 : w.heap.size + 1 < w1.heap.size := by omega
        have hz1_2 : w.heap.size + 1 + 1 < w1.heap.size := by omega
        go_wp2_with fail
        refine Calls.mono (him _) ?_
        rintro e w2 ⟨rfl, hb2⟩
        obtain ⟨hc2, hf2, hz2⟩ := bcell3 hb2
        try simp at hz2
        have hz2_0 : w.heap.size < w2.heap.size := by omega
        have hz2_1 : w.heap.size + 1 < w2.heap.size := by omega
        have hz2_2 : w.heap.size + 1 + 1 < w2.heap.size := by omega
        go_wp2_with fail
        refine Calls.mono (hic _ (by ((repeat (first | with_reducible exact Ext.refl _ | with_reducible exact hw | with_reducible exact hb9 | with_reducible exact hb8 | with_reducible exact hb7 | with_reducible exact hb6 | with_reducible exact hb5 | with_reducible exact hb4 | with_reducible exact hb3 | with_reducible exact hb2 | with_reducible exact hb1 | with_reducible refine Ext.alloc ?_ _ | with_reducible refine Ext.drew ?_ | ((with_reducible refine Ext.set ?_ ?_ _); focus (dsimp only; omega)) | with_reducible refine Ext.trans ?_ hb9 | with_reducible refine Ext.trans ?_ hb8 | with_reducible refine Ext.trans ?_ hb7 | with_reducible refine Ext.trans ?_ hb6 | with_reducible refine Ext.trans ?_ hb5 | with_reducible refine Ext.trans ?_ hb4 | with_reducible refine Ext.trans ?_ hb3 | with_reducible refine Ext.trans ?_ hb2 | with_reducible refine Ext.trans ?_ hb1 | with_reducible refine Ext.trans ?_ hw))))) ?_
        rintro e w3 ⟨rfl, hb3⟩
        obtain ⟨hc3, hf3, hz3⟩ := bcell3 hb3
        try simp at hz3
        have hz3_0 : w.heap.size < w3.heap.size := by omega
        have hz3_1 : w.heap.size + 1 < w3.heap.size := by omega
        have hz3_2 : w.heap.size + 1 + 1 < w3.heap.size := by omega
        go_wp2
        rw [hv.out]
        dsimp only
        rw [lo_zero, hi_zero]
        have c0 : w3.cell? ⟨w.heap.size + 1 + 1, 0, none⟩ = some (.int .u64 0) := by go_simp
        have c1 : w3.cell? ⟨w.heap.size + 1 + 1, 1, none⟩ = some (.int .u64 0) := by go_simp
        try clear hc1 hf1
        try clear hc2 hf2
        try clear hc3 hf3
        try clear hc4 hf4
        try clear hc5 hf5
        try clear hc6 hf6
        try clear hc7 hf7
        try clear hc8 hf8
        try clear hc9 hf9
        refine bodyPost_ret (v := .tuple #[.agg #[.int .u64 0, .int .u64 0], .int .i64 0, .int .i64 mc]) (by simp [results, Tryd.results25, go_sem, c0, c1]) rfl ⟨rfl, ?_⟩
        (repeat (first | with_reducible exact Ext.refl _ | with_reducible exact hw | with_reducible exact hb9 | with_reducible exact hb8 | with_reducible exact hb7 | with_reducible exact hb6 | with_reducible exact hb5 | with_reducible exact hb4 | with_reducible exact hb3 | with_reducible exact hb2 | with_reducible exact hb1 | with_reducible refine Ext.alloc ?_ _ | with_reducible refine Ext.drew ?_ | ((with_reducible refine Ext.set ?_ ?_ _); focus (dsimp only; omega)) | with_reducible refine Ext.trans ?_ hb9 | with_reducible refine Ext.trans ?_ hb8 | with_reducible refine Ext.trans ?_ hb7 | with_reducible refine Ext.trans ?_ hb6 | with_reducible refine Ext.trans ?_ hb5 | with_reducible refine Ext.trans ?_ hb4 | with_reducible refine Ext.trans ?_ hb3 | with_reducible refine Ext.trans ?_ hb2 | with_reducible refine Ext.trans ?_ hb1 | with_reducible refine Ext.trans ?_ hw))
end Go.Proofs.YtknbebglabpegaaDoor
