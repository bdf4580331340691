/-
  The walk of the law FnExactFalseOf (written by mklaw.py).
-/
import Derived.Test.YtbmompanhigmnaaDoorY3
set_option linter.unusedVariables false
set_option linter.unusedSimpArgs false
set_option maxRecDepth 100000
namespace Go.Proofs.YtbmompanhigmnaaDoor
open Go.RowKit
set_option maxHeartbeats 2000000 in
theorem laws_FnExactFalseOf (x : Mx) (hx : MxIn x) (lot : List (List ByteArray)) (A : Option Addr) (cap : Nat) (ws : List ByteArray) (B : Option Addr) (cap' : Nat) (w : World) (hn : lot.length ≤ 9223372036854775807) (hR : RdL w A lot) (hok : ∀ l ∈ lot, l.length ≤ 9223372036854775807 ∧ ∀ x ∈ l, StrIn x) (hm : ws.length ≤ 9223372036854775807) (hS : Rd encStr w B ws) (hok' : ∀ x ∈ ws, StrIn x) :
    Calls Tryd.prog 6 #[.agg #[.int .i16 x.st, .int .i16 x.sz, .int .i16 x.per], .slice A lot.length cap, .slice B ws.length cap'] w fun e w' => e = .returned (.bool true) ∧ Ext w w' := by
  have r1 := eqL_refl strB strB_refl ws
  go_enter Tryd.func6, Tryd.ntmps6
  go_wp2_with fail
  refine Calls.mono (laws_szStringSS lot A cap 1048576 (by omega) (by omega) hn _ (hR.ext (by ((repeat (first | with_reducible exact Ext.refl _ | with_reducible exact hw | with_reducible exact hb9 | with_reducible exact hb8 | with_reducible exact hb7 | with_reducible exact hb6 | with_reducible exact hb5 | with_reducible exact hb4 | with_reducible exact hb3 | with_reducible exact hb2 | with_reducible exact hb1 | with_reducible refine Ext.alloc ?_ _ | with_reducible refine Ext.drew ?_ | ((with_reducible refine Ext.set ?_ ?_ _); focus (dsimp only; omega)) | with_reducible refine Ext.trans ?_ hb9 | with_reducible refine Ext.trans ?_ hb8 | with_reducible refine Ext.trans ?_ hb7 | with_reducible refine Ext.trans ?_ hb6 | with_reducible refine Ext.trans ?_ hb5 | with_reducible refine Ext.trans ?_ hb4 | with_reducible refine Ext.trans ?_ hb3 | with_reducible refine Ext.trans ?_ hb2 | with_reducible refine Ext.trans ?_ hb1 | with_reducible refine Ext.trans ?_ hw))))) hok) ?_
  rintro e w1 ⟨z0, rfl, hr0, hb1⟩
  have hw1 : Ext w w1 := by ((repeat (first | with_reducible exact Ext.refl _ | with_reducible exact hw | with_reducible exact hb9 | with_reducible exact hb8 | with_reducible exact hb7 | with_reducible exact hb6 | with_reducible exact hb5 | with_reducible exact hb4 | with_reducible exact hb3 | with_reducible exact hb2 | with_reducible exact hb1 | with_reducible refine Ext.alloc ?_ _ | with_reducible refine Ext.drew ?_ | ((with_reducible refine Ext.set ?_ ?_ _); focus (dsimp only; omega)) | with_reducible refine Ext.trans ?_ hb9 | with_reducible refine Ext.trans ?_ hb8 | with_reducible refine Ext.trans ?_ hb7 | with_reducible refine Ext.trans ?_ hb6 | with_reducible refine Ext.trans ?_ hb5 | with_reducible refine Ext.trans ?_ hb4 | with_reducible refine Ext.trans ?_ hb3 | with_reducible refine Ext.trans ?_ hb2 | with_reducible refine Ext.trans ?_ hb1 | with_reducible refine Ext.trans ?_ hw)))
  have c0 : w1.cell? ⟨w.heap.size, 0, none⟩ = some (.int .i16 x.st) := hb1.cell (by go_simp)
  have c1 : w1.cell? ⟨w.heap.size, 1, none⟩ = some (.int .i16 x.sz) := hb1.cell (by go_simp)
  have c2 : w1.cell? ⟨w.heap.size, 2, none⟩ = some (.int .i16 x.per) := hb1.cell (by go_simp)
  have hR := hR.ext hw1
  have hS := hS.ext hw1
  clear hb1
  have d0 := (Ext.refl w1).cell c0
  have d1 := (Ext.refl w1).cell c1
  have d2 := (Ext.refl w1).cell c2
  have lc0 := World.block_lt_of_cell? _ _ d0
  dsimp only at lc0
  by_cases hr0n : z0 < 0
  · go_wp2
    go_ret
    exact ⟨rfl, hw1⟩
  obtain ⟨g0b, g0c, g0a, g0t⟩ := hr0.resolve_left hr0n
  have hn1 : lot.length ≤ 1048576 := by omega
  have htot : tot lot ≤ 1048576 := by omega
  have hll : ∀ l ∈ lot, l.length ≤ 1048576 := fun l hl => Nat.le_trans (len_tot hl) htot
  clear hr0
  go_wp2_with fail
  refine Calls.mono (laws_szStringS ws B cap' z0 (by omega) (by omega) hm _ (hS.ext (Ext.refl w1)) hok') ?_
  rintro e w2 ⟨z1, rfl, hr1, hb2⟩
  have h2 : Ext w1 w2 := (Ext.refl w1).trans hb2
  have s2 := hb2.size
  have d0 := h2.cell c0
  have d1 := h2.cell c1
  have d2 := h2.cell c2
  have lc0 := World.block_lt_of_cell? _ _ d0
  dsimp only at lc0
  by_cases hr1n : z1 < 0
  · go_wp2
    go_ret
    exact ⟨rfl, hw1.trans h2⟩
  obtain ⟨g1b, g1c, g1a⟩ := hr1.resolve_left hr1n
  have hm1 : ws.length ≤ 1048576 := by omega
  clear hr1
  have hlen := false_len x lot ws
  have hsp := fun (a0 : Option Addr) (n0 : Nat) (a1 : Option Addr) (n1 : Nat) (W : World) (R0 : RdL W a0 lot) (R1 : Rd encStr W a1 ws) => spec_FalseOf x hx lot a0 n0 ws a1 n1 W R0 hn1 hll (fun l hl => (hok l hl).2) R1 hm1 hok'
  have him := fun (a0 : Option Addr) (n0 : Nat) (a1 : Option Addr) (n1 : Nat) (W : World) (R0 : RdL W a0 lot) (R1 : Rd encStr W a1 ws) (l0 : lot.length ≤ n0) (l1 : ws.length ≤ n1) => impl_FalseOf x hx lot a0 n0 ws a1 n1 W R0 hn1 hll (fun l hl => (hok l hl).2) R1 hm1 hok'
  generalize falseF x lot ws = q at hlen hsp him
  obtain ⟨ns, cd⟩ := q
  dsimp only at hlen hsp him
  go_wp2_with fail
  refine Calls.mono (laws_toMix x _) ?_
  rintro e w3 ⟨rfl, hb3⟩
  have h3 : Ext w1 w3 := h2.trans hb3
  have s3 := hb3.size
  have d0 := h3.cell c0
  have d1 := h3.cell c1
  have d2 := h3.cell c2
  have lc0 := World.block_lt_of_cell? _ _ d0
  dsimp only at lc0
  go_wp2_with fail
  refine Calls.mono (laws_toStringSS lot A cap _ (hR.ext h3) hn1 hll) ?_
  rintro e w4 ⟨v4, sv4, rfl, hO4, hb4⟩
  have h4 : Ext w1 w4 := h3.trans hb4
  have s4 := hb4.size
  have d0 := h4.cell c0
  have d1 := h4.cell c1
  have d2 := h4.cell c2
  have lc0 := World.block_lt_of_cell? _ _ d0
  dsimp only at lc0
  obtain ⟨A4, cap4, rfl, hle4, _⟩ := hO4.slice
  have bs4 := hO4
  go_wp2_with fail
  refine Calls.mono (laws_toStringS ws B cap' _ (hS.ext h4) hm1) ?_
  rintro e w5 ⟨v5, rfl, hO5, hb5⟩
  have h5 : Ext w1 w5 := h4.trans hb5
  have hO4 := hO4.ext hb5
  have s5 := hb5.size
  have d0 := h5.cell c0
  have d1 := h5.cell c1
  have d2 := h5.cell c2
  have lc0 := World.block_lt_of_cell? _ _ d0
  dsimp only at lc0
  obtain ⟨A5, cap5, rfl, hle5, _⟩ := hO5.slice
  have bs5 := hO5
  go_wp2_with fail
  refine Calls.mono (hsp A4 cap4 A5 cap5 _ hO4.rdA hO5.rdA) ?_
  rintro e w6 ⟨v6, rfl, hO6, hb6⟩
  have h6 : Ext w1 w6 := h5.trans hb6
  have hO4 := hO4.ext hb6
  have hO5 := hO5.ext hb6
  have s6 := hb6.size
  have d0 := h6.cell c0
  have d1 := h6.cell c1
  have d2 := h6.cell c2
  have lc0 := World.block_lt_of_cell? _ _ d0
  dsimp only at lc0
  obtain ⟨A6, cap6, rfl, hle6, _⟩ := hO6.slice
  have bs6 := hO6
  clear hO4
  clear hO5
  go_wp2_with fail
  refine Calls.mono (laws_toStringSS lot A cap _ (hR.ext h6) hn1 hll) ?_
  rintro e w7 ⟨v7, sv7, rfl, hO7, hb7⟩
  have h7 : Ext w1 w7 := h6.trans hb7
  have hO6 := hO6.ext hb7
  have s7 := hb7.size
  have d0 := h7.cell c0
  have d1 := h7.cell c1
  have d2 := h7.cell c2
  have lc0 := World.block_lt_of_cell? _ _ d0
  dsimp only at lc0
  obtain ⟨A7, cap7, rfl, hle7, _⟩ := hO7.slice
  have bs7 := hO7
  go_wp2_with fail
  refine Calls.mono (laws_toStringS ws B cap' _ (hS.ext h7) hm1) ?_
  rintro e w8 ⟨v8, rfl, hO8, hb8⟩
  have h8 : Ext w1 w8 := h7.trans hb8
  have hO6 := hO6.ext hb8
  have hO7 := hO7.ext hb8
  have s8 := hb8.size
  have d0 := h8.cell c0
  have d1 := h8.cell c1
  have d2 := h8.cell c2
  have lc0 := World.block_lt_of_cell? _ _ d0
  dsimp only at lc0
  obtain ⟨A8, cap8, rfl, hle8, _⟩ := hO8.slice
  have bs8 := hO8
  go_wp2_with fail
  refine Calls.mono (laws_toMix x _) ?_
  rintro e w9 ⟨rfl, hb9⟩
  have h9 : Ext w1 w9 := h8.trans hb9
  have hO6 := hO6.ext hb9
  have hO7 := hO7.ext hb9
  have hO8 := hO8.ext hb9
  have s9 := hb9.size
  have d0 := h9.cell c0
  have d1 := h9.cell c1
  have d2 := h9.cell c2
  have lc0 := World.block_lt_of_cell? _ _ d0
  dsimp only at lc0
  go_wp2_with fail
  refine Calls.mono (him A7 cap7 A8 cap8 _ hO7.rdA hO8.rdA hle7 hle8) ?_
  rintro e w10 ⟨v10, rfl, hO10, hb10⟩
  have h10 : Ext w1 w10 := h9.trans hb10
  have hO6 := hO6.ext hb10
  have hO7 := hO7.ext hb10
  have hO8 := hO8.ext hb10
  have s10 := hb10.size
  have d0 := h10.cell c0
  have d1 := h10.cell c1
  have d2 := h10.cell c2
  have lc0 := World.block_lt_of_cell? _ _ d0
  dsimp only at lc0
  obtain ⟨A10, cap10, rfl, hle10, _⟩ := hO10.slice
  have bs10 := hO10
  have ap6_8 := Apart.of bs6 bs8 (by omega)
  have ap10_8 := Apart.of' bs8 bs10 (by omega)
  have ap6_10 := Apart.of bs6 bs10 (by omega)
  have base7 : w1.heap.size ≤ w6.heap.size := h6.size
  have base8 : w1.heap.size ≤ w7.heap.size := h7.size
  have base10 : w1.heap.size ≤ w9.heap.size := h9.size
  go_wp2_with fail
  refine Calls.mono (laws_eqInt64S ns _ _ _ _ _ hO10.rdA hO6.rdA hlen) ?_
  rintro e w11 ⟨rfl, hb11⟩
  have h11 : Ext w1 w11 := h10.trans hb11
  have hO6 := hO6.ext hb11
  have hO7 := hO7.ext hb11
  have hO8 := hO8.ext hb11
  have hO10 := hO10.ext hb11
  have s11 := hb11.size
  have d0 := h11.cell c0
  have d1 := h11.cell c1
  have d2 := h11.cell c2
  have lc0 := World.block_lt_of_cell? _ _ d0
  dsimp only at lc0
  go_wp2_with fail
  refine Calls.mono (laws_toStringSS lot A cap _ (hR.ext h11) hn1 hll) ?_
  rintro e w12 ⟨v12, sv12, rfl, hO12, hb12⟩
  have h12 : Ext w1 w12 := h11.trans hb12
  have hO6 := hO6.ext hb12
  have hO7 := hO7.ext hb12
  have hO8 := hO8.ext hb12
  have hO10 := hO10.ext hb12
  have s12 := hb12.size
  have d0 := h12.cell c0
  have d1 := h12.cell c1
  have d2 := h12.cell c2
  have lc0 := World.block_lt_of_cell? _ _ d0
  dsimp only at lc0
  obtain ⟨A12, cap12, rfl, hle12, _⟩ := hO12.slice
  have bs12 := hO12
  clear bs12
  go_wp2_with fail
  refine Calls.mono (laws_eqStringSS lot _ _ _ _ _ hO7.rdA hO12.rdA hn1 hll) ?_
  rintro e w13 ⟨rfl, hb13⟩
  have h13 : Ext w1 w13 := h12.trans hb13
  have hO6 := hO6.ext hb13
  have hO7 := hO7.ext hb13
  have hO8 := hO8.ext hb13
  have hO10 := hO10.ext hb13
  have hO12 := hO12.ext hb13
  have s13 := hb13.size
  have d0 := h13.cell c0
  have d1 := h13.cell c1
  have d2 := h13.cell c2
  have lc0 := World.block_lt_of_cell? _ _ d0
  dsimp only at lc0
  clear hO12
  go_wp2_with fail
  refine Calls.mono (laws_toStringS ws B cap' _ (hS.ext h13) hm1) ?_
  rintro e w14 ⟨v14, rfl, hO14, hb14⟩
  have h14 : Ext w1 w14 := h13.trans hb14
  have hO6 := hO6.ext hb14
  have hO7 := hO7.ext hb14
  have hO8 := hO8.ext hb14
  have hO10 := hO10.ext hb14
  have s14 := hb14.size
  have d0 := h14.cell c0
  have d1 := h14.cell c1
  have d2 := h14.cell c2
  have lc0 := World.block_lt_of_cell? _ _ d0
  dsimp only at lc0
  obtain ⟨A14, cap14, rfl, hle14, _⟩ := hO14.slice
  have bs14 := hO14
  clear bs14
  go_wp2_with fail
  refine Calls.mono (laws_eqStringS ws ws _ _ _ _ _ hO8.rdA hO14.rdA hm1 hm1) ?_
  rintro e w15 ⟨rfl, hb15⟩
  have h15 : Ext w1 w15 := h14.trans hb15
  have hO6 := hO6.ext hb15
  have hO7 := hO7.ext hb15
  have hO8 := hO8.ext hb15
  have hO10 := hO10.ext hb15
  have hO14 := hO14.ext hb15
  have s15 := hb15.size
  have d0 := h15.cell c0
  have d1 := h15.cell c1
  have d2 := h15.cell c2
  have lc0 := World.block_lt_of_cell? _ _ d0
  dsimp only at lc0
  rw [r1]
  clear hO14
  go_wp2_with fail
  refine Calls.mono (laws_markStringSS lot _ _ 1 _ _ _ hO7 hn1 hll (by omega)) ?_
  rintro e w16 ⟨rfl, gr16⟩
  have h16 := h15.win gr16 base7
  have s16 := gr16.size
  have hO6 := hO6.win gr16 (fun b hb => by have := bs6.lt b hb; omega)
  have hO8 := hO8.win gr16 (fun b hb => by have := bs8.lt b hb; omega)
  have hO10 := hO10.win gr16 (fun b hb => by have := bs10.lt b hb; omega)
  clear hO7
  clear gr16
  have d0 := h16.cell c0
  have d1 := h16.cell c1
  have d2 := h16.cell c2
  have lc0 := World.block_lt_of_cell? _ _ d0
  dsimp only at lc0
  have hmk := laws_markStringS ws _ (1 + tot lot) _ _ hO8 hm1 (by omega)
  rw [show ((1 + tot lot : Nat) : Int) = 1 + (tot lot : Int) by omega] at hmk
  go_wp2_with fail
  refine Calls.mono (hmk) ?_
  rintro e w17 ⟨rfl, gr17⟩
  have h17 := h16.mark hO8 base8 gr17
  have s17 := gr17.size
  have hO6 := hO6.apart gr17 ap6_8
  have hO10 := hO10.apart gr17 ap10_8
  clear hO8
  clear gr17
  have d0 := h17.cell c0
  have d1 := h17.cell c1
  have d2 := h17.cell c2
  have lc0 := World.block_lt_of_cell? _ _ d0
  dsimp only at lc0
  have hkk : ¬ (((1 : Int) + (tot lot : Int) + (ws.length : Int) : Int) < 0) := by omega
  go_wp2_with fail
  refine Calls.mono (laws_eqInt64S ns _ _ _ _ _ hO10.rdA hO6.rdA hlen) ?_
  rintro e w18 ⟨rfl, hb18⟩
  have h18 : Ext w1 w18 := h17.trans hb18
  have hO6 := hO6.ext hb18
  have hO10 := hO10.ext hb18
  have s18 := hb18.size
  have d0 := h18.cell c0
  have d1 := h18.cell c1
  have d2 := h18.cell c2
  have lc0 := World.block_lt_of_cell? _ _ d0
  dsimp only at lc0
  go_wp2_with fail
  refine Calls.mono (laws_markInt64S ns _ 1 _ _ hO10 hlen (by omega)) ?_
  rintro e w19 ⟨rfl, hM, gr19⟩
  have h19 := h18.mark hO10 base10 gr19
  have s19 := gr19.size
  have hO6 := hO6.apart gr19 ap6_10
  clear gr19
  clear hO10
  have d0 := h19.cell c0
  have d1 := h19.cell c1
  have d2 := h19.cell c2
  have lc0 := World.block_lt_of_cell? _ _ d0
  dsimp only at lc0
  go_wp2_with fail
  refine Calls.mono (laws_heldInt64S ns.length _ _ 1 _ hM.rdA hlen (by omega)) ?_
  rintro e w20 ⟨rfl, hb20⟩
  have h20 : Ext w1 w20 := h19.trans hb20
  have hO6 := hO6.ext hb20
  have hM := hM.ext hb20
  have s20 := hb20.size
  have d0 := h20.cell c0
  have d1 := h20.cell c1
  have d2 := h20.cell c2
  have lc0 := World.block_lt_of_cell? _ _ d0
  dsimp only at lc0
  go_wp2_with fail
  refine Calls.mono (laws_toMix x _) ?_
  rintro e w21 ⟨rfl, hb21⟩
  have h21 : Ext w1 w21 := h20.trans hb21
  have hO6 := hO6.ext hb21
  have hM := hM.ext hb21
  have s21 := hb21.size
  have d0 := h21.cell c0
  have d1 := h21.cell c1
  have d2 := h21.cell c2
  have lc0 := World.block_lt_of_cell? _ _ d0
  dsimp only at lc0
  go_wp2_with fail
  refine Calls.mono (laws_toStringSS lot A cap _ (hR.ext h21) hn1 hll) ?_
  rintro e w22 ⟨v22, sv22, rfl, hO22, hb22⟩
  have h22 : Ext w1 w22 := h21.trans hb22
  have hO6 := hO6.ext hb22
  have hM := hM.ext hb22
  have s22 := hb22.size
  have d0 := h22.cell c0
  have d1 := h22.cell c1
  have d2 := h22.cell c2
  have lc0 := World.block_lt_of_cell? _ _ d0
  dsimp only at lc0
  obtain ⟨A22, cap22, rfl, hle22, _⟩ := hO22.slice
  have bs22 := hO22
  go_wp2_with fail
  refine Calls.mono (laws_toStringS ws B cap' _ (hS.ext h22) hm1) ?_
  rintro e w23 ⟨v23, rfl, hO23, hb23⟩
  have h23 : Ext w1 w23 := h22.trans hb23
  have hO6 := hO6.ext hb23
  have hM := hM.ext hb23
  have hO22 := hO22.ext hb23
  have s23 := hb23.size
  have d0 := h23.cell c0
  have d1 := h23.cell c1
  have d2 := h23.cell c2
  have lc0 := World.block_lt_of_cell? _ _ d0
  dsimp only at lc0
  obtain ⟨A23, cap23, rfl, hle23, _⟩ := hO23.slice
  have bs23 := hO23
  go_wp2_with fail
  refine Calls.mono (him A22 cap22 A23 cap23 _ hO22.rdA hO23.rdA hle22 hle23) ?_
  rintro e w24 ⟨v24, rfl, hO24, hb24⟩
  have h24 : Ext w1 w24 := h23.trans hb24
  have hO6 := hO6.ext hb24
  have hM := hM.ext hb24
  have hO22 := hO22.ext hb24
  have hO23 := hO23.ext hb24
  have s24 := hb24.size
  have d0 := h24.cell c0
  have d1 := h24.cell c1
  have d2 := h24.cell c2
  have lc0 := World.block_lt_of_cell? _ _ d0
  dsimp only at lc0
  obtain ⟨A24, cap24, rfl, hle24, _⟩ := hO24.slice
  have bs24 := hO24
  clear hO22
  clear hO23
  go_wp2_with fail
  refine Calls.mono (laws_eqInt64S ns _ _ _ _ _ hO24.rdA hO6.rdA hlen) ?_
  rintro e w25 ⟨rfl, hb25⟩
  have h25 : Ext w1 w25 := h24.trans hb25
  have hO6 := hO6.ext hb25
  have hM := hM.ext hb25
  have hO24 := hO24.ext hb25
  have s25 := hb25.size
  have d0 := h25.cell c0
  have d1 := h25.cell c1
  have d2 := h25.cell c2
  have lc0 := World.block_lt_of_cell? _ _ d0
  dsimp only at lc0
  go_wp2_with fail
  refine Calls.mono (laws_heldInt64S ns.length _ _ 1 _ hM.rdA hlen (by omega)) ?_
  rintro e w26 ⟨rfl, hb26⟩
  have h26 : Ext w1 w26 := h25.trans hb26
  have hO6 := hO6.ext hb26
  have hM := hM.ext hb26
  have hO24 := hO24.ext hb26
  have s26 := hb26.size
  have d0 := h26.cell c0
  have d1 := h26.cell c1
  have d2 := h26.cell c2
  have lc0 := World.block_lt_of_cell? _ _ d0
  dsimp only at lc0
  go_wp2
  go_ret
  exact ⟨rfl, hw1.trans h26⟩
end Go.Proofs.YtbmompanhigmnaaDoor
