/-
  The walk of the law FnExactBestPer (written by mklaw.py).
-/
import Derived.Test.YtbmompanhigmnaaDoorYB
set_option linter.unusedVariables false
set_option linter.unusedSimpArgs false
set_option maxRecDepth 100000
namespace Go.Proofs.YtbmompanhigmnaaDoor
open Go.RowKit
set_option maxHeartbeats 2000000 in
theorem laws_FnExactBestPer (x : Mx) (hx : MxIn x) (lot : List (List ByteArray)) (A : Option Addr) (cap : Nat) (w : World) (hn : lot.length ≤ 9223372036854775807) (hR : RdL w A lot) (hok : ∀ l ∈ lot, l.length ≤ 9223372036854775807 ∧ ∀ x ∈ l, StrIn x) :
    Calls Tryd.prog 9 #[.agg #[.int .i16 x.st, .int .i16 x.sz, .int .i16 x.per], .slice A lot.length cap] w fun e w' => e = .returned (.bool true) ∧ Ext w w' := by
  go_enter Tryd.func9, Tryd.ntmps9
  go_wp2_with fail
  refine Calls.mono (laws_szStringSS lot A cap 1048576 (by omega) (by omega) hn _ (hR.ext (by ((repeat (first | with_reducible exact Ext.refl _ | with_reducible exact hw | with_reducible exact hb9 | with_reducible exact hb8 | with_reducible exact hb7 | with_reducible exact hb6 | with_reducible exact hb5 | with_reducible exact hb4 | with_reducible exact hb3 | with_reducible exact hb2 | with_reducible exact hb1 | with_reducible refine Ext.alloc ?_ _ | with_reducible refine Ext.drew ?_ | ((with_reducible refine Ext.set ?_ ?_ _); focus (dsimp only; omega)) | with_reducible refine Ext.trans ?_ hb9 | with_reducible refine Ext.trans ?_ hb8 | with_reducible refine Ext.trans ?_ hb7 | with_reducible refine Ext.trans ?_ hb6 | with_reducible refine Ext.trans ?_ hb5 | with_reducible refine Ext.trans ?_ hb4 | with_reducible refine Ext.trans ?_ hb3 | with_reducible refine Ext.trans ?_ hb2 | with_reducible refine Ext.trans ?_ hb1 | with_reducible refine Ext.trans ?_ hw))))) hok) ?_
  rintro e w1 ⟨z0, rfl, hr0, hb1⟩
  have hw1 : Ext w w1 := by ((repeat (first | with_reducible exact Ext.refl _ | with_reducible exact hw | with_reducible exact hb9 | with_reducible exact hb8 | with_reducible exact hb7 | with_reducible exact hb6 | with_reducible exact hb5 | with_reducible exact hb4 | with_reducible exact hb3 | with_reducible exact hb2 | with_reducible exact hb1 | with_reducible refine Ext.alloc ?_ _ | with_reducible refine Ext.drew ?_ | ((with_reducible refine Ext.set ?_ ?_ _); focus (dsimp only; omega)) | with_reducible refine Ext.trans ?_ hb9 | with_reducible refine Ext.trans ?_ hb8 | with_reducible refine Ext.trans ?_ hb7 | with_reducible refine Ext.trans ?_ hb6 | with_reducible refine Ext.trans ?_ hb5 | with_reducible refine Ext.trans ?_ hb4 | with_reducible refine Ext.trans ?_ hb3 | with_reducible refine Ext.trans ?_ hb2 | with_reducible refine Ext.trans ?_ hb1 | with_reducible refine Ext.trans ?_ hw)))
  have c0 : w1.cell? ⟨w.heap.size, 0, none⟩ = some (.int .i16 x.st) := hb1.cell (by go_simp)
  have c1 : w1.cell? ⟨w.heap.size, 1, none⟩ = some (.int .i16 x.sz) := hb1.cell (by go_simp)
  have c2 : w1.cell? ⟨w.heap.size, 2, none⟩ = some (.int .i16 x.per) := hb1.cell (by go_simp)
  have hR := hR.ext hw1
  clear hb1
  have d0 := (Ext.refl w1).cell c0
  have d1 := (Ext.refl w1).cell c1
  have d2 := (Ext.refl w1).cell c2
  have lc0 := World.block_lt_of_cell? _ _ d0
  dsimp only at lc0
  by_cases hr0n : z0 < 0
  · go_wp2
    go_ret
    exact ⟨rfl, hw1⟩
  obtain ⟨g0b, g0c, g0a, g0t⟩ := hr0.resolve_left hr0n
  have hn1 : lot.length ≤ 1048576 := by omega
  have htot : tot lot ≤ 1048576 := by omega
  have hll : ∀ l ∈ lot, l.length ≤ 1048576 := fun l hl => Nat.le_trans (len_tot hl) htot
  clear hr0
  have hsp := fun (a0 : Option Addr) (n0 : Nat) (W : World) (R0 : RdL W a0 lot) => spec_BestPer x hx lot a0 n0 W R0 hn1 hll (fun l hl => (hok l hl).2)
  have him := fun (a0 : Option Addr) (n0 : Nat) (W : World) (R0 : RdL W a0 lot) (l0 : lot.length ≤ n0) => impl_BestPer x hx lot a0 n0 W R0 hn1 hll (fun l hl => (hok l hl).2)
  generalize bestF x lot = q at hsp him
  obtain ⟨p0, p1, p2⟩ := q
  dsimp only at hsp him
  go_wp2_with fail
  refine Calls.mono (laws_toMix x _) ?_
  rintro e w2 ⟨rfl, hb2⟩
  have h2 : Ext w1 w2 := (Ext.refl w1).trans hb2
  have s2 := hb2.size
  have d0 := h2.cell c0
  have d1 := h2.cell c1
  have d2 := h2.cell c2
  have lc0 := World.block_lt_of_cell? _ _ d0
  dsimp only at lc0
  go_wp2_with fail
  refine Calls.mono (laws_toStringSS lot A cap _ (hR.ext h2) hn1 hll) ?_
  rintro e w3 ⟨v3, sv3, rfl, hO3, hb3⟩
  have h3 : Ext w1 w3 := h2.trans hb3
  have s3 := hb3.size
  have d0 := h3.cell c0
  have d1 := h3.cell c1
  have d2 := h3.cell c2
  have lc0 := World.block_lt_of_cell? _ _ d0
  dsimp only at lc0
  obtain ⟨A3, cap3, rfl, hle3, _⟩ := hO3.slice
  have bs3 := hO3
  go_wp2_with fail
  refine Calls.mono (hsp A3 cap3 _ hO3.rdA) ?_
  rintro e w4 ⟨rfl, hb4⟩
  have h4 : Ext w1 w4 := h3.trans hb4
  have hO3 := hO3.ext hb4
  have s4 := hb4.size
  have d0 := h4.cell c0
  have d1 := h4.cell c1
  have d2 := h4.cell c2
  have lc0 := World.block_lt_of_cell? _ _ d0
  dsimp only at lc0
  clear hO3
  go_wp2_with fail
  refine Calls.mono (laws_toStringSS lot A cap _ (hR.ext h4) hn1 hll) ?_
  rintro e w5 ⟨v5, sv5, rfl, hO5, hb5⟩
  have h5 : Ext w1 w5 := h4.trans hb5
  have s5 := hb5.size
  have d0 := h5.cell c0
  have d1 := h5.cell c1
  have d2 := h5.cell c2
  have lc0 := World.block_lt_of_cell? _ _ d0
  dsimp only at lc0
  obtain ⟨A5, cap5, rfl, hle5, _⟩ := hO5.slice
  have bs5 := hO5
  go_wp2_with fail
  refine Calls.mono (laws_toMix x _) ?_
  rintro e w6 ⟨rfl, hb6⟩
  have h6 : Ext w1 w6 := h5.trans hb6
  have hO5 := hO5.ext hb6
  have s6 := hb6.size
  have d0 := h6.cell c0
  have d1 := h6.cell c1
  have d2 := h6.cell c2
  have lc0 := World.block_lt_of_cell? _ _ d0
  dsimp only at lc0
  go_wp2_with fail
  refine Calls.mono (him A5 cap5 _ hO5.rdA hle5) ?_
  rintro e w7 ⟨rfl, hb7⟩
  have h7 : Ext w1 w7 := h6.trans hb7
  have hO5 := hO5.ext hb7
  have s7 := hb7.size
  have d0 := h7.cell c0
  have d1 := h7.cell c1
  have d2 := h7.cell c2
  have lc0 := World.block_lt_of_cell? _ _ d0
  dsimp only at lc0
  go_wp2_with fail
  refine Calls.mono (laws_toStringSS lot A cap _ (hR.ext h7) hn1 hll) ?_
  rintro e w8 ⟨v8, sv8, rfl, hO8, hb8⟩
  have h8 : Ext w1 w8 := h7.trans hb8
  have hO5 := hO5.ext hb8
  have s8 := hb8.size
  have d0 := h8.cell c0
  have d1 := h8.cell c1
  have d2 := h8.cell c2
  have lc0 := World.block_lt_of_cell? _ _ d0
  dsimp only at lc0
  obtain ⟨A8, cap8, rfl, hle8, _⟩ := hO8.slice
  have bs8 := hO8
  clear bs8
  go_wp2_with fail
  refine Calls.mono (laws_eqStringSS lot _ _ _ _ _ hO5.rdA hO8.rdA hn1 hll) ?_
  rintro e w9 ⟨rfl, hb9⟩
  have h9 : Ext w1 w9 := h8.trans hb9
  have hO5 := hO5.ext hb9
  have hO8 := hO8.ext hb9
  have s9 := hb9.size
  have d0 := h9.cell c0
  have d1 := h9.cell c1
  have d2 := h9.cell c2
  have lc0 := World.block_lt_of_cell? _ _ d0
  dsimp only at lc0
  clear hO8
  go_wp2
  go_ret
  exact ⟨rfl, hw1.trans h9⟩
end Go.Proofs.YtbmompanhigmnaaDoor
