/-
  The walk of the law FnExactDoubtsOf.
-/
import Derived.Test.YtknbebglabpegaaDoorF26
set_option linter.unusedVariables false
set_option linter.unusedSimpArgs false
set_option maxRecDepth 100000
namespace Go.Proofs.YtknbebglabpegaaDoor
open Go.RowKit
set_option maxHeartbeats 2000000 in
theorem laws_FnExactDoubtsOf (xs : List Fld) (A : Option Addr) (cap : Nat) (cs : List Crd) (B : Option Addr) (cap' : Nat) (w : World) (hn : xs.length ≤ 9223372036854775807) (hR : Rd encFld w A xs) (hok : ∀ x ∈ xs, FldIn x)
    (hm : cs.length ≤ 9223372036854775807) (hS : Rd encCrd w B cs) (hok' : ∀ x ∈ cs, CrdIn x) :
    Calls Tryd.prog 9 #[.slice A xs.length cap, .slice B cs.length cap'] w fun e w' => e = .returned (.bool true) ∧ Ext w w' := by
  have rr := eqL_refl fldEqB fldEqB_refl xs
  have rc := eqL_refl crdB crdB_refl cs
  go_enter Tryd.func9, Tryd.ntmps9
  go_wp2_with fail
  refine Calls.mono (laws_szFieldS xs A cap 1048576 (by omega) (by omega) hn _ hR (fun x hx => (hok x hx).2)) ?_
  rintro e w1 ⟨r, rfl, hr, hb1⟩
  by_cases hr0 : r < 0
  · go_wp2
    go_ret
    exact ⟨rfl, hb1⟩
  obtain ⟨g0, g1, g2⟩ := hr.resolve_left hr0
  have hn1 : xs.length ≤ 1048576 := by omega
  clear hr
  go_wp2_with fail
  refine Calls.mono (laws_szCardS cs B cap' r (by omega) (by omega) hm _ (hS.ext hb1) hok') ?_
  rintro e w2 ⟨r', rfl, hr', hb2⟩
  have h2 := hb1.trans hb2
  by_cases hr1 : r' < 0
  · go_wp2
    go_ret
    exact ⟨rfl, h2⟩
  obtain ⟨g3, g4, g5⟩ := hr'.resolve_left hr1
  have hm1 : cs.length ≤ 1048576 := by omega
  clear hr' hb1 hb2
  have hlen := doubts_len xs cs
  have hsp := fun (a : Option Addr) (n : Nat) (a' : Option Addr) (n' : Nat) (W : World) (h : Rd encFld W a xs) (h' : Rd encCrd W a' cs) => spec_DoubtsOf xs a n cs a' n' W h hn1 hok h' hm1 hok'
  have him := fun (a : Option Addr) (n : Nat) (a' : Option Addr) (n' : Nat) (W : World) (h : Rd encFld W a xs) (hc : xs.length ≤ n) (h' : Rd encCrd W a' cs) => impl_DoubtsOf xs a n cs a' n' W h hc hn1 hok h' hm1 hok'
  generalize doubtsF xs cs = q at hlen hsp him
  obtain ⟨ds, cd⟩ := q
  dsimp only at hlen hsp him
  have rd := eqL_refl dbtB dbtB_refl ds
  go_wp2_with fail
  refine Calls.mono (laws_toFieldS xs A cap _ (hR.ext h2) hn1) ?_
  rintro e w3 ⟨v3, rfl, hO3, hb3⟩
  obtain ⟨A3, cap3, rfl, hle3, _⟩ := hO3.slice
  have h3 := h2.trans hb3
  go_wp2_with fail
  refine Calls.mono (laws_toCardS cs B cap' _ (hS.ext h3) hm1) ?_
  rintro e w4 ⟨v4, rfl, hO4, hb4⟩
  obtain ⟨A4, cap4, rfl, hle4, _⟩ := hO4.slice
  have h4 := h3.trans hb4
  have hO3 := hO3.ext hb4
  go_wp2_with fail
  refine Calls.mono (hsp A3 cap3 A4 cap4 _ hO3.rdA hO4.rdA) ?_
  rintro e w5 ⟨v5, rfl, hO5, hb5⟩
  obtain ⟨A5, cap5, rfl, hle5, _⟩ := hO5.slice
  clear hO3
  clear hO4
  have h5 := h4.trans hb5
  have bs5 := hO5
  go_wp2_with fail
  refine Calls.mono (laws_toFieldS xs A cap _ (hR.ext h5) hn1) ?_
  rintro e w6 ⟨v6, rfl, hO6, hb6⟩
  obtain ⟨A6, cap6, rfl, hle6, _⟩ := hO6.slice
  have h6 := h5.trans hb6
  have hO5 := hO5.ext hb6
  have bs6 := hO6
  have ap56 := Apart.of bs5 bs6 (Nat.le_refl _)
  go_wp2_with fail
  refine Calls.mono (laws_toCardS cs B cap' _ (hS.ext h6) hm1) ?_
  rintro e w7 ⟨v7, rfl, hO7, hb7⟩
  obtain ⟨A7, cap7, rfl, hle7, _⟩ := hO7.slice
  have h7 := h6.trans hb7
  have hO5 := hO5.ext hb7
  have hO6 := hO6.ext hb7
  have bs7 := hO7
  have ap57 := Apart.of bs5 bs7 hb6.size
  have ap76 := Apart.of' bs6 bs7 (Nat.le_refl _)
  go_wp2_with fail
  refine Calls.mono (him A6 cap6 A7 cap7 _ hO6.rdA hle6 hO7.rdA) ?_
  rintro e w8 ⟨v8, rfl, hO8, hb8⟩
  obtain ⟨A8, cap8, rfl, hle8, _⟩ := hO8.slice
  have h8 := h7.trans hb8
  have hO5 := hO5.ext hb8
  have hO6 := hO6.ext hb8
  have hO7 := hO7.ext hb8
  have bs8 := hO8
  have ap58 := Apart.of bs5 bs8 (hb6.trans hb7).size
  have ap86 := Apart.of' bs6 bs8 hb7.size
  have ap87 := Apart.of' bs7 bs8 (Nat.le_refl _)
  have base6 : w.heap.size ≤ w5.heap.size := h5.size
  have base7 : w.heap.size ≤ w6.heap.size := h6.size
  have base8 : w.heap.size ≤ w7.heap.size := h7.size
  clear bs5 bs6 bs7 bs8
  go_wp2_with fail
  refine Calls.mono (laws_eqDoubtS ds ds _ _ _ _ _ hO8.rdA hO5.rdA hlen hlen) ?_
  rintro e w9 ⟨rfl, hb9⟩
  rw [rd]
  have h9 := h8.trans hb9
  have hO5 := hO5.ext hb9
  have hO6 := hO6.ext hb9
  have hO7 := hO7.ext hb9
  have hO8 := hO8.ext hb9
  go_wp2_with fail
  refine Calls.mono (laws_toFieldS xs A cap _ (hR.ext h9) hn1) ?_
  rintro e w10 ⟨v10, rfl, hO10, hb10⟩
  obtain ⟨A10, cap10, rfl, hle10, _⟩ := hO10.slice
  have h10 := h9.trans hb10
  have hO5 := hO5.ext hb10
  have hO6 := hO6.ext hb10
  have hO7 := hO7.ext hb10
  have hO8 := hO8.ext hb10
  go_wp2_with fail
  refine Calls.mono (laws_eqFieldS xs xs _ _ _ _ _ hO6.rdA hO10.rdA hn1 hn1) ?_
  rintro e w11 ⟨rfl, hb11⟩
  rw [rr]
  clear hO10
  have h11 := h10.trans hb11
  have hO5 := hO5.ext hb11
  have hO6 := hO6.ext hb11
  have hO7 := hO7.ext hb11
  have hO8 := hO8.ext hb11
  go_wp2_with fail
  refine Calls.mono (laws_toCardS cs B cap' _ (hS.ext h11) hm1) ?_
  rintro e w12 ⟨v12, rfl, hO12, hb12⟩
  obtain ⟨A12, cap12, rfl, hle12, _⟩ := hO12.slice
  have h12 := h11.trans hb12
  have hO5 := hO5.ext hb12
  have hO6 := hO6.ext hb12
  have hO7 := hO7.ext hb12
  have hO8 := hO8.ext hb12
  go_wp2_with fail
  refine Calls.mono (laws_eqCardS cs cs _ _ _ _ _ hO7.rdA hO12.rdA hm1 hm1) ?_
  rintro e w13 ⟨rfl, hb13⟩
  rw [rc]
  clear hO12
  have h13 := h12.trans hb13
  have hO5 := hO5.ext hb13
  have hO6 := hO6.ext hb13
  have hO7 := hO7.ext hb13
  have hO8 := hO8.ext hb13
  go_wp2_with fail
  refine Calls.mono (laws_markFieldS xs _ 1 _ _ hO6 hn1 (by omega)) ?_
  rintro e w14 ⟨rfl, gr14⟩
  have h14 := h13.mark hO6 base6 gr14
  have hO5 := hO5.apart gr14 ap56
  have hO7 := hO7.apart gr14 ap76
  have hO8 := hO8.apart gr14 ap86
  clear hO6
  clear gr14 ap56 ap76 ap86
  have hmk := laws_markCardS cs _ (1 + 4 * xs.length) _ _ hO7 hm1 (by omega)
  rw [show ((1 + 4 * xs.length : Nat) : Int) = 1 + 4 * (xs.length : Int) by omega] at hmk
  go_wp2_with fail
  refine Calls.mono hmk ?_
  rintro e w15 ⟨rfl, gr15⟩
  have h15 := h14.mark hO7 base7 gr15
  have hO5 := hO5.apart gr15 ap57
  have hO8 := hO8.apart gr15 ap87
  clear hO7
  clear gr15 ap57 ap87 hmk
  have hkk : ¬ ((1 : Int) + 4 * xs.length + 3 * cs.length < 0) := by omega
  go_wp2_with fail
  refine Calls.mono (laws_eqDoubtS ds ds _ _ _ _ _ hO8.rdA hO5.rdA hlen hlen) ?_
  rintro e w16 ⟨rfl, hb16⟩
  rw [rd]
  have h16 := h15.trans hb16
  have hO5 := hO5.ext hb16
  have hO8 := hO8.ext hb16
  go_wp2_with fail
  refine Calls.mono (laws_markDoubtS ds _ 1 _ _ hO8 hlen (by omega)) ?_
  rintro e w17 ⟨rfl, hM8, gr17⟩
  have h17 := h16.mark hO8 base8 gr17
  have hO5 := hO5.apart gr17 ap58
  clear hO8
  clear gr17 ap58
  go_wp2_with fail
  refine Calls.mono (laws_heldDoubtS ds.length _ _ 1 _ hM8.rdA hlen (by omega)) ?_
  rintro e w18 ⟨rfl, hb18⟩
  have h18 := h17.trans hb18
  have hO5 := hO5.ext hb18
  have hM8 := hM8.ext hb18
  go_wp2_with fail
  refine Calls.mono (laws_toFieldS xs A cap _ (hR.ext h18) hn1) ?_
  rintro e w19 ⟨v19, rfl, hO19, hb19⟩
  obtain ⟨A19, cap19, rfl, hle19, _⟩ := hO19.slice
  have h19 := h18.trans hb19
  have hO5 := hO5.ext hb19
  have hM8 := hM8.ext hb19
  go_wp2_with fail
  refine Calls.mono (laws_toCardS cs B cap' _ (hS.ext h19) hm1) ?_
  rintro e w20 ⟨v20, rfl, hO20, hb20⟩
  obtain ⟨A20, cap20, rfl, hle20, _⟩ := hO20.slice
  have h20 := h19.trans hb20
  have hO5 := hO5.ext hb20
  have hM8 := hM8.ext hb20
  have hO19 := hO19.ext hb20
  go_wp2_with fail
  refine Calls.mono (him A19 cap19 A20 cap20 _ hO19.rdA hle19 hO20.rdA) ?_
  rintro e w21 ⟨v21, rfl, hO21, hb21⟩
  obtain ⟨A21, cap21, rfl, hle21, _⟩ := hO21.slice
  clear hO19
  clear hO20
  have h21 := h20.trans hb21
  have hO5 := hO5.ext hb21
  have hM8 := hM8.ext hb21
  go_wp2_with fail
  refine Calls.mono (laws_eqDoubtS ds ds _ _ _ _ _ hO21.rdA hO5.rdA hlen hlen) ?_
  rintro e w22 ⟨rfl, hb22⟩
  rw [rd]
  have h22 := h21.trans hb22
  have hO5 := hO5.ext hb22
  have hM8 := hM8.ext hb22
  have hO21 := hO21.ext hb22
  go_wp2_with fail
  refine Calls.mono (laws_heldDoubtS ds.length _ _ 1 _ hM8.rdA hlen (by omega)) ?_
  rintro e w23 ⟨rfl, hb23⟩
  go_wp2
  go_ret
  exact ⟨rfl, h22.trans hb23⟩
end Go.Proofs.YtknbebglabpegaaDoor
