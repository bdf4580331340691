/-
  The walk of the law FnSizes.
-/
import Derived.Test.YtegopgpnjgikeaaGreatDoorSZX
set_option linter.unusedVariables false
set_option linter.unusedSimpArgs false
set_option maxRecDepth 100000
namespace Go.Proofs.YtegopgpnjgikeaaGreatDoor
open Go.RowKit
theorem voc_nodup : vocL.Nodup := by decide +kernel
theorem words_vocS {ws : List ByteArray} (h : ∀ s ∈ ws, s ∈ vocL) (hl : ws.length ≤ 12) : wordsB ws 12 = true := by
  unfold wordsB
  rw [decide_eq_true (by omega), Bool.true_and, List.all_eq_true]
  exact fun s hs => List.all_eq_true.1 voc_good s (h s hs)
theorem one_voc {s : ByteArray} (h : s ∈ vocL) : wordsB [s] 12 = true := words_vocS (fun z hz => by rw [List.mem_singleton.1 hz]; exact h) (by simp)
theorem lot_voc {lot : List (List ByteArray)} (h6 : lot.length ≤ 60) (h : ∀ l ∈ lot, (∀ s ∈ l, s ∈ vocL) ∧ l.length ≤ 12) : lotB lot = true := by
  unfold lotB
  rw [decide_eq_true h6, Bool.true_and, List.all_eq_true]
  exact fun l hl => words_vocS (h l hl).1 (h l hl).2
theorem mixLot_okS {x : Mx} {lot : List (List ByteArray)} (h : mixB x = true) (h2 : lotB lot = true) : mixLotF x lot = (masksL x lot, 0) := by unfold mixLotF; rw [if_pos h, if_pos h2]
theorem masks_valid {x : Mx} (hx : mixB x = true) (lot : List (List ByteArray)) : (masksL x lot).all isMaskB = true := by
  unfold masksL
  rw [List.all_eq_true]
  intro m hm
  obtain ⟨l, _, rfl⟩ := List.mem_map.1 hm
  exact wallM_mask hx l
theorem masks_part {x : Mx} (hx : mixB x = true) (lot : List (List ByteArray)) : ∀ m ∈ masksL x lot, mmeet m (partX x) = m := by
  unfold masksL
  intro m hm
  obtain ⟨l, _, rfl⟩ := List.mem_map.1 hm
  exact wallM_part hx l
theorem falseL_le (x : Mx) (lot : List (List ByteArray)) (s : ByteArray) (h : lot.length ≤ 60) : (falseL x lot [s]).length ≤ 60 := Nat.le_trans (idxTo_len _ _) h
theorem rd_strS {W : World} {b : Nat} {s : ByteArray} {t : TypeId} (hb : b = W.heap.size) : Rd encStr (W.alloc (.cells #[.string s] t)) (some ⟨b, 0, none⟩) [s] := by
  subst hb
  exact Rd.lit encStr W [s] _ t (by simp) rfl
theorem laws_f6big (cs : List UInt8) (A : Option Addr) (cap : Nat) (w : World) :
    Calls Tryz.prog 4 #[.slice A cs.length cap] w fun e w' => e = .returned (.bool (decide (4096 < cs.length))) ∧ Ext w w' := by
  have e : decide ((4096 : Int) < (cs.length : Int)) = decide (4096 < cs.length) := by rw [decide_eq_decide]; omega
  by_cases h : 4096 < cs.length
  · have h' : (4096 : Int) < (cs.length : Int) := by omega
    rw [decide_eq_true h]
    go_enter Tryz.func4, Tryz.ntmps4
    go_wp2
    go_ret
    exact ⟨by simp [h'], Ext.refl _⟩
  · have h' : ((4096 : Int) < (cs.length : Int)) = False := eq_false (by omega)
    rw [decide_eq_false h]
    go_enter Tryz.func4, Tryz.ntmps4
    go_wp2
    go_ret
    exact ⟨by simp [h'], Ext.refl _⟩
set_option maxHeartbeats 40000000 in
theorem laws_FnSizes (cs ds : List UInt8) (A B : Option Addr) (cap cap' : Nat) (w : World) (hn : cs.length ≤ 9223372036854775807) (hR : Rd encU8 w A cs) (hm : ds.length ≤ 9223372036854775807) (hS : Rd encU8 w B ds) :
    Calls Tryz.prog 3 #[.slice A cs.length cap, .slice B ds.length cap'] w fun e w' => e = .returned (.bool true) ∧ Ext w w' := by
  have hx := @ExtOf.cell
  have b1 := fun W => laws_f6big cs A cap W
  have b2 := fun W => laws_f6big ds B cap' W
  by_cases h1 : 4096 < cs.length
  · rw [decide_eq_true h1] at b1
    go_enter Tryz.func3, Tryz.ntmps3
    go_wp2_with fail
    refine Calls.mono (b1 _) ?_
    rintro e w1 ⟨rfl, hb1⟩
    go_wp2
    go_ret
    exact ⟨rfl, hb1⟩
  rw [decide_eq_false h1] at b1
  by_cases h2 : 4096 < ds.length
  · rw [decide_eq_true h2] at b2
    go_enter Tryz.func3, Tryz.ntmps3
    go_wp2_with fail
    refine Calls.mono (b1 _) ?_
    rintro e w1 ⟨rfl, hb1⟩
    go_wp2_with fail
    refine Calls.mono (b2 _) ?_
    rintro e w2 ⟨rfl, hb2⟩
    go_wp2
    go_ret
    exact ⟨rfl, hb1.trans hb2⟩
  rw [decide_eq_false h2] at b2
  go_enter Tryz.func3, Tryz.ntmps3
  go_wp2_with fail
  refine Calls.mono (b1 _) ?_
  rintro e w1 ⟨rfl, hb1⟩
  go_wp2_with fail
  refine Calls.mono (b2 _) ?_
  rintro e w2 ⟨rfl, hb2⟩
  have hw2 := hb1.trans hb2
  clear hb1 hb2 b1 b2
  go_wp2_with fail
  refine intro_world (R := fun W => Calls _ _ _ W _) (fun W10 hN => ?_)
  have dW10 : Ext w2 W10 := by rw [hN]; exact (Ext.refl _)
  have eW10 := hw2.trans dW10
  clear hN
  refine Calls.mono (spec_P6Mix cs A cap W10 (hR.ext eW10) (by omega)) ?_
  rintro e w11 ⟨x, rfl, hmx, hxi, hb11⟩
  have hw11 := eW10.trans hb11
  clear hb11 dW10 eW10
  go_wp2_with fail
  refine intro_world (R := fun W => Calls _ _ _ W _) (fun W11 hN => ?_)
  have dW11 : Ext w11 W11 := by rw [hN]; exact (Ext.refl _).alloc _
  have eW11 := hw11.trans dW11
  have Xx : BoxAt W11 w11.heap.size #[.int .i16 x.st, .int .i16 x.sz, .int .i16 x.per] 26 := by rw [hN]; exact (BoxAt.new' rfl)
  clear hN
  refine Calls.mono (spec_P6Lot ds B cap' W11 (hS.ext eW11) (by omega)) ?_
  rintro e w12 ⟨lot, L, lcap, rfl, hL, hlc, hl6, hlw, hb12⟩
  have hw12 := eW11.trans hb12
  replace Xx := Xx.ext hb12
  clear hb12 dW11 eW11
  have hll : ∀ l ∈ lot, l.length ≤ 1048576 := fun l h => by have := (hlw l h).1; omega
  have hok : ∀ l ∈ lot, ∀ s ∈ l, StrIn s := fun l h s hs => voc_in s ((hlw l h).2 s hs)
  have hlb : lotB lot = true := lot_voc (by omega) (fun l h => ⟨(hlw l h).2, by have := (hlw l h).1; omega⟩)
  obtain ⟨per, least, k1, k2, k3, k4, k5⟩ := sizes_best hmx hlb
  have hva := volTo_all x lot vocL voc_nodup (fun l h s hs => (hlw l h).2 s hs)
  rw [voc_len] at hva
  have hvl := volTo_le x lot vocL (by omega)
  obtain ⟨nF, hnF⟩ : ∃ nF, sumF x lot = nF := ⟨_, rfl⟩
  rw [hnF] at k2 hva
  have hnb : nF ≤ 840 := by have := hvl 14 (by rw [voc_len]; omega); omega
  have c1 := fun W h => impl_CountFalse x hxi lot L lcap W h (by omega) hll hok
  have c2 := fun W h => spec_CountFalse x hxi lot L lcap W h (by omega) hll hok
  rw [count_ok hmx hlb, hnF] at c1 c2
  have c3 := fun W h => impl_BestPer x hxi lot L lcap W h (by omega) hll hok
  have c4 := fun W h => spec_BestPer x hxi lot L lcap W h (by omega) hll hok
  rw [k1] at c3 c4
  try dsimp only at c1 c2 c3 c4
  have c5 := fun (j : Nat) (j1 : 1 ≤ j) (j2 : j ≤ 8) (j3 : 2 * (j : Int) ≤ x.sz) W h => impl_CountFalse ⟨x.st, x.sz, (j : Int)⟩ ⟨hxi.1, hxi.2.1, by show -32768 ≤ (j : Int); omega, by show (j : Int) < 32768; omega⟩ lot L lcap W h (by omega) hll hok
  have c5b := fun (j : Nat) (j1 : 1 ≤ j) (j2 : j ≤ 8) (j3 : 2 * (j : Int) ≤ x.sz) => count_ok (mix_per hmx (show 1 ≤ (j : Int) by omega) (by omega) j3) hlb
  have c6 := fun W h => spec_MixLot x hxi lot L lcap W h (by omega) hll hok
  rw [mixLot_okS hmx hlb] at c6
  try dsimp only at c6
  have hmv := masks_valid hmx lot
  have hmp := masks_part hmx lot
  have hml := masksL_len x lot
  generalize masksL x lot = ms at c6 hmv hmp hml
  have d1 := fun (s : ByteArray) (hs : s ∈ vocL) (Q : Option Addr) W h h2 => impl_TrueOf lot L lcap [s] Q 1 hlb (one_voc hs) W h (by omega) hll hok h2 (by simp) (fun z hz => by rw [List.mem_singleton.1 hz]; exact voc_in s hs)
  have d2 := fun (s : ByteArray) (hs : s ∈ vocL) (Q : Option Addr) W h h2 => impl_FalseOf x hxi lot L lcap [s] Q 1 W h (by omega) hll hok h2 (by simp) (fun z hz => by rw [List.mem_singleton.1 hz]; exact voc_in s hs)
  have d3 := fun (s : ByteArray) (hs : s ∈ vocL) => false_ok (lot := lot) (ws := [s]) hmx (by rw [hlb, one_voc hs]; rfl)
  have hvh := fun k h => volTo_hit (x := x) (lot := lot) (V := vocL) (k := k) h
  have hvm := fun k h => volTo_miss (x := x) (lot := lot) (V := vocL) (k := k) h
  have hv00 := volTo_zero x lot vocL
  have hts := fun s => true_some lot s
  have hfl := fun s => falseL_le x lot s (by omega)
  replace k5 := hd k5
  replace hlw := hd hlw
  replace hll := hd hll
  replace hok := hd hok
  replace hvl := hd hvl
  replace hva := hd hva
  replace hmv := hd hmv
  replace hmp := hd hmp
  replace hml := hd hml
  replace d3 := hd d3
  replace c5b := hd c5b
  replace hvh := hd hvh
  replace hvm := hd hvm
  replace hv00 := hd hv00
  replace hts := hd hts
  replace hfl := hd hfl
  clear k1 hlb hnF
  have f1 : (least : Int) ≤ (nF : Int) := by omega
  have yx0 : w12.cell? ⟨w11.heap.size, 0, none⟩ = some (.int .i16 x.st) := Xx.cell 0
  have yx1 : w12.cell? ⟨w11.heap.size, 1, none⟩ = some (.int .i16 x.sz) := Xx.cell 1
  have yx2 : w12.cell? ⟨w11.heap.size, 2, none⟩ = some (.int .i16 x.per) := Xx.cell 2
  have lx := Xx.lt
  go_wp2_with fail
  refine intro_world (R := fun W => Calls _ _ _ W _) (fun W12 hN => ?_)
  have dW12 : Ext w12 W12 := by rw [hN]; exact (Ext.refl _)
  have eW12 := hw12.trans dW12
  replace Xx := Xx.ext dW12
  replace hL := hL.ext dW12
  clear hN
  clear yx0 yx1 yx2 lx
  refine Calls.mono (c1 W12 hL) ?_
  rintro e w13 ⟨rfl, hb13⟩
  have hw13 := eW12.trans hb13
  replace Xx := Xx.ext hb13
  replace hL := hL.ext hb13
  clear hb13 dW12 eW12
  have yx0 : w13.cell? ⟨w11.heap.size, 0, none⟩ = some (.int .i16 x.st) := Xx.cell 0
  have yx1 : w13.cell? ⟨w11.heap.size, 1, none⟩ = some (.int .i16 x.sz) := Xx.cell 1
  have yx2 : w13.cell? ⟨w11.heap.size, 2, none⟩ = some (.int .i16 x.per) := Xx.cell 2
  have lx := Xx.lt
  go_wp2_with fail
  refine intro_world (R := fun W => Calls _ _ _ W _) (fun W13 hN => ?_)
  have dW13 : Ext w13 W13 := by rw [hN]; exact (Ext.refl _)
  have eW13 := hw13.trans dW13
  replace Xx := Xx.ext dW13
  replace hL := hL.ext dW13
  clear hN
  clear yx0 yx1 yx2 lx
  refine Calls.mono (c2 W13 hL) ?_
  rintro e w14 ⟨rfl, hb14⟩
  have hw14 := eW13.trans hb14
  replace Xx := Xx.ext hb14
  replace hL := hL.ext hb14
  clear hb14 dW13 eW13
  have yx0 : w14.cell? ⟨w11.heap.size, 0, none⟩ = some (.int .i16 x.st) := Xx.cell 0
  have yx1 : w14.cell? ⟨w11.heap.size, 1, none⟩ = some (.int .i16 x.sz) := Xx.cell 1
  have yx2 : w14.cell? ⟨w11.heap.size, 2, none⟩ = some (.int .i16 x.per) := Xx.cell 2
  have lx := Xx.lt
  go_wp2_with fail
  refine intro_world (R := fun W => Calls _ _ _ W _) (fun W14 hN => ?_)
  have dW14 : Ext w14 W14 := by rw [hN]; exact (Ext.refl _)
  have eW14 := hw14.trans dW14
  replace Xx := Xx.ext dW14
  replace hL := hL.ext dW14
  clear hN
  clear yx0 yx1 yx2 lx
  refine Calls.mono (c3 W14 hL) ?_
  rintro e w15 ⟨rfl, hb15⟩
  have hw15 := eW14.trans hb15
  replace Xx := Xx.ext hb15
  replace hL := hL.ext hb15
  clear hb15 dW14 eW14
  have yx0 : w15.cell? ⟨w11.heap.size, 0, none⟩ = some (.int .i16 x.st) := Xx.cell 0
  have yx1 : w15.cell? ⟨w11.heap.size, 1, none⟩ = some (.int .i16 x.sz) := Xx.cell 1
  have yx2 : w15.cell? ⟨w11.heap.size, 2, none⟩ = some (.int .i16 x.per) := Xx.cell 2
  have lx := Xx.lt
  go_wp2_with fail
  refine intro_world (R := fun W => Calls _ _ _ W _) (fun W15 hN => ?_)
  have dW15 : Ext w15 W15 := by rw [hN]; exact (Ext.refl _)
  have eW15 := hw15.trans dW15
  replace Xx := Xx.ext dW15
  replace hL := hL.ext dW15
  clear hN
  clear yx0 yx1 yx2 lx
  refine Calls.mono (c4 W15 hL) ?_
  rintro e w16 ⟨rfl, hb16⟩
  have hw16 := eW15.trans hb16
  replace Xx := Xx.ext hb16
  replace hL := hL.ext hb16
  clear hb16 dW15 eW15
  clear c1 c2 c3 c4
  go_wp2_with fail
  refine intro_world (R := fun W => Calls _ _ _ W _) (fun W16 hN => ?_)
  have dW16 : Ext w16 W16 := by rw [hN]; exact (Ext.refl _)
  have eW16 := hw16.trans dW16
  replace Xx := Xx.ext dW16
  replace hL := hL.ext dW16
  clear hN
  refine Calls.mono (spec_P6Vocabulary W16) ?_
  rintro e w17 ⟨bV, rfl, hV, hv0, hv1, hb17⟩
  have hw17 := eW16.trans hb17
  replace Xx := Xx.ext hb17
  replace hL := hL.ext hb17
  clear hb17 dW16 eW16
  clear hv0 hv1
  go_wp2
  go_loopg [17, 19] 15 (fun g sv iv wr => ∃ k : Nat, g = 15 - k ∧ k ≤ 14 ∧ sv = .int .i64 ((volTo x lot vocL k : Nat) : Int) ∧ iv = .int .i64 (k : Int) ∧ Ext w17 wr)
  case atStart => exact ⟨0, rfl, by omega, by rw [hv00.out]; rfl, rfl, Ext.refl _⟩
  case round =>
    obtain ⟨k, hg, hk, rfl, rfl, hr⟩ := hrel
    have hwr := hw17.trans hr
    replace Xx := Xx.ext hr
    replace hL := hL.ext hr
    replace hV := hV.ext hr
    by_cases hk14 : k < 14
    · have hkv : k < vocL.length := by rw [voc_len]; exact hk14
      have m0 := hV.str k hkv
      rw [Nat.zero_add] at m0
      have lm := World.block_lt_of_cell? _ _ m0
      dsimp only at lm
      have hk2 : (k : Int) < 14 := by omega
      have e2 : IntKind.i64.wrap ((k : Int) + 1) = ((k + 1 : Nat) : Int) := (IntWalk.i64_in _ (by omega)).trans (by omega)
      have hvk := hvl.out k (by rw [voc_len]; omega)
      have hh := hvh.out k hkv
      have hmi := hvm.out k hkv
      have hsm := List.getElem_mem hkv
      generalize vocL[k] = s at m0 hh hmi hsm
      have g1 := d1 s hsm
      have g2 := d2 s hsm
      rw [d3.out s hsm] at g2
      try dsimp only at g2
      have hs1 := hts.out s
      have hf1 := hfl.out s
      generalize volTo x lot vocL k = vk at hh hmi hvk ⊢
      generalize trueL lot [s] lot.length = tl at g1 hs1
      generalize falseL x lot [s] = fl at g2 hh hf1
      clear hsm
      go_wp2_with fail
      refine intro_world (R := fun W => Calls _ _ _ W _) (fun W71 hN => ?_)
      have hs71 : Rd encStr W71 (some ⟨wr.heap.size, 0, none⟩) [s] := by rw [hN]; exact rd_strS rfl
      have e71 : Ext wr W71 := by rw [hN]; exact (Ext.refl _).alloc _
      clear hN
      refine Calls.mono (g1 _ W71 (hL.ext e71) hs71) ?_
      rintro e w71 ⟨v71, rfl, hO71, hb71⟩
      obtain ⟨A71, cap71, rfl, hle71, hR71⟩ := hO71.slice
      have E71 := e71.trans hb71
      clear hO71 hR71 hs71 e71 hb71 hle71 g1
      replace m0 := E71.cell m0
      replace Xx := Xx.ext E71
      replace hL := hL.ext E71
      have hr71 := hr.trans E71
      clear E71 lm
      go_wp2
      have hS0 : ∀ W, Ext w71 W → (fun W => W.cell? ⟨w11.heap.size, 0, none⟩ = some (.int .i16 x.st) ∧ W.cell? ⟨w11.heap.size, 1, none⟩ = some (.int .i16 x.sz) ∧ W.cell? ⟨w11.heap.size, 2, none⟩ = some (.int .i16 x.per) ∧ W.cell? ⟨bV, k, none⟩ = some (.string s)) W := fun W h => ⟨h.cell (Xx.cell 0), h.cell (Xx.cell 1), h.cell (Xx.cell 2), h.cell m0⟩
      refine wp_region_held (S := (fun W => W.cell? ⟨w11.heap.size, 0, none⟩ = some (.int .i16 x.st) ∧ W.cell? ⟨w11.heap.size, 1, none⟩ = some (.int .i16 x.sz) ∧ W.cell? ⟨w11.heap.size, 2, none⟩ = some (.int .i16 x.per) ∧ W.cell? ⟨bV, k, none⟩ = some (.string s))) (by kernel_rfl) ?_
      change wpAnyH _ _ _ _ _ _ _ _ (World.drew _)
      refine intro_world (fun WD hWD => ?_)
      have eD : Ext w71 WD := by rw [hWD]; exact (Ext.refl _).drew
      clear hWD
      refine wpAnyH_take (i := 0) (v := ?_) rfl (by kernel_rfl) (by kernel_rfl) (by kernel_rfl) (fun _ _ _ h => h) (Or.inl ⟨by rfl, ?_⟩) (hS0 _ eD) ?_
      rotate_left
      · (intro W9 hW9; obtain ⟨z0, z1, z2, z3⟩ := hW9; go_simp; try with_reducible rfl)
      try simp only [Act.put, List.setIfInBounds_toArray, List.set_cons_zero, List.set_cons_succ]
      refine wpAnyH_take (i := 1) (v := ?_) rfl (by kernel_rfl) (by kernel_rfl) (by kernel_rfl) (fun _ _ _ h => h) (Or.inl ⟨by rfl, ?_⟩) (hS0 _ eD) ?_
      rotate_left
      · (intro W9 hW9; obtain ⟨z0, z1, z2, z3⟩ := hW9; go_simp; try with_reducible rfl)
      try simp only [Act.put, List.setIfInBounds_toArray, List.set_cons_zero, List.set_cons_succ]
      refine wpAnyH_take (i := 2) (v := ?_) rfl (by kernel_rfl) (by kernel_rfl) (by kernel_rfl) (fun _ _ _ h => h) (Or.inl ⟨by rfl, ?_⟩) (hS0 _ eD) ?_
      rotate_left
      · (intro W9 hW9; obtain ⟨z0, z1, z2, z3⟩ := hW9; go_simp; try with_reducible rfl)
      try simp only [Act.put, List.setIfInBounds_toArray, List.set_cons_zero, List.set_cons_succ]
      refine wpAnyH_take (i := 3) (v := ?_) rfl (by kernel_rfl) (by kernel_rfl) (by kernel_rfl) (fun _ _ _ h => h) (Or.inl ⟨by rfl, ?_⟩) (hS0 _ eD) ?_
      rotate_left
      · (intro W9 hW9; obtain ⟨z0, z1, z2, z3⟩ := hW9; go_simp; try with_reducible rfl)
      try simp only [Act.put, List.setIfInBounds_toArray, List.set_cons_zero, List.set_cons_succ]
      refine wpAnyH_take (i := 4) (v := ?_) rfl (by kernel_rfl) (by kernel_rfl) (by kernel_rfl) (fun _ _ _ h => h) (Or.inl ⟨by rfl, ?_⟩) (hS0 _ eD) ?_
      rotate_left
      · (intro W9 hW9; obtain ⟨z0, z1, z2, z3⟩ := hW9; go_simp; try with_reducible rfl)
      try simp only [Act.put, List.setIfInBounds_toArray, List.set_cons_zero, List.set_cons_succ]
      refine wpAnyH_take (i := 5) (v := ?_) rfl (by kernel_rfl) (by kernel_rfl) (by kernel_rfl) (fun _ _ _ h => h) (Or.inl ⟨by rfl, ?_⟩) (hS0 _ eD) ?_
      rotate_left
      · (intro W9 hW9; obtain ⟨z0, z1, z2, z3⟩ := hW9; go_simp; try with_reducible rfl)
      try simp only [Act.put, List.setIfInBounds_toArray, List.set_cons_zero, List.set_cons_succ]
      refine wpAnyH_ready (rs := [6]) (by kernel_rfl) (by simp) ?_
      refine AllReadyH.cons rfl (fun K hK => ?_) (AllReadyH.nil)
      go_simp
      refine hK.out _ _ (hS0 _ (eD.alloc _)) (fun _ => ?_)
      clear hK K
      refine intro_world (fun W72 hN => ?_)
      have hs72 : Rd encStr W72 (some ⟨WD.heap.size, 0, none⟩) [s] := by rw [hN]; exact rd_strS rfl
      have e72 : Ext w71 W72 := by rw [hN]; exact eD.alloc _
      clear hN
      refine wpAnyH_ready (rs := [7]) (by kernel_rfl) (by simp) ?_
      refine AllReadyH.cons rfl (fun K hK => ?_) (AllReadyH.nil)
      go_simp
      go_wp2_with fail
      refine Calls.mono (g2 _ W72 (hL.ext e72) hs72) ?_
      rintro e w73 ⟨v73, rfl, hO73, hb73⟩
      obtain ⟨A73, cap73, rfl, hle73, hR73⟩ := hO73.slice
      have E73 := e72.trans hb73
      clear hO73 hR73 hs72 e72 hb73 hle73 g2
      go_simp
      refine hK.out _ _ (hS0 _ E73) (fun _ => ?_)
      clear hK K
      refine wpAnyH_take (i := 8) (v := ?_) rfl (by kernel_rfl) (by kernel_rfl) (by kernel_rfl) (fun _ _ _ h => h) (Or.inl ⟨by rfl, ?_⟩) (hS0 _ E73) ?_
      rotate_left
      · (intro W9 hW9; obtain ⟨z0, z1, z2, z3⟩ := hW9; go_simp; try with_reducible rfl)
      try simp only [Act.put, List.setIfInBounds_toArray, List.set_cons_zero, List.set_cons_succ]
      refine wpAnyH_take (i := 9) (v := ?_) rfl (by kernel_rfl) (by kernel_rfl) (by kernel_rfl) (fun _ _ _ h => h) (Or.inl ⟨by rfl, ?_⟩) (hS0 _ E73) ?_
      rotate_left
      · (intro W9 hW9; obtain ⟨z0, z1, z2, z3⟩ := hW9; go_simp; try with_reducible rfl)
      try simp only [Act.put, List.setIfInBounds_toArray, List.set_cons_zero, List.set_cons_succ]
      refine wpAnyH_take (i := 10) (v := ?_) rfl (by kernel_rfl) (by kernel_rfl) (by kernel_rfl) (fun _ _ _ h => h) (Or.inl ⟨by rfl, ?_⟩) (hS0 _ E73) ?_
      rotate_left
      · (intro W9 hW9; obtain ⟨z0, z1, z2, z3⟩ := hW9; go_simp; try with_reducible rfl)
      try simp only [Act.put, List.setIfInBounds_toArray, List.set_cons_zero, List.set_cons_succ]
      refine wpAnyH_ready (rs := [11]) (by kernel_rfl) (by simp) ?_
      refine AllReadyH.cons rfl (fun K hK => ?_) (AllReadyH.nil)
      go_simp
      refine hK.out _ _ (hS0 _ E73) (fun _ => ?_)
      clear hK K
      refine wpAnyH_ready (rs := [12]) (by kernel_rfl) (by simp) ?_
      refine AllReadyH.cons rfl (fun K hK => ?_) (AllReadyH.nil)
      go_simp
      refine hK.out _ _ (hS0 _ E73) (fun _ => ?_)
      clear hK K
      refine wpAnyH_done (by kernel_rfl) ?_ _
      have hr73 := hr71.trans E73
      clear hS0 E73 m0
      cases hq : lot.flatten.contains s with
      | true =>
        have hv := hd (hh hq)
        rw [hq] at hs1
        have ht0 : 0 < tl.length := of_decide_eq_true hs1
        have ht1 : (0 : Int) < tl.length := by omega
        have e3 : IntKind.i64.wrap ((vk : Int) + (fl.length : Int)) = ((vk + fl.length : Nat) : Int) := (IntWalk.i64_in _ (by omega)).trans (by omega)
        clear hh hmi hq hs1
        go_wp2
        go_roundg (15 - (k + 1))
        case rel => exact ⟨k + 1, rfl, by omega, by rw [hv.out]; first | rfl | simp, by first | rfl | simp, hr73⟩
        case measure => omega
      | false =>
        have hv := hd (hmi hq)
        rw [hq] at hs1
        have ht0 : ¬ 0 < tl.length := of_decide_eq_false hs1
        have ht1 : tl.length = 0 := by omega
        have ht2 : ((0 : Int) < (tl.length : Int)) = False := eq_false (by omega)
        have ht3 : (0 < tl.length) = False := eq_false ht0
        clear hh hmi hq hs1 ht0 ht1
        go_wp2
        go_roundg (15 - (k + 1))
        case rel => exact ⟨k + 1, rfl, by omega, by rw [hv.out], by first | rfl | simp, hr73⟩
        case measure => omega
    · obtain rfl : k = 14 := by omega
      rw [hva.out]
      clear hvh hvm hv00 hts hfl d1 d2 d3 hvl hva hg hk hk14
      have hsz := hxi.2.1
      obtain ⟨wo, hwo⟩ : ∃ x, x = wr := ⟨_, rfl⟩
      subst hwo
      clear hV
      go_wp2
      go_loopg [24] 9 (fun g kv wr => ∃ j : Nat, g = 10 - j ∧ 1 ≤ j ∧ j ≤ 9 ∧ kv = .int .i16 (j : Int) ∧ Ext wo wr)
      case atStart => exact ⟨1, rfl, by omega, by omega, rfl, Ext.refl _⟩
      case round =>
        obtain ⟨j, hg, j1, j9, rfl, hr2⟩ := hrel
        have hwr2 := hwr.trans hr2
        replace Xx := Xx.ext hr2
        replace hL := hL.ext hr2
        have i2 : IntKind.i16.wrap (2 * (j : Int)) = 2 * (j : Int) := IntWalk.i16_in _ (by omega)
        have i3 : IntKind.i16.wrap ((j : Int) + 1) = ((j + 1 : Nat) : Int) := (IntWalk.i16_in _ (by omega)).trans (by omega)
        have i4 : IntKind.i64.wrap (j : Int) = (j : Int) := IntWalk.i64_in _ (by omega)
        have yx0 : wr.cell? ⟨w11.heap.size, 0, none⟩ = some (.int .i16 x.st) := Xx.cell 0
        have yx1 : wr.cell? ⟨w11.heap.size, 1, none⟩ = some (.int .i16 x.sz) := Xx.cell 1
        have yx2 : wr.cell? ⟨w11.heap.size, 2, none⟩ = some (.int .i16 x.per) := Xx.cell 2
        have lx := Xx.lt
        by_cases h8 : j ≤ 8
        · have h8a : (j : Int) ≤ 8 := by omega
          by_cases hs2 : 2 * (j : Int) ≤ x.sz
          · have g5 := c5 j j1 h8 hs2
            rw [c5b.out j j1 h8 hs2] at g5
            try dsimp only at g5
            obtain ⟨q1, q2⟩ := k5.out j j1 h8 hs2
            generalize sumF ⟨x.st, x.sz, (j : Int)⟩ lot = nj at g5 q1 q2
            have q3 : (least : Int) ≤ (nj : Int) := by omega
            go_wp2_with fail
            refine intro_world (R := fun W => Calls _ _ _ W _) (fun W81 hN => ?_)
            have e81 : Ext wr W81 := by rw [hN]; exact (Ext.refl _).alloc _
            clear hN
            refine Calls.mono (g5 W81 (hL.ext e81)) ?_
            rintro e w81 ⟨rfl, hb81⟩
            have hr81 := (hr2.trans e81).trans hb81
            clear e81 hb81 g5 yx0 yx1 yx2 lx
            by_cases hjp : j < per
            · have q4 := q2 hjp
              have q5 : ((nj : Int) == (least : Int)) = false := by rw [beq_eq_false_iff_ne]; omega
              have q6 : (nj == least) = false := by rw [beq_eq_false_iff_ne]; omega
              have q7 : ((j : Int) < (per : Int)) = True := eq_true (by omega)
              have q8 : ¬ nj = least := by omega
              clear q2 q4
              go_wp2
              go_roundg (10 - (j + 1))
              case rel => exact ⟨j + 1, rfl, by omega, by omega, by first | rfl | simp, hr81⟩
              case measure => omega
            · have q7 : ((j : Int) < (per : Int)) = False := eq_false (by omega)
              have q9 : (j < per) = False := eq_false hjp
              clear q2 hjp
              go_wp2
              go_roundg (10 - (j + 1))
              case rel => exact ⟨j + 1, rfl, by omega, by omega, by first | rfl | simp, hr81⟩
              case measure => omega
          · have hs3 : (2 * (j : Int) ≤ x.sz) = False := eq_false hs2
            clear hs2
            clear c5 c5b k5 i2 i3 i4
            go_wp2_with fail
            refine intro_world (R := fun W => Calls _ _ _ W _) (fun W90 hN => ?_)
            have dW90 : Ext wr W90 := by rw [hN]; exact (Ext.refl _)
            have eW90 := hwr2.trans dW90
            replace Xx := Xx.ext dW90
            replace hL := hL.ext dW90
            clear hN
            refine Calls.mono (c6 W90 hL) ?_
            rintro e w91 ⟨v91, rfl, hO91, hb91⟩
            obtain ⟨A91, cap91, rfl, hle91, hM⟩ := hO91.slice
            have hw91 := eW90.trans hb91
            replace Xx := Xx.ext hb91
            replace hL := hL.ext hb91
            clear hb91 dW90 eW90 hO91
            clear hL
            clear c6 yx0 yx1 yx2 lx
            have hm6 : ms.length ≤ 6 := by rw [hml.out]; omega
            by_cases h0 : 0 < ms.length
            · obtain ⟨a, ha, a1, a2, a3⟩ := fullTo_max (partX x) ms ms.length h0 (Nat.le_refl _)
              have a3b : ∀ i (hi : i < ms.length), mcount ms[i] ≤ mcount ms[a] ∧ (i < a → mcount ms[i] < mcount ms[a]) := fun i hi => by have := a3 i hi hi; rwa [hmp.out _ (List.getElem_mem hi), hmp.out _ (List.getElem_mem ha)] at this
              rw [hmp.out _ (List.getElem_mem ha)] at a2
              replace a3b := hd a3b
              clear a3
              have c7 := fun W h => impl_FullestOf x hxi hmx ms A91 cap91 hmv.out h0 (by omega) W h
              rw [a2] at c7
              try dsimp only at c7
              clear a2
              have yx0 : w91.cell? ⟨w11.heap.size, 0, none⟩ = some (.int .i16 x.st) := Xx.cell 0
              have yx1 : w91.cell? ⟨w11.heap.size, 1, none⟩ = some (.int .i16 x.sz) := Xx.cell 1
              have yx2 : w91.cell? ⟨w11.heap.size, 2, none⟩ = some (.int .i16 x.per) := Xx.cell 2
              have lx := Xx.lt
              go_wp2_with fail
              refine intro_world (R := fun W => Calls _ _ _ W _) (fun W91 hN => ?_)
              have dW91 : Ext w91 W91 := by rw [hN]; exact (Ext.refl _)
              have eW91 := hw91.trans dW91
              replace Xx := Xx.ext dW91
              replace hM := hM.ext dW91
              clear hN
              clear yx0 yx1 yx2 lx
              refine Calls.mono (c7 W91 hM) ?_
              rintro e w92 ⟨rfl, hb92⟩
              have hw92 := eW91.trans hb92
              replace Xx := Xx.ext hb92
              replace hM := hM.ext hb92
              clear hb92 dW91 eW91
              have p0 : (0 : Int) < ms.length := by omega
              have p1 : (0 : Int) ≤ (a : Int) := by omega
              have p2 : (a : Int) < ms.length := by omega
              have p3 : ((ms.length : Int) == 0) = false := by rw [beq_eq_false_iff_ne]; omega
              have p4 : ¬ ms.length = 0 := by omega
              have p5 : ((a : Int) < 0) = False := eq_false (by omega)
              have p6 : (ms.length ≤ a) = False := eq_false (by omega)
              have p7 : ((ms.length : Int) ≤ (a : Int)) = False := eq_false (by omega)
              obtain ⟨bM, oM, hAM, hltM, hrM⟩ := hM a ha
              subst hAM
              clear hrM
              obtain ⟨n0, n1, n2⟩ := hM.mask a ha
              have hco := fun W => spec_CountHoles ms[a] W
              have a3c := a3b
              generalize hmo : mcount ms[a] = mo at hco a3b
              generalize ms[a] = ma at n0 n1 hco
              clear c7 a3c hmo
              go_wp2_with fail
              refine Calls.mono (hco _) ?_
              rintro e w96 ⟨rfl, hb96⟩
              replace hM := hM.ext hb96
              have hw96 := hw92.trans hb96
              clear n0 n1 n2 hco hb96 hltM
              go_wp2
              obtain ⟨wq, hwq⟩ : ∃ x, x = wr := ⟨_, rfl⟩
              subst hwq
              go_loopg [33] (ms.length + 1) (fun g iv wr => ∃ i : Nat, g = ms.length + 1 - i ∧ i ≤ ms.length ∧ iv = .int .i64 (i : Int) ∧ Ext w96 wr)
              case atStart => exact ⟨0, rfl, by omega, rfl, Ext.refl _⟩
              case round =>
                obtain ⟨i, hg3, hi3, rfl, hr3⟩ := hrel
                have hwr3 := hw96.trans hr3
                by_cases hil : i < ms.length
                · have hM3 := hM.ext hr3
                  obtain ⟨bM', oM', hAM, hltM, hrM⟩ := hM3 i hil
                  cases hAM
                  clear hrM
                  obtain ⟨n0, n1, n2⟩ := hM3.mask i hil
                  obtain ⟨r1, r2⟩ := a3b.out i hil
                  have hco := fun W => spec_CountHoles ms[i] W
                  generalize mcount ms[i] = mi at hco r1 r2
                  generalize ms[i] = mm at n0 n1 hco
                  have hi4 : (i : Int) < ms.length := by omega
                  go_wp2_with fail
                  refine Calls.mono (hco _) ?_
                  rintro e w97 ⟨rfl, hb97⟩
                  have hr97 := hr3.trans hb97
                  clear n0 n1 n2 hco hb97 hM3
                  by_cases hia : i < a
                  · have r3 := r2 hia
                    have r4 : ((i : Int) < (a : Int)) = True := eq_true (by omega)
                    have r5 : (mi == mo) = false := by rw [beq_eq_false_iff_ne]; omega
                    have r6 : ¬ mi = mo := by omega
                    clear r2
                    go_wp2
                    go_roundg (ms.length + 1 - (i + 1))
                    case rel => exact ⟨i + 1, rfl, by omega, by first | rfl | simp, hr97⟩
                    case measure => omega
                  · have r4 : ((i : Int) < (a : Int)) = False := eq_false (by omega)
                    have r5 : (i < a) = False := eq_false hia
                    clear r2 hia
                    go_wp2
                    go_roundg (ms.length + 1 - (i + 1))
                    case rel => exact ⟨i + 1, rfl, by omega, by first | rfl | simp, hr97⟩
                    case measure => omega
                · have hi5 : (ms.length : Int) ≤ (i : Int) := by omega
                  go_wp2
                  go_ret
                  exact ⟨rfl, hwr3⟩
            · have hnil : ms = [] := List.eq_nil_of_length_eq_zero (by omega)
              subst hnil
              have c7 := fun W => impl_FullestOf_nil x hxi hmx A91 cap91 W
              have yx0 : w91.cell? ⟨w11.heap.size, 0, none⟩ = some (.int .i16 x.st) := Xx.cell 0
              have yx1 : w91.cell? ⟨w11.heap.size, 1, none⟩ = some (.int .i16 x.sz) := Xx.cell 1
              have yx2 : w91.cell? ⟨w11.heap.size, 2, none⟩ = some (.int .i16 x.per) := Xx.cell 2
              have lx := Xx.lt
              go_wp2_with fail
              refine intro_world (R := fun W => Calls _ _ _ W _) (fun W91 hN => ?_)
              have dW91 : Ext w91 W91 := by rw [hN]; exact (Ext.refl _)
              have eW91 := hw91.trans dW91
              replace Xx := Xx.ext dW91
              replace hM := hM.ext dW91
              clear hN
              clear yx0 yx1 yx2 lx
              refine Calls.mono (c7 W91) ?_
              rintro e w92 ⟨rfl, hb92⟩
              have hw92 := eW91.trans hb92
              replace Xx := Xx.ext hb92
              replace hM := hM.ext hb92
              clear hb92 dW91 eW91
              clear c7
              go_wp2
              go_ret
              exact ⟨rfl, hw92⟩
        · have h8b : ((j : Int) ≤ 8) = False := eq_false (by omega)
          have h8c : (j ≤ 8) = False := eq_false h8
          clear h8
          clear c5 c5b k5 i2 i3 i4
          go_wp2_with fail
          refine intro_world (R := fun W => Calls _ _ _ W _) (fun W90 hN => ?_)
          have dW90 : Ext wr W90 := by rw [hN]; exact (Ext.refl _)
          have eW90 := hwr2.trans dW90
          replace Xx := Xx.ext dW90
          replace hL := hL.ext dW90
          clear hN
          refine Calls.mono (c6 W90 hL) ?_
          rintro e w91 ⟨v91, rfl, hO91, hb91⟩
          obtain ⟨A91, cap91, rfl, hle91, hM⟩ := hO91.slice
          have hw91 := eW90.trans hb91
          replace Xx := Xx.ext hb91
          replace hL := hL.ext hb91
          clear hb91 dW90 eW90 hO91
          clear hL
          clear c6 yx0 yx1 yx2 lx
          have hm6 : ms.length ≤ 6 := by rw [hml.out]; omega
          by_cases h0 : 0 < ms.length
          · obtain ⟨a, ha, a1, a2, a3⟩ := fullTo_max (partX x) ms ms.length h0 (Nat.le_refl _)
            have a3b : ∀ i (hi : i < ms.length), mcount ms[i] ≤ mcount ms[a] ∧ (i < a → mcount ms[i] < mcount ms[a]) := fun i hi => by have := a3 i hi hi; rwa [hmp.out _ (List.getElem_mem hi), hmp.out _ (List.getElem_mem ha)] at this
            rw [hmp.out _ (List.getElem_mem ha)] at a2
            replace a3b := hd a3b
            clear a3
            have c7 := fun W h => impl_FullestOf x hxi hmx ms A91 cap91 hmv.out h0 (by omega) W h
            rw [a2] at c7
            try dsimp only at c7
            clear a2
            have yx0 : w91.cell? ⟨w11.heap.size, 0, none⟩ = some (.int .i16 x.st) := Xx.cell 0
            have yx1 : w91.cell? ⟨w11.heap.size, 1, none⟩ = some (.int .i16 x.sz) := Xx.cell 1
            have yx2 : w91.cell? ⟨w11.heap.size, 2, none⟩ = some (.int .i16 x.per) := Xx.cell 2
            have lx := Xx.lt
            go_wp2_with fail
            refine intro_world (R := fun W => Calls _ _ _ W _) (fun W91 hN => ?_)
            have dW91 : Ext w91 W91 := by rw [hN]; exact (Ext.refl _)
            have eW91 := hw91.trans dW91
            replace Xx := Xx.ext dW91
            replace hM := hM.ext dW91
            clear hN
            clear yx0 yx1 yx2 lx
            refine Calls.mono (c7 W91 hM) ?_
            rintro e w92 ⟨rfl, hb92⟩
            have hw92 := eW91.trans hb92
            replace Xx := Xx.ext hb92
            replace hM := hM.ext hb92
            clear hb92 dW91 eW91
            have p0 : (0 : Int) < ms.length := by omega
            have p1 : (0 : Int) ≤ (a : Int) := by omega
            have p2 : (a : Int) < ms.length := by omega
            have p3 : ((ms.length : Int) == 0) = false := by rw [beq_eq_false_iff_ne]; omega
            have p4 : ¬ ms.length = 0 := by omega
            have p5 : ((a : Int) < 0) = False := eq_false (by omega)
            have p6 : (ms.length ≤ a) = False := eq_false (by omega)
            have p7 : ((ms.length : Int) ≤ (a : Int)) = False := eq_false (by omega)
            obtain ⟨bM, oM, hAM, hltM, hrM⟩ := hM a ha
            subst hAM
            clear hrM
            obtain ⟨n0, n1, n2⟩ := hM.mask a ha
            have hco := fun W => spec_CountHoles ms[a] W
            have a3c := a3b
            generalize hmo : mcount ms[a] = mo at hco a3b
            generalize ms[a] = ma at n0 n1 hco
            clear c7 a3c hmo
            go_wp2_with fail
            refine Calls.mono (hco _) ?_
            rintro e w96 ⟨rfl, hb96⟩
            replace hM := hM.ext hb96
            have hw96 := hw92.trans hb96
            clear n0 n1 n2 hco hb96 hltM
            go_wp2
            obtain ⟨wq, hwq⟩ : ∃ x, x = wr := ⟨_, rfl⟩
            subst hwq
            go_loopg [33] (ms.length + 1) (fun g iv wr => ∃ i : Nat, g = ms.length + 1 - i ∧ i ≤ ms.length ∧ iv = .int .i64 (i : Int) ∧ Ext w96 wr)
            case atStart => exact ⟨0, rfl, by omega, rfl, Ext.refl _⟩
            case round =>
              obtain ⟨i, hg3, hi3, rfl, hr3⟩ := hrel
              have hwr3 := hw96.trans hr3
              by_cases hil : i < ms.length
              · have hM3 := hM.ext hr3
                obtain ⟨bM', oM', hAM, hltM, hrM⟩ := hM3 i hil
                cases hAM
                clear hrM
                obtain ⟨n0, n1, n2⟩ := hM3.mask i hil
                obtain ⟨r1, r2⟩ := a3b.out i hil
                have hco := fun W => spec_CountHoles ms[i] W
                generalize mcount ms[i] = mi at hco r1 r2
                generalize ms[i] = mm at n0 n1 hco
                have hi4 : (i : Int) < ms.length := by omega
                go_wp2_with fail
                refine Calls.mono (hco _) ?_
                rintro e w97 ⟨rfl, hb97⟩
                have hr97 := hr3.trans hb97
                clear n0 n1 n2 hco hb97 hM3
                by_cases hia : i < a
                · have r3 := r2 hia
                  have r4 : ((i : Int) < (a : Int)) = True := eq_true (by omega)
                  have r5 : (mi == mo) = false := by rw [beq_eq_false_iff_ne]; omega
                  have r6 : ¬ mi = mo := by omega
                  clear r2
                  go_wp2
                  go_roundg (ms.length + 1 - (i + 1))
                  case rel => exact ⟨i + 1, rfl, by omega, by first | rfl | simp, hr97⟩
                  case measure => omega
                · have r4 : ((i : Int) < (a : Int)) = False := eq_false (by omega)
                  have r5 : (i < a) = False := eq_false hia
                  clear r2 hia
                  go_wp2
                  go_roundg (ms.length + 1 - (i + 1))
                  case rel => exact ⟨i + 1, rfl, by omega, by first | rfl | simp, hr97⟩
                  case measure => omega
              · have hi5 : (ms.length : Int) ≤ (i : Int) := by omega
                go_wp2
                go_ret
                exact ⟨rfl, hwr3⟩
          · have hnil : ms = [] := List.eq_nil_of_length_eq_zero (by omega)
            subst hnil
            have c7 := fun W => impl_FullestOf_nil x hxi hmx A91 cap91 W
            have yx0 : w91.cell? ⟨w11.heap.size, 0, none⟩ = some (.int .i16 x.st) := Xx.cell 0
            have yx1 : w91.cell? ⟨w11.heap.size, 1, none⟩ = some (.int .i16 x.sz) := Xx.cell 1
            have yx2 : w91.cell? ⟨w11.heap.size, 2, none⟩ = some (.int .i16 x.per) := Xx.cell 2
            have lx := Xx.lt
            go_wp2_with fail
            refine intro_world (R := fun W => Calls _ _ _ W _) (fun W91 hN => ?_)
            have dW91 : Ext w91 W91 := by rw [hN]; exact (Ext.refl _)
            have eW91 := hw91.trans dW91
            replace Xx := Xx.ext dW91
            replace hM := hM.ext dW91
            clear hN
            clear yx0 yx1 yx2 lx
            refine Calls.mono (c7 W91) ?_
            rintro e w92 ⟨rfl, hb92⟩
            have hw92 := eW91.trans hb92
            replace Xx := Xx.ext hb92
            replace hM := hM.ext hb92
            clear hb92 dW91 eW91
            clear c7
            go_wp2
            go_ret
            exact ⟨rfl, hw92⟩
end Go.Proofs.YtegopgpnjgikeaaGreatDoor
