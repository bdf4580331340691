/-
  PK11: the texts Q1 F2 F3 in one (written by pack.py).
-/
import Derived.Test.YtdiblmlcapommaaGreatDoorPK10
import Derived.Test.YtdiblmlcapommaaGreatDoorPK8
import Derived.OrdersHeld
import Derived.Deep.RegionHeld
import Derived.RegionTactic
import Derived.Test.YtdiblmlcapommaaGreatDoorPK9
set_option linter.unusedVariables false
set_option linter.unusedSimpArgs false
set_option maxRecDepth 100000
namespace Go.Proofs.YtdiblmlcapommaaGreatDoor
open Go.RowKit
theorem spec_l01Kinds (w : World) :
    Calls Tryz.prog 19 #[] w fun e w' => ∃ b, e = .returned (.slice (some ⟨b, 0, none⟩) 4 4) ∧ Rd encStr w' (some ⟨b, 0, none⟩) kindsL ∧ w.heap.size ≤ b ∧ Ext w w' := by
  go_enter Tryz.func19, Tryz.ntmps19
  go_wp2
  go_ret
  exact ⟨_, rfl, Rd.lit encStr _ kindsL _ _ (by decide) rfl, Nat.le_refl _, by ((repeat (first | with_reducible exact Ext.refl _ | with_reducible exact hw | with_reducible exact hb9 | with_reducible exact hb8 | with_reducible exact hb7 | with_reducible exact hb6 | with_reducible exact hb5 | with_reducible exact hb4 | with_reducible exact hb3 | with_reducible exact hb2 | with_reducible exact hb1 | with_reducible refine Ext.alloc ?_ _ | with_reducible refine Ext.drew ?_ | ((with_reducible refine Ext.set ?_ ?_ _); focus (dsimp only; omega)) | with_reducible refine Ext.trans ?_ hb9 | with_reducible refine Ext.trans ?_ hb8 | with_reducible refine Ext.trans ?_ hb7 | with_reducible refine Ext.trans ?_ hb6 | with_reducible refine Ext.trans ?_ hb5 | with_reducible refine Ext.trans ?_ hb4 | with_reducible refine Ext.trans ?_ hb3 | with_reducible refine Ext.trans ?_ hb2 | with_reducible refine Ext.trans ?_ hb1 | with_reducible refine Ext.trans ?_ hw)))⟩
theorem fldIn_mk {n : ByteArray} {c a b : Int} (h0 : n.size ≤ 1048576) (h1 : -1 ≤ c ∧ c ≤ 3) (h2 : 0 ≤ a ∧ a ≤ 96) (h3 : 0 ≤ b ∧ b ≤ 96) : FldIn ⟨n, c, a, b⟩ :=
  ⟨⟨⟨by show -128 ≤ c; omega, by show c < 128; omega⟩, ⟨by show -32768 ≤ a; omega, by show a < 32768; omega⟩, ⟨by show -32768 ≤ b; omega, by show b < 32768; omega⟩⟩, by show n.size ≤ _; omega⟩
set_option maxHeartbeats 4000000 in
theorem spec_l01ReadField (line : ByteArray) (hs : line.size ≤ 1048576) (w : World) :
    Calls Tryz.prog 10 #[.string line] w fun e w' => ∃ (f : Fld) (ok : Bool), e = .returned (.tuple #[.agg #[.string f.nm, .int .i8 f.kd, .int .i16 f.st, .int .i16 f.sz], .bool ok]) ∧ (ok = true → fits line f) ∧ (ok = false → bad line) ∧ FldIn f ∧ Ext w w' := by
  have hsp := fun W => spec_l01Split line 32 (by omega) W
  have hpl := piece_le 32 line.size line (Nat.le_refl _)
  by_cases h4 : (splitC 32 line).length = 4
  · obtain ⟨n, q1, q2, q3, hw⟩ := four_of h4
    have hbad := hd (field_bad hw)
    have hfit := hd (fun j a b c d e f => field_fits (j := j) hw a b c d e f)
    have hnz : n.size ≤ 1048576 := by have := hpl n (by rw [hw]; simp); omega
    have hkf := fun c k => hd (kind_find (q := q1) (c := c) (k := k))
    rw [hw] at hsp
    clear h4 hpl hw
    go_enter Tryz.func10, Tryz.ntmps10
    go_wp2_with fail
    refine Calls.mono (hsp _) ?_
    rintro e w1 ⟨v, rfl, hO, hb1⟩
    obtain ⟨A, cap, rfl, hle, hR⟩ := hO.slice
    obtain ⟨bW, oW, hA, hlW, hjunk⟩ := hR 0 (by simp)
    subst hA
    have hX1 : BoxAt w1 w.heap.size #[.string ⟨#[]⟩, .int .i8 0, .int .i16 0, .int .i16 0] 33 := (BoxAt.new' rfl).ext hb1
    have hw1 : Ext w w1 := ((Ext.refl w).alloc (.cells #[.string ⟨#[]⟩, .int .i8 0, .int .i16 0, .int .i16 0] 33)).trans hb1
    have m0 : w1.cell? ⟨bW, oW, none⟩ = some (.string n) := hR.str 0 (by simp)
    have m1 : w1.cell? ⟨bW, oW + 1, none⟩ = some (.string q1) := hR.str 1 (by simp)
    have m2 : w1.cell? ⟨bW, oW + 2, none⟩ = some (.string q2) := hR.str 2 (by simp)
    have m3 : w1.cell? ⟨bW, oW + 3, none⟩ = some (.string q3) := hR.str 3 (by simp)
    clear hO hR hb1 hsp hjunk
    have lX1 := hX1.lt
    go_wp2
    go_loopg [6] 4 (fun g i wr => ∃ (k : Nat) (c : Int), g = 4 - k ∧ k ≤ 4 ∧ i = .int .i64 k ∧ Ext w1 wr ∧ BoxAt wr w1.heap.size #[.string n, .int .i8 c, .int .i16 0, .int .i16 0] 33 ∧ Hd ((c = -1 ∧ ∀ j < k, kindS j ≠ q1) ∨ ∃ j < k, c = ((j : Nat) : Int) ∧ kindS j = q1))
    case atStart => exact ⟨0, -1, by omega, by omega, rfl, (Ext.refl _).alloc _, BoxAt.new' rfl, hd (.inl ⟨rfl, fun j hj => absurd hj (Nat.not_lt_zero j)⟩)⟩
    case round =>
      obtain ⟨k, c, hg, hk, rfl, hwr, hF, hC⟩ := hrel
      by_cases hkl : k < 4
      · have hstep := hd ((hkf c k).out hC.out hkl)
        have hwk : IntKind.i8.wrap (k : Int) = k := IntWalk.i8_in _ (by omega)
        have hkat : ∀ W : World, ∀ bK, Rd encStr W (some ⟨bK, 0, none⟩) kindsL → W.cell? ⟨bK, k, none⟩ = some (.string (kindS k)) := fun W bK h => by
          have := h.str k (show k < kindsL.length from hkl)
          rwa [Nat.zero_add, kindsL_at] at this
        go_wp2
        refine wp_region_held (S := fun W => W.cell? ⟨bW, oW + 1, none⟩ = some (.string q1) ∧ True) (by kernel_rfl) ?_
        change wpAnyH _ _ _ _ _ _ _ _ (World.drew _)
        refine intro_world (fun WD hWD => ?_)
        have eD : Ext wr WD := by rw [hWD]; exact (Ext.refl _).drew
        clear hWD
        have hS := fun (W : World) (h : Ext w1 W) => (⟨h.cell m1, trivial⟩ : W.cell? ⟨bW, oW + 1, none⟩ = some (.string q1) ∧ True)
        have eD1 := hwr.trans eD
        refine wpAnyH_take (i := 1) (v := ?_) rfl (by kernel_rfl) (by kernel_rfl) (by kernel_rfl) (fun _ _ _ h => h) (Or.inl ⟨by rfl, ?_⟩) (hS _ eD1) ?_
        rotate_left
        · (intro W9 hW9; obtain ⟨z0, z1⟩ := hW9; go_simp; try with_reducible rfl)
        try simp only [Act.put, List.setIfInBounds_toArray, List.set_cons_zero, List.set_cons_succ]
        refine wpAnyH_take (i := 4) (v := ?_) rfl (by kernel_rfl) (by kernel_rfl) (by kernel_rfl) (fun _ _ _ h => h) (Or.inl ⟨by rfl, ?_⟩) (hS _ eD1) ?_
        rotate_left
        · (intro W9 hW9; obtain ⟨z0, z1⟩ := hW9; go_simp; try with_reducible rfl)
        try simp only [Act.put, List.setIfInBounds_toArray, List.set_cons_zero, List.set_cons_succ]
        refine wpAnyH_take (i := 5) (v := ?_) rfl (by kernel_rfl) (by kernel_rfl) (by kernel_rfl) (fun _ _ _ h => h) (Or.inl ⟨by rfl, ?_⟩) (hS _ eD1) ?_
        rotate_left
        · (intro W9 hW9; obtain ⟨z0, z1⟩ := hW9; go_simp; try with_reducible rfl)
        try simp only [Act.put, List.setIfInBounds_toArray, List.set_cons_zero, List.set_cons_succ]
        refine wpAnyH_take (i := 6) (v := ?_) rfl (by kernel_rfl) (by kernel_rfl) (by kernel_rfl) (fun _ _ _ h => h) (Or.inl ⟨by rfl, ?_⟩) (hS _ eD1) ?_
        rotate_left
        · (intro W9 hW9; obtain ⟨z0, z1⟩ := hW9; go_simp; try with_reducible rfl)
        try simp only [Act.put, List.setIfInBounds_toArray, List.set_cons_zero, List.set_cons_succ]
        refine wpAnyH_ready (rs := [0]) (by kernel_rfl) (by simp) ?_
        refine AllReadyH.cons rfl (fun K hK => ?_) (AllReadyH.nil)
        go_simp
        go_wp2_with fail
        refine Calls.mono (spec_l01Kinds _) ?_
        rintro e w2 ⟨bK, rfl, hRK, hbK, hb2⟩
        go_simp
        have e2 := eD1.trans hb2
        have c2 := hkat _ _ hRK
        refine hK.out _ _ (hS _ e2) (fun _ => ?_)
        clear hK K hRK
        refine wpAnyH_take (i := 2) (v := ?_) rfl (by kernel_rfl) (by kernel_rfl) (by kernel_rfl) (fun _ _ _ h => h) (Or.inl ⟨by rfl, ?_⟩) (hS _ e2) ?_
        rotate_left
        · (intro W9 hW9; obtain ⟨z0, z1⟩ := hW9; go_simp; try with_reducible rfl)
        try simp only [Act.put, List.setIfInBounds_toArray, List.set_cons_zero, List.set_cons_succ]
        refine wpAnyH_ready (rs := [3]) (by kernel_rfl) (by simp) ?_
        refine AllReadyH.cons rfl (fun K hK => ?_) (AllReadyH.nil)
        go_simp
        refine hK.out _ _ (hS _ e2) (fun _ => ?_)
        clear hK K
        have hF2 := (hF.ext eD).ext hb2
        have d1 : w2.cell? ⟨w1.heap.size, 1, none⟩ = some (.int .i8 c) := hF2.cell 1
        have f1 := hF2.frozen 1
        have lF := hF2.lt
        clear hF hwr eD eD1 hb2 hbK hkat
        cases hq : ((kindS k).toList == q1.toList) with
        | true =>
          have hC2 := hd (hstep.out.1 (eqS_eqJ hq))
          clear hstep hC
          refine wpAnyH_take (i := 7) (v := ?_) rfl (by kernel_rfl) (by kernel_rfl) (by kernel_rfl) (fun _ _ _ h => h) (Or.inl ⟨by rfl, ?_⟩) (hS _ e2) ?_
          rotate_left
          · (intro W9 hW9; obtain ⟨z0, z1⟩ := hW9; go_simp; try with_reducible rfl)
          try simp only [Act.put, List.setIfInBounds_toArray, List.set_cons_zero, List.set_cons_succ]
          refine wpAnyH_done (by kernel_rfl) ?_ _
          clear hS c2
          go_wp2
          have hF3 := hF2.set 1 (.int .i8 k)
          have e3 : Ext w1 (w2.setCell ⟨w1.heap.size, 1, none⟩ (.int .i8 k)) := Ext.set (by dsimp only; omega) e2 _
          go_roundg (4 - (k + 1))
          case rel => exact ⟨k + 1, k, rfl, hkl, rfl, e3, hF3, hC2⟩
          case measure => omega
        | false =>
          have hC2 := hd (hstep.out.2 (fun h => by rw [h] at hq; simp at hq))
          clear hstep hC
          refine wpAnyH_take (i := 7) (v := ?_) rfl (by kernel_rfl) (by kernel_rfl) (by kernel_rfl) (fun _ _ _ h => h) (Or.inl ⟨by rfl, ?_⟩) (hS _ e2) ?_
          rotate_left
          · (intro W9 hW9; obtain ⟨z0, z1⟩ := hW9; go_simp; try with_reducible rfl)
          try simp only [Act.put, List.setIfInBounds_toArray, List.set_cons_zero, List.set_cons_succ]
          refine wpAnyH_done (by kernel_rfl) ?_ _
          clear hS c2
          go_wp2
          go_roundg (4 - (k + 1))
          case rel => exact ⟨k + 1, c, rfl, hkl, rfl, e2, hF2, hC2⟩
          case measure => omega
      · obtain rfl : k = 4 := by omega
        have p2 := hwr.cell m2
        have p3 := hwr.cell m3
        have hX3 := hX1.ext hwr
        have hw3 := hw1.trans hwr
        clear hkf m0 m1 m2 m3 hX1 hwr
        have hnB : ∀ (c a b : Int), a = 0 → FldIn ⟨n, c, a, b⟩ → True := fun _ _ _ _ _ => trivial
        clear hnB
        go_wp2_with fail
        refine Calls.mono (spec_l01Number q2 _) ?_
        rintro e w4 ⟨n1, rfl, hn1, hb4⟩
        have p3 := hb4.cell p3
        go_wp2_with fail
        refine Calls.mono (spec_l01Number q3 _) ?_
        rintro e w5 ⟨n2, rfl, hn2, hb5⟩
        have hb6 := hb4.trans hb5
        have hX5 := hX3.ext hb6
        have hF5 := hF.ext hb6
        have hw5 := hw3.trans hb6
        clear p2 p3 hb4 hb5 hb6 hX3 hF hw3
        have hcb : -1 ≤ c ∧ c ≤ 3 := by
          rcases hC.out with ⟨h, _⟩ | ⟨j, h1, h2, _⟩ <;> omega
        cases g2 : numB q2.data.toList with
        | false =>
          clear hn1 hn2 hfit
          have ry0 : w5.cell? ⟨w.heap.size, 0, none⟩ = some (.string ⟨#[]⟩) := hX5.cell 0
          have ry1 : w5.cell? ⟨w.heap.size, 1, none⟩ = some (.int .i8 0) := hX5.cell 1
          have ry2 : w5.cell? ⟨w.heap.size, 2, none⟩ = some (.int .i16 0) := hX5.cell 2
          have ry3 : w5.cell? ⟨w.heap.size, 3, none⟩ = some (.int .i16 0) := hX5.cell 3
          have rf0 := hX5.frozen 0
          have rf1 := hX5.frozen 1
          have rf2 := hX5.frozen 2
          have rf3 := hX5.frozen 3
          have rl := hX5.lt
          have fx0 : w5.cell? ⟨w1.heap.size, 0, none⟩ = some (.string n) := hF5.cell 0
          have fx1 : w5.cell? ⟨w1.heap.size, 1, none⟩ = some (.int .i8 c) := hF5.cell 1
          have fx2 : w5.cell? ⟨w1.heap.size, 2, none⟩ = some (.int .i16 0) := hF5.cell 2
          have fx3 : w5.cell? ⟨w1.heap.size, 3, none⟩ = some (.int .i16 0) := hF5.cell 3
          have fl := hF5.lt
          go_wp2
          have rYf := (((hX5.set 0 (.string n)).set 1 (.int .i8 c)).set 2 (.int .i16 0)).set 3 (.int .i16 0)
          clear ry0 ry1 ry2 ry3 rf0 rf1 rf2 rf3
          have rc0 : World.cell? _ ⟨w.heap.size, 0, none⟩ = some (.string n) := rYf.cell 0
          have rc1 : World.cell? _ ⟨w.heap.size, 1, none⟩ = some (.int .i8 c) := rYf.cell 1
          have rc2 : World.cell? _ ⟨w.heap.size, 2, none⟩ = some (.int .i16 0) := rYf.cell 2
          have rc3 : World.cell? _ ⟨w.heap.size, 3, none⟩ = some (.int .i16 0) := rYf.cell 3
          refine bodyPost_ret (v := .tuple #[.agg #[.string n, .int .i8 c, .int .i16 0, .int .i16 0], .bool false]) (by simp [results, Tryz.results10, go_sem, rc0, rc1, rc2, rc3]) rfl ⟨⟨n, c, 0, 0⟩, false, rfl, fun h => (by cases h), fun _ => hbad.out (.inl g2), fldIn_mk hnz hcb (by omega) (by omega), ?_⟩
          exact Ext.set (Nat.le_refl _) (Ext.set (Nat.le_refl _) (Ext.set (Nat.le_refl _) (Ext.set (Nat.le_refl _) hw5 _) _) _) _
        | true =>
          cases g3 : numB q3.data.toList with
          | false =>
            clear hn1 hn2 hfit
            have ry0 : w5.cell? ⟨w.heap.size, 0, none⟩ = some (.string ⟨#[]⟩) := hX5.cell 0
            have ry1 : w5.cell? ⟨w.heap.size, 1, none⟩ = some (.int .i8 0) := hX5.cell 1
            have ry2 : w5.cell? ⟨w.heap.size, 2, none⟩ = some (.int .i16 0) := hX5.cell 2
            have ry3 : w5.cell? ⟨w.heap.size, 3, none⟩ = some (.int .i16 0) := hX5.cell 3
            have rf0 := hX5.frozen 0
            have rf1 := hX5.frozen 1
            have rf2 := hX5.frozen 2
            have rf3 := hX5.frozen 3
            have rl := hX5.lt
            have fx0 : w5.cell? ⟨w1.heap.size, 0, none⟩ = some (.string n) := hF5.cell 0
            have fx1 : w5.cell? ⟨w1.heap.size, 1, none⟩ = some (.int .i8 c) := hF5.cell 1
            have fx2 : w5.cell? ⟨w1.heap.size, 2, none⟩ = some (.int .i16 0) := hF5.cell 2
            have fx3 : w5.cell? ⟨w1.heap.size, 3, none⟩ = some (.int .i16 0) := hF5.cell 3
            have fl := hF5.lt
            go_wp2
            have rYf := (((hX5.set 0 (.string n)).set 1 (.int .i8 c)).set 2 (.int .i16 0)).set 3 (.int .i16 0)
            clear ry0 ry1 ry2 ry3 rf0 rf1 rf2 rf3
            have rc0 : World.cell? _ ⟨w.heap.size, 0, none⟩ = some (.string n) := rYf.cell 0
            have rc1 : World.cell? _ ⟨w.heap.size, 1, none⟩ = some (.int .i8 c) := rYf.cell 1
            have rc2 : World.cell? _ ⟨w.heap.size, 2, none⟩ = some (.int .i16 0) := rYf.cell 2
            have rc3 : World.cell? _ ⟨w.heap.size, 3, none⟩ = some (.int .i16 0) := rYf.cell 3
            refine bodyPost_ret (v := .tuple #[.agg #[.string n, .int .i8 c, .int .i16 0, .int .i16 0], .bool false]) (by simp [results, Tryz.results10, go_sem, rc0, rc1, rc2, rc3]) rfl ⟨⟨n, c, 0, 0⟩, false, rfl, fun h => (by cases h), fun _ => hbad.out (.inr (.inl g3)), fldIn_mk hnz hcb (by omega) (by omega), ?_⟩
            exact Ext.set (Nat.le_refl _) (Ext.set (Nat.le_refl _) (Ext.set (Nat.le_refl _) (Ext.set (Nat.le_refl _) hw5 _) _) _) _
          | true =>
            obtain rfl := hn1 g2
            obtain rfl := hn2 g3
            have hfit := fun j h1 h2 => hd (hfit.out j h1 h2 g2 g3)
            generalize valL q2.data.toList = a at hbad hfit hn1
            generalize valL q3.data.toList = b at hbad hfit hn2
            clear hn1 hn2
            by_cases ha : 96 ≤ a
            · have i1 : ((96 : Int) ≤ a) = True := eq_true (by omega)
              have ry0 : w5.cell? ⟨w.heap.size, 0, none⟩ = some (.string ⟨#[]⟩) := hX5.cell 0
              have ry1 : w5.cell? ⟨w.heap.size, 1, none⟩ = some (.int .i8 0) := hX5.cell 1
              have ry2 : w5.cell? ⟨w.heap.size, 2, none⟩ = some (.int .i16 0) := hX5.cell 2
              have ry3 : w5.cell? ⟨w.heap.size, 3, none⟩ = some (.int .i16 0) := hX5.cell 3
              have rf0 := hX5.frozen 0
              have rf1 := hX5.frozen 1
              have rf2 := hX5.frozen 2
              have rf3 := hX5.frozen 3
              have rl := hX5.lt
              have fx0 : w5.cell? ⟨w1.heap.size, 0, none⟩ = some (.string n) := hF5.cell 0
              have fx1 : w5.cell? ⟨w1.heap.size, 1, none⟩ = some (.int .i8 c) := hF5.cell 1
              have fx2 : w5.cell? ⟨w1.heap.size, 2, none⟩ = some (.int .i16 0) := hF5.cell 2
              have fx3 : w5.cell? ⟨w1.heap.size, 3, none⟩ = some (.int .i16 0) := hF5.cell 3
              have fl := hF5.lt
              go_wp2
              have rYf := (((hX5.set 0 (.string n)).set 1 (.int .i8 c)).set 2 (.int .i16 0)).set 3 (.int .i16 0)
              clear ry0 ry1 ry2 ry3 rf0 rf1 rf2 rf3
              have rc0 : World.cell? _ ⟨w.heap.size, 0, none⟩ = some (.string n) := rYf.cell 0
              have rc1 : World.cell? _ ⟨w.heap.size, 1, none⟩ = some (.int .i8 c) := rYf.cell 1
              have rc2 : World.cell? _ ⟨w.heap.size, 2, none⟩ = some (.int .i16 0) := rYf.cell 2
              have rc3 : World.cell? _ ⟨w.heap.size, 3, none⟩ = some (.int .i16 0) := rYf.cell 3
              refine bodyPost_ret (v := .tuple #[.agg #[.string n, .int .i8 c, .int .i16 0, .int .i16 0], .bool false]) (by simp [results, Tryz.results10, go_sem, rc0, rc1, rc2, rc3]) rfl ⟨⟨n, c, 0, 0⟩, false, rfl, fun h => (by cases h), fun _ => hbad.out (.inr (.inr (.inl ha))), fldIn_mk hnz hcb (by omega) (by omega), ?_⟩
              exact Ext.set (Nat.le_refl _) (Ext.set (Nat.le_refl _) (Ext.set (Nat.le_refl _) (Ext.set (Nat.le_refl _) hw5 _) _) _) _
            · have i1 : ((96 : Int) ≤ a) = False := eq_false (by omega)
              by_cases hb : 96 ≤ b
              · have i2 : ((96 : Int) ≤ b) = True := eq_true (by omega)
                have ry0 : w5.cell? ⟨w.heap.size, 0, none⟩ = some (.string ⟨#[]⟩) := hX5.cell 0
                have ry1 : w5.cell? ⟨w.heap.size, 1, none⟩ = some (.int .i8 0) := hX5.cell 1
                have ry2 : w5.cell? ⟨w.heap.size, 2, none⟩ = some (.int .i16 0) := hX5.cell 2
                have ry3 : w5.cell? ⟨w.heap.size, 3, none⟩ = some (.int .i16 0) := hX5.cell 3
                have rf0 := hX5.frozen 0
                have rf1 := hX5.frozen 1
                have rf2 := hX5.frozen 2
                have rf3 := hX5.frozen 3
                have rl := hX5.lt
                have fx0 : w5.cell? ⟨w1.heap.size, 0, none⟩ = some (.string n) := hF5.cell 0
                have fx1 : w5.cell? ⟨w1.heap.size, 1, none⟩ = some (.int .i8 c) := hF5.cell 1
                have fx2 : w5.cell? ⟨w1.heap.size, 2, none⟩ = some (.int .i16 0) := hF5.cell 2
                have fx3 : w5.cell? ⟨w1.heap.size, 3, none⟩ = some (.int .i16 0) := hF5.cell 3
                have fl := hF5.lt
                go_wp2
                have rYf := (((hX5.set 0 (.string n)).set 1 (.int .i8 c)).set 2 (.int .i16 0)).set 3 (.int .i16 0)
                clear ry0 ry1 ry2 ry3 rf0 rf1 rf2 rf3
                have rc0 : World.cell? _ ⟨w.heap.size, 0, none⟩ = some (.string n) := rYf.cell 0
                have rc1 : World.cell? _ ⟨w.heap.size, 1, none⟩ = some (.int .i8 c) := rYf.cell 1
                have rc2 : World.cell? _ ⟨w.heap.size, 2, none⟩ = some (.int .i16 0) := rYf.cell 2
                have rc3 : World.cell? _ ⟨w.heap.size, 3, none⟩ = some (.int .i16 0) := rYf.cell 3
                refine bodyPost_ret (v := .tuple #[.agg #[.string n, .int .i8 c, .int .i16 0, .int .i16 0], .bool false]) (by simp [results, Tryz.results10, go_sem, rc0, rc1, rc2, rc3]) rfl ⟨⟨n, c, 0, 0⟩, false, rfl, fun h => (by cases h), fun _ => hbad.out (.inr (.inr (.inr (.inl hb)))), fldIn_mk hnz hcb (by omega) (by omega), ?_⟩
                exact Ext.set (Nat.le_refl _) (Ext.set (Nat.le_refl _) (Ext.set (Nat.le_refl _) (Ext.set (Nat.le_refl _) hw5 _) _) _) _
              · have i2 : ((96 : Int) ≤ b) = False := eq_false (by omega)
                have k1 : IntKind.i16.wrap (a : Int) = a := IntWalk.i16_in _ (by omega)
                have k2 : IntKind.i16.wrap (b : Int) = b := IntWalk.i16_in _ (by omega)
                have fx2 : w5.cell? ⟨w1.heap.size, 2, none⟩ = some (.int .i16 0) := hF5.cell 2
                have fx3 : w5.cell? ⟨w1.heap.size, 3, none⟩ = some (.int .i16 0) := hF5.cell 3
                have fr2 := hF5.frozen 2
                have fr3 := hF5.frozen 3
                have fl := hF5.lt
                have lw := hw1.size
                go_wp2
                have hF6 := (hF5.set 2 (.int .i16 a)).set 3 (.int .i16 b)
                have hX6 := (hX5.setOther (p := ⟨w1.heap.size, 2, none⟩) (by dsimp only; omega) (.int .i16 a)).setOther (p := ⟨w1.heap.size, 3, none⟩) (by dsimp only; omega) (.int .i16 b)
                have hw6 : Ext w ((w5.setCell ⟨w1.heap.size, 2, none⟩ (.int .i16 a)).setCell ⟨w1.heap.size, 3, none⟩ (.int .i16 b)) := Ext.set (by dsimp only; omega) (Ext.set (by dsimp only; omega) hw5 _) _
                clear fx2 fx3 fr2 fr3 hF5 hX5 hw5
                generalize (w5.setCell ⟨w1.heap.size, 2, none⟩ (.int .i16 a)).setCell ⟨w1.heap.size, 3, none⟩ (.int .i16 b) = w6 at hF6 hX6 hw6
                refine wp_region_held (S := fun W => W.cell? ⟨w1.heap.size, 0, none⟩ = some (.string n) ∧ W.cell? ⟨w1.heap.size, 1, none⟩ = some (.int .i8 c) ∧ W.cell? ⟨w1.heap.size, 2, none⟩ = some (.int .i16 a) ∧ W.cell? ⟨w1.heap.size, 3, none⟩ = some (.int .i16 b)) (by kernel_rfl) ?_
                change wpAnyH _ _ _ _ _ _ _ _ (World.drew _)
                refine intro_world (fun WD hWD => ?_)
                have eD : Ext w6 WD := by rw [hWD]; exact (Ext.refl _).drew
                clear hWD
                have hS := fun (W : World) (h : BoxAt W w1.heap.size #[.string n, .int .i8 c, .int .i16 a, .int .i16 b] 33) => (⟨h.cell 0, h.cell 1, h.cell 2, h.cell 3⟩ : (W.cell? ⟨w1.heap.size, 0, none⟩ = some (.string n) ∧ W.cell? ⟨w1.heap.size, 1, none⟩ = some (.int .i8 c) ∧ W.cell? ⟨w1.heap.size, 2, none⟩ = some (.int .i16 a) ∧ W.cell? ⟨w1.heap.size, 3, none⟩ = some (.int .i16 b)))
                have hF7 : BoxAt WD w1.heap.size #[.string n, .int .i8 c, .int .i16 a, .int .i16 b] 33 := hF6.ext eD
                have hX7 := hX6.ext eD
                have hw7 := hw6.trans eD
                clear eD hF6 hX6 hw6
                refine wpAnyH_take (i := 0) (v := ?_) rfl (by kernel_rfl) (by kernel_rfl) (by kernel_rfl) (fun _ _ _ h => h) (Or.inl ⟨by rfl, ?_⟩) (hS _ hF7) ?_
                rotate_left
                · (intro W9 hW9; obtain ⟨z0, z1, z2, z3⟩ := hW9; go_simp; try with_reducible rfl)
                try simp only [Act.put, List.setIfInBounds_toArray, List.set_cons_zero, List.set_cons_succ]
                refine wpAnyH_take (i := 1) (v := ?_) rfl (by kernel_rfl) (by kernel_rfl) (by kernel_rfl) (fun _ _ _ h => h) (Or.inl ⟨by rfl, ?_⟩) (hS _ hF7) ?_
                rotate_left
                · (intro W9 hW9; obtain ⟨z0, z1, z2, z3⟩ := hW9; go_simp; try with_reducible rfl)
                try simp only [Act.put, List.setIfInBounds_toArray, List.set_cons_zero, List.set_cons_succ]
                refine wpAnyH_take (i := 2) (v := ?_) rfl (by kernel_rfl) (by kernel_rfl) (by kernel_rfl) (fun _ _ _ h => h) (Or.inl ⟨by rfl, ?_⟩) (hS _ hF7) ?_
                rotate_left
                · (intro W9 hW9; obtain ⟨z0, z1, z2, z3⟩ := hW9; go_simp; try with_reducible rfl)
                try simp only [Act.put, List.setIfInBounds_toArray, List.set_cons_zero, List.set_cons_succ]
                by_cases hc0 : 0 ≤ c
                · have hfi : Hd (fits line ⟨n, c, a, b⟩) := by
                    rcases hC.out with ⟨h, _⟩ | ⟨j, h1, h2, h3⟩
                    · omega
                    · subst h2
                      exact (hfit j h1 h3).out (by omega) (by omega)
                  clear hC hfit hbad
                  have i3 : ((0 : Int) ≤ c) = True := eq_true (by omega)
                  refine wpAnyH_take (i := 3) (v := ?_) rfl (by kernel_rfl) (by kernel_rfl) (by kernel_rfl) (fun _ _ _ h => h) (Or.inl ⟨by rfl, ?_⟩) (hS _ hF7) ?_
                  rotate_left
                  · (intro W9 hW9; obtain ⟨z0, z1, z2, z3⟩ := hW9; go_simp; try with_reducible rfl)
                  try simp only [Act.put, List.setIfInBounds_toArray, List.set_cons_zero, List.set_cons_succ]
                  have ry0 : WD.cell? ⟨w.heap.size, 0, none⟩ = some (.string ⟨#[]⟩) := hX7.cell 0
                  have ry1 : WD.cell? ⟨w.heap.size, 1, none⟩ = some (.int .i8 0) := hX7.cell 1
                  have ry2 : WD.cell? ⟨w.heap.size, 2, none⟩ = some (.int .i16 0) := hX7.cell 2
                  have ry3 : WD.cell? ⟨w.heap.size, 3, none⟩ = some (.int .i16 0) := hX7.cell 3
                  have rf0 := hX7.frozen 0
                  have rf1 := hX7.frozen 1
                  have rf2 := hX7.frozen 2
                  have rf3 := hX7.frozen 3
                  have rl := hX7.lt
                  have hX8 := ((((hX7.set 0 (.string n)).set 1 (.int .i8 c)).set 2 (.int .i16 a)).set 3 (.int .i16 b))
                  have hF8 := ((((hF7.setOther (p := ⟨w.heap.size, 0, none⟩) (by dsimp only; omega) (.string n)).setOther (p := ⟨w.heap.size, 1, none⟩) (by dsimp only; omega) (.int .i8 c)).setOther (p := ⟨w.heap.size, 2, none⟩) (by dsimp only; omega) (.int .i16 a)).setOther (p := ⟨w.heap.size, 3, none⟩) (by dsimp only; omega) (.int .i16 b))
                  have hw8 : Ext w ((((WD.setCell ⟨w.heap.size, 0, none⟩ (.string n)).setCell ⟨w.heap.size, 1, none⟩ (.int .i8 c)).setCell ⟨w.heap.size, 2, none⟩ (.int .i16 a)).setCell ⟨w.heap.size, 3, none⟩ (.int .i16 b)) := (Ext.set (by dsimp only; omega) (Ext.set (by dsimp only; omega) (Ext.set (by dsimp only; omega) (Ext.set (by dsimp only; omega) hw7 _) _) _) _)
                  refine wpAnyH_ready (rs := [4]) (by kernel_rfl) (by simp) ?_
                  refine AllReadyH.cons rfl (fun K hK => ?_) (AllReadyH.nil)
                  go_simp
                  refine hK.out _ _ (hS _ hF8) (fun _ => ?_)
                  clear hK K ry0 ry1 ry2 ry3 rf0 rf1 rf2 rf3
                  refine wpAnyH_ready (rs := [5]) (by kernel_rfl) (by simp) ?_
                  refine AllReadyH.cons rfl (fun K hK => ?_) (AllReadyH.nil)
                  go_simp
                  refine hK.out _ _ (hS _ hF8) (fun _ => ?_)
                  clear hK K
                  refine wpAnyH_done (by kernel_rfl) ?_ _
                  go_wp2
                  have rc0 : World.cell? _ ⟨w.heap.size, 0, none⟩ = some (.string n) := hX8.cell 0
                  have rc1 : World.cell? _ ⟨w.heap.size, 1, none⟩ = some (.int .i8 c) := hX8.cell 1
                  have rc2 : World.cell? _ ⟨w.heap.size, 2, none⟩ = some (.int .i16 a) := hX8.cell 2
                  have rc3 : World.cell? _ ⟨w.heap.size, 3, none⟩ = some (.int .i16 b) := hX8.cell 3
                  refine bodyPost_ret (v := .tuple #[.agg #[.string n, .int .i8 c, .int .i16 a, .int .i16 b], .bool true]) (by simp [results, Tryz.results10, go_sem, rc0, rc1, rc2, rc3]) rfl ⟨⟨n, c, a, b⟩, true, rfl, fun _ => hfi.out, fun h => (by cases h), fldIn_mk hnz hcb (by omega) (by omega), hw8⟩
                · have hba : Hd (bad line) := by
                    rcases hC.out with ⟨_, h⟩ | ⟨j, h1, h2, h3⟩
                    · exact hbad.out (.inr (.inr (.inr (.inr h))))
                    · omega
                  clear hC hfit hbad
                  have i3 : ((0 : Int) ≤ c) = False := eq_false (by omega)
                  refine wpAnyH_take (i := 3) (v := ?_) rfl (by kernel_rfl) (by kernel_rfl) (by kernel_rfl) (fun _ _ _ h => h) (Or.inl ⟨by rfl, ?_⟩) (hS _ hF7) ?_
                  rotate_left
                  · (intro W9 hW9; obtain ⟨z0, z1, z2, z3⟩ := hW9; go_simp; try with_reducible rfl)
                  try simp only [Act.put, List.setIfInBounds_toArray, List.set_cons_zero, List.set_cons_succ]
                  have ry0 : WD.cell? ⟨w.heap.size, 0, none⟩ = some (.string ⟨#[]⟩) := hX7.cell 0
                  have ry1 : WD.cell? ⟨w.heap.size, 1, none⟩ = some (.int .i8 0) := hX7.cell 1
                  have ry2 : WD.cell? ⟨w.heap.size, 2, none⟩ = some (.int .i16 0) := hX7.cell 2
                  have ry3 : WD.cell? ⟨w.heap.size, 3, none⟩ = some (.int .i16 0) := hX7.cell 3
                  have rf0 := hX7.frozen 0
                  have rf1 := hX7.frozen 1
                  have rf2 := hX7.frozen 2
                  have rf3 := hX7.frozen 3
                  have rl := hX7.lt
                  have hX8 := ((((hX7.set 0 (.string n)).set 1 (.int .i8 c)).set 2 (.int .i16 a)).set 3 (.int .i16 b))
                  have hF8 := ((((hF7.setOther (p := ⟨w.heap.size, 0, none⟩) (by dsimp only; omega) (.string n)).setOther (p := ⟨w.heap.size, 1, none⟩) (by dsimp only; omega) (.int .i8 c)).setOther (p := ⟨w.heap.size, 2, none⟩) (by dsimp only; omega) (.int .i16 a)).setOther (p := ⟨w.heap.size, 3, none⟩) (by dsimp only; omega) (.int .i16 b))
                  have hw8 : Ext w ((((WD.setCell ⟨w.heap.size, 0, none⟩ (.string n)).setCell ⟨w.heap.size, 1, none⟩ (.int .i8 c)).setCell ⟨w.heap.size, 2, none⟩ (.int .i16 a)).setCell ⟨w.heap.size, 3, none⟩ (.int .i16 b)) := (Ext.set (by dsimp only; omega) (Ext.set (by dsimp only; omega) (Ext.set (by dsimp only; omega) (Ext.set (by dsimp only; omega) hw7 _) _) _) _)
                  refine wpAnyH_ready (rs := [4]) (by kernel_rfl) (by simp) ?_
                  refine AllReadyH.cons rfl (fun K hK => ?_) (AllReadyH.nil)
                  go_simp
                  refine hK.out _ _ (hS _ hF8) (fun _ => ?_)
                  clear hK K ry0 ry1 ry2 ry3 rf0 rf1 rf2 rf3
                  refine wpAnyH_ready (rs := [5]) (by kernel_rfl) (by simp) ?_
                  refine AllReadyH.cons rfl (fun K hK => ?_) (AllReadyH.nil)
                  go_simp
                  refine hK.out _ _ (hS _ hF8) (fun _ => ?_)
                  clear hK K
                  refine wpAnyH_done (by kernel_rfl) ?_ _
                  go_wp2
                  have rc0 : World.cell? _ ⟨w.heap.size, 0, none⟩ = some (.string n) := hX8.cell 0
                  have rc1 : World.cell? _ ⟨w.heap.size, 1, none⟩ = some (.int .i8 c) := hX8.cell 1
                  have rc2 : World.cell? _ ⟨w.heap.size, 2, none⟩ = some (.int .i16 a) := hX8.cell 2
                  have rc3 : World.cell? _ ⟨w.heap.size, 3, none⟩ = some (.int .i16 b) := hX8.cell 3
                  refine bodyPost_ret (v := .tuple #[.agg #[.string n, .int .i8 c, .int .i16 a, .int .i16 b], .bool false]) (by simp [results, Tryz.results10, go_sem, rc0, rc1, rc2, rc3]) rfl ⟨⟨n, c, a, b⟩, .inl ⟨rfl, hba.out, fldIn_mk hnz hcb (by omega) (by omega), hw8⟩⟩
  · have hba := hd (bad_len h4)
    have h4' : ¬ (((splitC 32 line).length : Int) = 4) := fun h => h4 (by omega)
    clear hpl
    go_enter Tryz.func10, Tryz.ntmps10
    go_wp2_with fail
    refine Calls.mono (hsp _) ?_
    rintro e w1 ⟨v, rfl, hO, hb1⟩
    obtain ⟨A, cap, rfl, hle, hR⟩ := hO.slice
    have hX1 : BoxAt w1 w.heap.size #[.string ⟨#[]⟩, .int .i8 0, .int .i16 0, .int .i16 0] 33 := (BoxAt.new' rfl).ext hb1
    have hw1 : Ext w w1 := ((Ext.refl w).alloc (.cells #[.string ⟨#[]⟩, .int .i8 0, .int .i16 0, .int .i16 0] 33)).trans hb1
    clear hO hR hb1 hsp hle
    have ry0 : w1.cell? ⟨w.heap.size, 0, none⟩ = some (.string ⟨#[]⟩) := hX1.cell 0
    have ry1 : w1.cell? ⟨w.heap.size, 1, none⟩ = some (.int .i8 0) := hX1.cell 1
    have ry2 : w1.cell? ⟨w.heap.size, 2, none⟩ = some (.int .i16 0) := hX1.cell 2
    have ry3 : w1.cell? ⟨w.heap.size, 3, none⟩ = some (.int .i16 0) := hX1.cell 3
    have rf0 := hX1.frozen 0
    have rf1 := hX1.frozen 1
    have rf2 := hX1.frozen 2
    have rf3 := hX1.frozen 3
    have rl := hX1.lt
    generalize splitC 32 line = ws at h4 h4'
    go_wp2
    have rYf := (((hX1.set 0 (.string ⟨#[]⟩)).set 1 (.int .i8 0)).set 2 (.int .i16 0)).set 3 (.int .i16 0)
    clear ry0 ry1 ry2 ry3 rf0 rf1 rf2 rf3
    have rc0 : World.cell? _ ⟨w.heap.size, 0, none⟩ = some (.string ⟨#[]⟩) := rYf.cell 0
    have rc1 : World.cell? _ ⟨w.heap.size, 1, none⟩ = some (.int .i8 0) := rYf.cell 1
    have rc2 : World.cell? _ ⟨w.heap.size, 2, none⟩ = some (.int .i16 0) := rYf.cell 2
    have rc3 : World.cell? _ ⟨w.heap.size, 3, none⟩ = some (.int .i16 0) := rYf.cell 3
    refine bodyPost_ret (v := .tuple #[.agg #[.string ⟨#[]⟩, .int .i8 0, .int .i16 0, .int .i16 0], .bool false]) (by simp [results, Tryz.results10, go_sem, rc0, rc1, rc2, rc3]) rfl ⟨⟨⟨#[]⟩, 0, 0, 0⟩, false, rfl, fun h => (by cases h), fun _ => hba.out, fldIn_mk (by decide) (by omega) (by omega) (by omega), ?_⟩
    exact Ext.set (Nat.le_refl _) (Ext.set (Nat.le_refl _) (Ext.set (Nat.le_refl _) (Ext.set (Nat.le_refl _) hw1 _) _) _) _
end Go.Proofs.YtdiblmlcapommaaGreatDoor
set_option linter.unusedVariables false
set_option linter.unusedSimpArgs false
set_option maxRecDepth 100000
namespace Go.Proofs.YtdiblmlcapommaaGreatDoor
open Go.RowKit
theorem Calls.ext_allF2 {P : Program} {f : FuncId} {args : Array Value} {w : World} {x : ExtOf w} {v : Value}
    (h : ∀ W, Ext w W → Calls P f args W fun e w' => e = .returned v ∧ Ext W w') : Calls P f args x.val fun e w'' => e = .returned v ∧ ∃ y : ExtOf w, w'' = y.val := Calls.ext_of (h _ x.2)
set_option maxHeartbeats 1000000 in
theorem impl_isField (nm : ByteArray) (kd st sz : Int) (hk0 : -128 ≤ kd) (hk1 : kd < 128) (ht0 : -32768 ≤ st) (ht1 : st < 32768) (hs0 : -32768 ≤ sz) (hs1 : sz < 32768) (hnmx : nm.size ≤ 9223372036854775807) (w : World) :
    Calls Tryz.prog 29 #[.agg #[.string nm, .int .i8 kd, .int .i16 st, .int .i16 sz]] w fun e w' => e = .returned (.bool (fldB ⟨nm, kd, st, sz⟩)) ∧ Ext w w' := by
  have hx := @ExtOf.cell
  by_cases hbad : isNameB nm = false ∨ kd < 0 ∨ 3 < kd ∨ st < 0 ∨ sz < 1
  · have hv := hd (fldB_false (f := ⟨nm, kd, st, sz⟩) (fun h => by
      obtain ⟨h0, h1, h2, h3, h4, _⟩ := h
      dsimp only at h0 h1 h2 h3 h4
      rcases hbad with h | h | h | h | h
      · rw [h0] at h; cases h
      all_goals omega))
    cases hN : isNameB nm with
    | false =>
      clear hbad
      go_enter Tryz.func29, Tryz.ntmps29
      go_wp2_with fail
      refine Calls.mono (impl_isName nm _ hnmx) ?_
      rintro e w1 ⟨rfl, hb1⟩
      rw [hN]
      go_wp2
      go_ret
      exact ⟨by rw [hv.out]; rfl, by ((repeat (first | with_reducible exact Ext.refl _ | with_reducible exact hw | with_reducible exact hb9 | with_reducible exact hb8 | with_reducible exact hb7 | with_reducible exact hb6 | with_reducible exact hb5 | with_reducible exact hb4 | with_reducible exact hb3 | with_reducible exact hb2 | with_reducible exact hb1 | with_reducible refine Ext.alloc ?_ _ | with_reducible refine Ext.drew ?_ | ((with_reducible refine Ext.set ?_ ?_ _); focus (dsimp only; omega)) | with_reducible refine Ext.trans ?_ hb9 | with_reducible refine Ext.trans ?_ hb8 | with_reducible refine Ext.trans ?_ hb7 | with_reducible refine Ext.trans ?_ hb6 | with_reducible refine Ext.trans ?_ hb5 | with_reducible refine Ext.trans ?_ hb4 | with_reducible refine Ext.trans ?_ hb3 | with_reducible refine Ext.trans ?_ hb2 | with_reducible refine Ext.trans ?_ hb1 | with_reducible refine Ext.trans ?_ hw)))⟩
    | true =>
      have hbad2 := hd (hbad.resolve_left (by rw [hN]; simp))
      clear hbad
      go_enter Tryz.func29, Tryz.ntmps29
      go_wp2_with fail
      refine Calls.mono (impl_isName nm _ hnmx) ?_
      rintro e w1 ⟨rfl, hb1⟩
      rw [hN]
      have c0 : w1.cell? ⟨w.heap.size, 0, none⟩ = some (.string nm) := hb1.cell (by go_simp)
      have c1 : w1.cell? ⟨w.heap.size, 1, none⟩ = some (.int .i8 kd) := hb1.cell (by go_simp)
      have c2 : w1.cell? ⟨w.heap.size, 2, none⟩ = some (.int .i16 st) := hb1.cell (by go_simp)
      have c3 : w1.cell? ⟨w.heap.size, 3, none⟩ = some (.int .i16 sz) := hb1.cell (by go_simp)
      have hw1 : Ext w w1 := by ((repeat (first | with_reducible exact Ext.refl _ | with_reducible exact hw | with_reducible exact hb9 | with_reducible exact hb8 | with_reducible exact hb7 | with_reducible exact hb6 | with_reducible exact hb5 | with_reducible exact hb4 | with_reducible exact hb3 | with_reducible exact hb2 | with_reducible exact hb1 | with_reducible refine Ext.alloc ?_ _ | with_reducible refine Ext.drew ?_ | ((with_reducible refine Ext.set ?_ ?_ _); focus (dsimp only; omega)) | with_reducible refine Ext.trans ?_ hb9 | with_reducible refine Ext.trans ?_ hb8 | with_reducible refine Ext.trans ?_ hb7 | with_reducible refine Ext.trans ?_ hb6 | with_reducible refine Ext.trans ?_ hb5 | with_reducible refine Ext.trans ?_ hb4 | with_reducible refine Ext.trans ?_ hb3 | with_reducible refine Ext.trans ?_ hb2 | with_reducible refine Ext.trans ?_ hb1 | with_reducible refine Ext.trans ?_ hw)))
      by_cases k0 : kd < 0
      · go_wp2
        go_ret
        exact ⟨by rw [hv.out]; rfl, hw1⟩
      · by_cases k3 : 3 < kd
        · go_wp2
          go_ret
          exact ⟨by rw [hv.out]; rfl, hw1⟩
        · by_cases s0 : st < 0
          · go_wp2
            go_ret
            exact ⟨by rw [hv.out]; rfl, hw1⟩
          · have z1 : sz < 1 := by have := hbad2.out; omega
            go_wp2
            go_ret
            exact ⟨by rw [hv.out]; rfl, hw1⟩
  · have hN : isNameB nm = true := by
      cases h : isNameB nm with
      | true => rfl
      | false => exact absurd (.inl h) hbad
    have hk : 0 ≤ kd ∧ kd ≤ 3 ∧ 0 ≤ st ∧ 1 ≤ sz := by
      refine ⟨?_, ?_, ?_, ?_⟩ <;> (apply Decidable.byContradiction; intro h; exact hbad (by omega))
    clear hbad
    obtain ⟨k0, k3, s0, z0⟩ := hk
    rcases (show kd = 0 ∨ kd = 1 ∨ kd = 2 ∨ kd = 3 by omega) with rfl | rfl | rfl | rfl
    · have hmv := manyF_bd 0 sz (by omega) (by omega)
      have hmany := fun W => impl_many nm 0 st sz (by omega) (by omega) W
      generalize hmm : manyF 0 sz = mv at hmv hmany
      have hmm2 := hd hmm
      clear hmm
      have wr1 : IntKind.i64.wrap st = st := IntWalk.i64_in _ (by omega)
      have wr2 : IntKind.i64.wrap (st + mv) = st + mv := IntWalk.i64_in _ (by omega)
      go_enter Tryz.func29, Tryz.ntmps29
      go_wp2_with fail
      refine Calls.mono (impl_isName nm _ hnmx) ?_
      rintro e w1 ⟨rfl, hb1⟩
      rw [hN]
      have c0 : w1.cell? ⟨w.heap.size, 0, none⟩ = some (.string nm) := hb1.cell (by go_simp)
      have c1 : w1.cell? ⟨w.heap.size, 1, none⟩ = some (.int .i8 0) := hb1.cell (by go_simp)
      have c2 : w1.cell? ⟨w.heap.size, 2, none⟩ = some (.int .i16 st) := hb1.cell (by go_simp)
      have c3 : w1.cell? ⟨w.heap.size, 3, none⟩ = some (.int .i16 sz) := hb1.cell (by go_simp)
      have cb : w.heap.size < w1.heap.size := Nat.lt_of_lt_of_le (by simp) hb1.size
      have hw1 : Ext w w1 := by ((repeat (first | with_reducible exact Ext.refl _ | with_reducible exact hw | with_reducible exact hb9 | with_reducible exact hb8 | with_reducible exact hb7 | with_reducible exact hb6 | with_reducible exact hb5 | with_reducible exact hb4 | with_reducible exact hb3 | with_reducible exact hb2 | with_reducible exact hb1 | with_reducible refine Ext.alloc ?_ _ | with_reducible refine Ext.drew ?_ | ((with_reducible refine Ext.set ?_ ?_ _); focus (dsimp only; omega)) | with_reducible refine Ext.trans ?_ hb9 | with_reducible refine Ext.trans ?_ hb8 | with_reducible refine Ext.trans ?_ hb7 | with_reducible refine Ext.trans ?_ hb6 | with_reducible refine Ext.trans ?_ hb5 | with_reducible refine Ext.trans ?_ hb4 | with_reducible refine Ext.trans ?_ hb3 | with_reducible refine Ext.trans ?_ hb2 | with_reducible refine Ext.trans ?_ hb1 | with_reducible refine Ext.trans ?_ hw)))
      clear hb1
      have hb1 := hw1
      by_cases zm : sz ≤ 24
      · have dz : decide (sz ≤ 24) = true := by simp [zm]
        have hv := hd (show fldB ⟨nm, 0, st, sz⟩ = decide (st + mv ≤ 96) by
          unfold fldB
          rw [hN, Bool.true_and, decide_eq_decide]
          dsimp only
          rw [hmm2.out, show mostSz 0 = 24 from rfl]
          omega)
        go_wp2
        refine wp_region_ext (by kernel_rfl) (by kernel_rfl) ?_
        repeat (first | go_big_quiet_step ((go_at_call 47; with_reducible exact Calls.ext_allF2 (fun W _ => hmany W))) | quiet_step ((go_at_call 47; with_reducible exact Calls.ext_allF2 (fun W _ => hmany W))))
        refine wpQuiet_nil ?_
        intro w4 hq4
        have hb4 := ext_of_class hq4
        clear hq4
        obtain ⟨hc4, hf4, hz4⟩ := bcell3 hb4
        try simp at hz4
        go_wp2
        go_ret
        exact ⟨by rw [hv.out]; rfl, by ((repeat (first | with_reducible exact Ext.refl _ | with_reducible exact hw | with_reducible exact hb9 | with_reducible exact hb8 | with_reducible exact hb7 | with_reducible exact hb6 | with_reducible exact hb5 | with_reducible exact hb4 | with_reducible exact hb3 | with_reducible exact hb2 | with_reducible exact hb1 | with_reducible refine Ext.alloc ?_ _ | with_reducible refine Ext.drew ?_ | ((with_reducible refine Ext.set ?_ ?_ _); focus (dsimp only; omega)) | with_reducible refine Ext.trans ?_ hb9 | with_reducible refine Ext.trans ?_ hb8 | with_reducible refine Ext.trans ?_ hb7 | with_reducible refine Ext.trans ?_ hb6 | with_reducible refine Ext.trans ?_ hb5 | with_reducible refine Ext.trans ?_ hb4 | with_reducible refine Ext.trans ?_ hb3 | with_reducible refine Ext.trans ?_ hb2 | with_reducible refine Ext.trans ?_ hb1 | with_reducible refine Ext.trans ?_ hw)))⟩
      · have dz : decide (sz ≤ 24) = false := by simp [zm]
        have hv := hd (fldB_false (f := ⟨nm, 0, st, sz⟩) (fun h => zm h.2.2.2.2.2.1))
        go_wp2
        refine wp_region_ext (by kernel_rfl) (by kernel_rfl) ?_
        repeat (first | go_big_quiet_step (fail) | quiet_step (fail))
        refine wpQuiet_nil ?_
        intro w4 hq4
        have hb4 := ext_of_class hq4
        clear hq4
        obtain ⟨hc4, hf4, hz4⟩ := bcell3 hb4
        try simp at hz4
        go_wp2
        go_ret
        exact ⟨by rw [hv.out]; rfl, by ((repeat (first | with_reducible exact Ext.refl _ | with_reducible exact hw | with_reducible exact hb9 | with_reducible exact hb8 | with_reducible exact hb7 | with_reducible exact hb6 | with_reducible exact hb5 | with_reducible exact hb4 | with_reducible exact hb3 | with_reducible exact hb2 | with_reducible exact hb1 | with_reducible refine Ext.alloc ?_ _ | with_reducible refine Ext.drew ?_ | ((with_reducible refine Ext.set ?_ ?_ _); focus (dsimp only; omega)) | with_reducible refine Ext.trans ?_ hb9 | with_reducible refine Ext.trans ?_ hb8 | with_reducible refine Ext.trans ?_ hb7 | with_reducible refine Ext.trans ?_ hb6 | with_reducible refine Ext.trans ?_ hb5 | with_reducible refine Ext.trans ?_ hb4 | with_reducible refine Ext.trans ?_ hb3 | with_reducible refine Ext.trans ?_ hb2 | with_reducible refine Ext.trans ?_ hb1 | with_reducible refine Ext.trans ?_ hw)))⟩
    · have hmv := manyF_bd 1 sz (by omega) (by omega)
      have hmany := fun W => impl_many nm 1 st sz (by omega) (by omega) W
      generalize hmm : manyF 1 sz = mv at hmv hmany
      have hmm2 := hd hmm
      clear hmm
      have wr1 : IntKind.i64.wrap st = st := IntWalk.i64_in _ (by omega)
      have wr2 : IntKind.i64.wrap (st + mv) = st + mv := IntWalk.i64_in _ (by omega)
      go_enter Tryz.func29, Tryz.ntmps29
      go_wp2_with fail
      refine Calls.mono (impl_isName nm _ hnmx) ?_
      rintro e w1 ⟨rfl, hb1⟩
      rw [hN]
      have c0 : w1.cell? ⟨w.heap.size, 0, none⟩ = some (.string nm) := hb1.cell (by go_simp)
      have c1 : w1.cell? ⟨w.heap.size, 1, none⟩ = some (.int .i8 1) := hb1.cell (by go_simp)
      have c2 : w1.cell? ⟨w.heap.size, 2, none⟩ = some (.int .i16 st) := hb1.cell (by go_simp)
      have c3 : w1.cell? ⟨w.heap.size, 3, none⟩ = some (.int .i16 sz) := hb1.cell (by go_simp)
      have cb : w.heap.size < w1.heap.size := Nat.lt_of_lt_of_le (by simp) hb1.size
      have hw1 : Ext w w1 := by ((repeat (first | with_reducible exact Ext.refl _ | with_reducible exact hw | with_reducible exact hb9 | with_reducible exact hb8 | with_reducible exact hb7 | with_reducible exact hb6 | with_reducible exact hb5 | with_reducible exact hb4 | with_reducible exact hb3 | with_reducible exact hb2 | with_reducible exact hb1 | with_reducible refine Ext.alloc ?_ _ | with_reducible refine Ext.drew ?_ | ((with_reducible refine Ext.set ?_ ?_ _); focus (dsimp only; omega)) | with_reducible refine Ext.trans ?_ hb9 | with_reducible refine Ext.trans ?_ hb8 | with_reducible refine Ext.trans ?_ hb7 | with_reducible refine Ext.trans ?_ hb6 | with_reducible refine Ext.trans ?_ hb5 | with_reducible refine Ext.trans ?_ hb4 | with_reducible refine Ext.trans ?_ hb3 | with_reducible refine Ext.trans ?_ hb2 | with_reducible refine Ext.trans ?_ hb1 | with_reducible refine Ext.trans ?_ hw)))
      clear hb1
      have hb1 := hw1
      by_cases zm : sz ≤ 4
      · have dz : decide (sz ≤ 4) = true := by simp [zm]
        have hv := hd (show fldB ⟨nm, 1, st, sz⟩ = decide (st + mv ≤ 96) by
          unfold fldB
          rw [hN, Bool.true_and, decide_eq_decide]
          dsimp only
          rw [hmm2.out, show mostSz 1 = 4 from rfl]
          omega)
        go_wp2
        refine wp_region_ext (by kernel_rfl) (by kernel_rfl) ?_
        repeat (first | go_big_quiet_step ((go_at_call 47; with_reducible exact Calls.ext_allF2 (fun W _ => hmany W))) | quiet_step ((go_at_call 47; with_reducible exact Calls.ext_allF2 (fun W _ => hmany W))))
        refine wpQuiet_nil ?_
        intro w4 hq4
        have hb4 := ext_of_class hq4
        clear hq4
        obtain ⟨hc4, hf4, hz4⟩ := bcell3 hb4
        try simp at hz4
        go_wp2
        go_ret
        exact ⟨by rw [hv.out]; rfl, by ((repeat (first | with_reducible exact Ext.refl _ | with_reducible exact hw | with_reducible exact hb9 | with_reducible exact hb8 | with_reducible exact hb7 | with_reducible exact hb6 | with_reducible exact hb5 | with_reducible exact hb4 | with_reducible exact hb3 | with_reducible exact hb2 | with_reducible exact hb1 | with_reducible refine Ext.alloc ?_ _ | with_reducible refine Ext.drew ?_ | ((with_reducible refine Ext.set ?_ ?_ _); focus (dsimp only; omega)) | with_reducible refine Ext.trans ?_ hb9 | with_reducible refine Ext.trans ?_ hb8 | with_reducible refine Ext.trans ?_ hb7 | with_reducible refine Ext.trans ?_ hb6 | with_reducible refine Ext.trans ?_ hb5 | with_reducible refine Ext.trans ?_ hb4 | with_reducible refine Ext.trans ?_ hb3 | with_reducible refine Ext.trans ?_ hb2 | with_reducible refine Ext.trans ?_ hb1 | with_reducible refine Ext.trans ?_ hw)))⟩
      · have dz : decide (sz ≤ 4) = false := by simp [zm]
        have hv := hd (fldB_false (f := ⟨nm, 1, st, sz⟩) (fun h => zm h.2.2.2.2.2.1))
        go_wp2
        refine wp_region_ext (by kernel_rfl) (by kernel_rfl) ?_
        repeat (first | go_big_quiet_step (fail) | quiet_step (fail))
        refine wpQuiet_nil ?_
        intro w4 hq4
        have hb4 := ext_of_class hq4
        clear hq4
        obtain ⟨hc4, hf4, hz4⟩ := bcell3 hb4
        try simp at hz4
        go_wp2
        go_ret
        exact ⟨by rw [hv.out]; rfl, by ((repeat (first | with_reducible exact Ext.refl _ | with_reducible exact hw | with_reducible exact hb9 | with_reducible exact hb8 | with_reducible exact hb7 | with_reducible exact hb6 | with_reducible exact hb5 | with_reducible exact hb4 | with_reducible exact hb3 | with_reducible exact hb2 | with_reducible exact hb1 | with_reducible refine Ext.alloc ?_ _ | with_reducible refine Ext.drew ?_ | ((with_reducible refine Ext.set ?_ ?_ _); focus (dsimp only; omega)) | with_reducible refine Ext.trans ?_ hb9 | with_reducible refine Ext.trans ?_ hb8 | with_reducible refine Ext.trans ?_ hb7 | with_reducible refine Ext.trans ?_ hb6 | with_reducible refine Ext.trans ?_ hb5 | with_reducible refine Ext.trans ?_ hb4 | with_reducible refine Ext.trans ?_ hb3 | with_reducible refine Ext.trans ?_ hb2 | with_reducible refine Ext.trans ?_ hb1 | with_reducible refine Ext.trans ?_ hw)))⟩
    · have hmv := manyF_bd 2 sz (by omega) (by omega)
      have hmany := fun W => impl_many nm 2 st sz (by omega) (by omega) W
      generalize hmm : manyF 2 sz = mv at hmv hmany
      have hmm2 := hd hmm
      clear hmm
      have wr1 : IntKind.i64.wrap st = st := IntWalk.i64_in _ (by omega)
      have wr2 : IntKind.i64.wrap (st + mv) = st + mv := IntWalk.i64_in _ (by omega)
      go_enter Tryz.func29, Tryz.ntmps29
      go_wp2_with fail
      refine Calls.mono (impl_isName nm _ hnmx) ?_
      rintro e w1 ⟨rfl, hb1⟩
      rw [hN]
      have c0 : w1.cell? ⟨w.heap.size, 0, none⟩ = some (.string nm) := hb1.cell (by go_simp)
      have c1 : w1.cell? ⟨w.heap.size, 1, none⟩ = some (.int .i8 2) := hb1.cell (by go_simp)
      have c2 : w1.cell? ⟨w.heap.size, 2, none⟩ = some (.int .i16 st) := hb1.cell (by go_simp)
      have c3 : w1.cell? ⟨w.heap.size, 3, none⟩ = some (.int .i16 sz) := hb1.cell (by go_simp)
      have cb : w.heap.size < w1.heap.size := Nat.lt_of_lt_of_le (by simp) hb1.size
      have hw1 : Ext w w1 := by ((repeat (first | with_reducible exact Ext.refl _ | with_reducible exact hw | with_reducible exact hb9 | with_reducible exact hb8 | with_reducible exact hb7 | with_reducible exact hb6 | with_reducible exact hb5 | with_reducible exact hb4 | with_reducible exact hb3 | with_reducible exact hb2 | with_reducible exact hb1 | with_reducible refine Ext.alloc ?_ _ | with_reducible refine Ext.drew ?_ | ((with_reducible refine Ext.set ?_ ?_ _); focus (dsimp only; omega)) | with_reducible refine Ext.trans ?_ hb9 | with_reducible refine Ext.trans ?_ hb8 | with_reducible refine Ext.trans ?_ hb7 | with_reducible refine Ext.trans ?_ hb6 | with_reducible refine Ext.trans ?_ hb5 | with_reducible refine Ext.trans ?_ hb4 | with_reducible refine Ext.trans ?_ hb3 | with_reducible refine Ext.trans ?_ hb2 | with_reducible refine Ext.trans ?_ hb1 | with_reducible refine Ext.trans ?_ hw)))
      clear hb1
      have hb1 := hw1
      by_cases zm : sz ≤ 4
      · have dz : decide (sz ≤ 4) = true := by simp [zm]
        have hv := hd (show fldB ⟨nm, 2, st, sz⟩ = decide (st + mv ≤ 96) by
          unfold fldB
          rw [hN, Bool.true_and, decide_eq_decide]
          dsimp only
          rw [hmm2.out, show mostSz 2 = 4 from rfl]
          omega)
        go_wp2
        refine wp_region_ext (by kernel_rfl) (by kernel_rfl) ?_
        repeat (first | go_big_quiet_step ((go_at_call 47; with_reducible exact Calls.ext_allF2 (fun W _ => hmany W))) | quiet_step ((go_at_call 47; with_reducible exact Calls.ext_allF2 (fun W _ => hmany W))))
        refine wpQuiet_nil ?_
        intro w4 hq4
        have hb4 := ext_of_class hq4
        clear hq4
        obtain ⟨hc4, hf4, hz4⟩ := bcell3 hb4
        try simp at hz4
        go_wp2
        go_ret
        exact ⟨by rw [hv.out]; rfl, by ((repeat (first | with_reducible exact Ext.refl _ | with_reducible exact hw | with_reducible exact hb9 | with_reducible exact hb8 | with_reducible exact hb7 | with_reducible exact hb6 | with_reducible exact hb5 | with_reducible exact hb4 | with_reducible exact hb3 | with_reducible exact hb2 | with_reducible exact hb1 | with_reducible refine Ext.alloc ?_ _ | with_reducible refine Ext.drew ?_ | ((with_reducible refine Ext.set ?_ ?_ _); focus (dsimp only; omega)) | with_reducible refine Ext.trans ?_ hb9 | with_reducible refine Ext.trans ?_ hb8 | with_reducible refine Ext.trans ?_ hb7 | with_reducible refine Ext.trans ?_ hb6 | with_reducible refine Ext.trans ?_ hb5 | with_reducible refine Ext.trans ?_ hb4 | with_reducible refine Ext.trans ?_ hb3 | with_reducible refine Ext.trans ?_ hb2 | with_reducible refine Ext.trans ?_ hb1 | with_reducible refine Ext.trans ?_ hw)))⟩
      · have dz : decide (sz ≤ 4) = false := by simp [zm]
        have hv := hd (fldB_false (f := ⟨nm, 2, st, sz⟩) (fun h => zm h.2.2.2.2.2.1))
        go_wp2
        refine wp_region_ext (by kernel_rfl) (by kernel_rfl) ?_
        repeat (first | go_big_quiet_step (fail) | quiet_step (fail))
        refine wpQuiet_nil ?_
        intro w4 hq4
        have hb4 := ext_of_class hq4
        clear hq4
        obtain ⟨hc4, hf4, hz4⟩ := bcell3 hb4
        try simp at hz4
        go_wp2
        go_ret
        exact ⟨by rw [hv.out]; rfl, by ((repeat (first | with_reducible exact Ext.refl _ | with_reducible exact hw | with_reducible exact hb9 | with_reducible exact hb8 | with_reducible exact hb7 | with_reducible exact hb6 | with_reducible exact hb5 | with_reducible exact hb4 | with_reducible exact hb3 | with_reducible exact hb2 | with_reducible exact hb1 | with_reducible refine Ext.alloc ?_ _ | with_reducible refine Ext.drew ?_ | ((with_reducible refine Ext.set ?_ ?_ _); focus (dsimp only; omega)) | with_reducible refine Ext.trans ?_ hb9 | with_reducible refine Ext.trans ?_ hb8 | with_reducible refine Ext.trans ?_ hb7 | with_reducible refine Ext.trans ?_ hb6 | with_reducible refine Ext.trans ?_ hb5 | with_reducible refine Ext.trans ?_ hb4 | with_reducible refine Ext.trans ?_ hb3 | with_reducible refine Ext.trans ?_ hb2 | with_reducible refine Ext.trans ?_ hb1 | with_reducible refine Ext.trans ?_ hw)))⟩
    · have hmv := manyF_bd 3 sz (by omega) (by omega)
      have hmany := fun W => impl_many nm 3 st sz (by omega) (by omega) W
      generalize hmm : manyF 3 sz = mv at hmv hmany
      have hmm2 := hd hmm
      clear hmm
      have wr1 : IntKind.i64.wrap st = st := IntWalk.i64_in _ (by omega)
      have wr2 : IntKind.i64.wrap (st + mv) = st + mv := IntWalk.i64_in _ (by omega)
      go_enter Tryz.func29, Tryz.ntmps29
      go_wp2_with fail
      refine Calls.mono (impl_isName nm _ hnmx) ?_
      rintro e w1 ⟨rfl, hb1⟩
      rw [hN]
      have c0 : w1.cell? ⟨w.heap.size, 0, none⟩ = some (.string nm) := hb1.cell (by go_simp)
      have c1 : w1.cell? ⟨w.heap.size, 1, none⟩ = some (.int .i8 3) := hb1.cell (by go_simp)
      have c2 : w1.cell? ⟨w.heap.size, 2, none⟩ = some (.int .i16 st) := hb1.cell (by go_simp)
      have c3 : w1.cell? ⟨w.heap.size, 3, none⟩ = some (.int .i16 sz) := hb1.cell (by go_simp)
      have cb : w.heap.size < w1.heap.size := Nat.lt_of_lt_of_le (by simp) hb1.size
      have hw1 : Ext w w1 := by ((repeat (first | with_reducible exact Ext.refl _ | with_reducible exact hw | with_reducible exact hb9 | with_reducible exact hb8 | with_reducible exact hb7 | with_reducible exact hb6 | with_reducible exact hb5 | with_reducible exact hb4 | with_reducible exact hb3 | with_reducible exact hb2 | with_reducible exact hb1 | with_reducible refine Ext.alloc ?_ _ | with_reducible refine Ext.drew ?_ | ((with_reducible refine Ext.set ?_ ?_ _); focus (dsimp only; omega)) | with_reducible refine Ext.trans ?_ hb9 | with_reducible refine Ext.trans ?_ hb8 | with_reducible refine Ext.trans ?_ hb7 | with_reducible refine Ext.trans ?_ hb6 | with_reducible refine Ext.trans ?_ hb5 | with_reducible refine Ext.trans ?_ hb4 | with_reducible refine Ext.trans ?_ hb3 | with_reducible refine Ext.trans ?_ hb2 | with_reducible refine Ext.trans ?_ hb1 | with_reducible refine Ext.trans ?_ hw)))
      clear hb1
      have hb1 := hw1
      by_cases zm : sz ≤ 12
      · have dz : decide (sz ≤ 12) = true := by simp [zm]
        have hv := hd (show fldB ⟨nm, 3, st, sz⟩ = decide (st + mv ≤ 96) by
          unfold fldB
          rw [hN, Bool.true_and, decide_eq_decide]
          dsimp only
          rw [hmm2.out, show mostSz 3 = 12 from rfl]
          omega)
        go_wp2
        refine wp_region_ext (by kernel_rfl) (by kernel_rfl) ?_
        repeat (first | go_big_quiet_step ((go_at_call 47; with_reducible exact Calls.ext_allF2 (fun W _ => hmany W))) | quiet_step ((go_at_call 47; with_reducible exact Calls.ext_allF2 (fun W _ => hmany W))))
        refine wpQuiet_nil ?_
        intro w4 hq4
        have hb4 := ext_of_class hq4
        clear hq4
        obtain ⟨hc4, hf4, hz4⟩ := bcell3 hb4
        try simp at hz4
        go_wp2
        go_ret
        exact ⟨by rw [hv.out]; rfl, by ((repeat (first | with_reducible exact Ext.refl _ | with_reducible exact hw | with_reducible exact hb9 | with_reducible exact hb8 | with_reducible exact hb7 | with_reducible exact hb6 | with_reducible exact hb5 | with_reducible exact hb4 | with_reducible exact hb3 | with_reducible exact hb2 | with_reducible exact hb1 | with_reducible refine Ext.alloc ?_ _ | with_reducible refine Ext.drew ?_ | ((with_reducible refine Ext.set ?_ ?_ _); focus (dsimp only; omega)) | with_reducible refine Ext.trans ?_ hb9 | with_reducible refine Ext.trans ?_ hb8 | with_reducible refine Ext.trans ?_ hb7 | with_reducible refine Ext.trans ?_ hb6 | with_reducible refine Ext.trans ?_ hb5 | with_reducible refine Ext.trans ?_ hb4 | with_reducible refine Ext.trans ?_ hb3 | with_reducible refine Ext.trans ?_ hb2 | with_reducible refine Ext.trans ?_ hb1 | with_reducible refine Ext.trans ?_ hw)))⟩
      · have dz : decide (sz ≤ 12) = false := by simp [zm]
        have hv := hd (fldB_false (f := ⟨nm, 3, st, sz⟩) (fun h => zm h.2.2.2.2.2.1))
        go_wp2
        refine wp_region_ext (by kernel_rfl) (by kernel_rfl) ?_
        repeat (first | go_big_quiet_step (fail) | quiet_step (fail))
        refine wpQuiet_nil ?_
        intro w4 hq4
        have hb4 := ext_of_class hq4
        clear hq4
        obtain ⟨hc4, hf4, hz4⟩ := bcell3 hb4
        try simp at hz4
        go_wp2
        go_ret
        exact ⟨by rw [hv.out]; rfl, by ((repeat (first | with_reducible exact Ext.refl _ | with_reducible exact hw | with_reducible exact hb9 | with_reducible exact hb8 | with_reducible exact hb7 | with_reducible exact hb6 | with_reducible exact hb5 | with_reducible exact hb4 | with_reducible exact hb3 | with_reducible exact hb2 | with_reducible exact hb1 | with_reducible refine Ext.alloc ?_ _ | with_reducible refine Ext.drew ?_ | ((with_reducible refine Ext.set ?_ ?_ _); focus (dsimp only; omega)) | with_reducible refine Ext.trans ?_ hb9 | with_reducible refine Ext.trans ?_ hb8 | with_reducible refine Ext.trans ?_ hb7 | with_reducible refine Ext.trans ?_ hb6 | with_reducible refine Ext.trans ?_ hb5 | with_reducible refine Ext.trans ?_ hb4 | with_reducible refine Ext.trans ?_ hb3 | with_reducible refine Ext.trans ?_ hb2 | with_reducible refine Ext.trans ?_ hb1 | with_reducible refine Ext.trans ?_ hw)))⟩
end Go.Proofs.YtdiblmlcapommaaGreatDoor
set_option linter.unusedVariables false
set_option linter.unusedSimpArgs false
set_option maxRecDepth 100000
namespace Go.Proofs.YtdiblmlcapommaaGreatDoor
open Go.RowKit
set_option maxHeartbeats 1000000 in
theorem spec_l01Field (nm : ByteArray) (kd st sz : Int) (b o : Nat) (hk0 : -128 ≤ kd) (hk1 : kd < 128) (ht0 : -32768 ≤ st) (ht1 : st < 32768) (hs0 : -32768 ≤ sz) (hs1 : sz < 32768) (hnmx : nm.size ≤ 9223372036854775807) (w : World) (hA : FldAt w b o ⟨nm, kd, st, sz⟩) (hlt : b < w.heap.size) :
    Calls Tryz.prog 21 #[.pointer (some ⟨b, o, none⟩)] w fun e w' => e = .returned (.bool (fldB ⟨nm, kd, st, sz⟩)) ∧ Ext w w' := by
  have hx := @ExtOf.cell
  cases hN : isNameB nm with
  | false =>
    have hv := hd (fldB_false (f := ⟨nm, kd, st, sz⟩) (fun h => by have := h.1; dsimp only at this; rw [hN] at this; cases this))
    have hnm2 := fun W => spec_l01Name nm W hnmx
    rw [hN] at hnm2
    obtain ⟨c0, c1, c2, c3⟩ := hA
    dsimp only at c0 c1 c2 c3
    rcases (show kd = 0 ∨ kd = 1 ∨ kd = 2 ∨ kd = 3 ∨ (¬ kd = 0 ∧ ¬ kd = 1 ∧ ¬ kd = 2 ∧ ¬ kd = 3) by omega) with rfl | rfl | rfl | rfl | ⟨k0, k1, k2, k3⟩
    all_goals
      go_enter Tryz.func21, Tryz.ntmps21
      go_wp2
      refine wp_region_ext (by kernel_rfl) (by kernel_rfl) ?_
      repeat (first | go_big_quiet_step ((go_at_call 35; with_reducible exact Calls.ext_all (fun W _ => hnm2 W))) | quiet_step ((go_at_call 35; with_reducible exact Calls.ext_all (fun W _ => hnm2 W))))
      refine wpQuiet_nil ?_
      intro w4 hq4
      have hb4 := ext_of_class hq4
      clear hq4
      obtain ⟨hc4, hf4, hz4⟩ := bcell3 hb4
      try simp at hz4
      go_wp2
      go_ret
      exact ⟨by rw [hv.out]; rfl, by ((repeat (first | with_reducible exact Ext.refl _ | with_reducible exact hw | with_reducible exact hb9 | with_reducible exact hb8 | with_reducible exact hb7 | with_reducible exact hb6 | with_reducible exact hb5 | with_reducible exact hb4 | with_reducible exact hb3 | with_reducible exact hb2 | with_reducible exact hb1 | with_reducible refine Ext.alloc ?_ _ | with_reducible refine Ext.drew ?_ | ((with_reducible refine Ext.set ?_ ?_ _); focus (dsimp only; omega)) | with_reducible refine Ext.trans ?_ hb9 | with_reducible refine Ext.trans ?_ hb8 | with_reducible refine Ext.trans ?_ hb7 | with_reducible refine Ext.trans ?_ hb6 | with_reducible refine Ext.trans ?_ hb5 | with_reducible refine Ext.trans ?_ hb4 | with_reducible refine Ext.trans ?_ hb3 | with_reducible refine Ext.trans ?_ hb2 | with_reducible refine Ext.trans ?_ hb1 | with_reducible refine Ext.trans ?_ hw)))⟩
  | true =>
    rcases (show kd = 0 ∨ kd = 1 ∨ kd = 2 ∨ kd = 3 ∨ (¬ kd = 0 ∧ ¬ kd = 1 ∧ ¬ kd = 2 ∧ ¬ kd = 3) by omega) with rfl | rfl | rfl | rfl | ⟨k0, k1, k2, k3⟩
    · have hk9 : (0 : Int) ≤ 0 := by decide
      have wr1 : IntKind.i64.wrap st = st := IntWalk.i64_in _ (by omega)
      have wr3 : IntKind.i64.wrap sz = sz := IntWalk.i64_in _ (by omega)
      have hnm2 := fun W => spec_l01Name nm W hnmx
      rw [hN] at hnm2
      have hF := hA
      obtain ⟨c0, c1, c2, c3⟩ := hA
      dsimp only at c0 c1 c2 c3
      by_cases z1 : 1 ≤ sz ∧ sz ≤ 24
      · have z2 := z1.1
        have z3 := z1.2
        have hmv := manyF_bd 0 sz (by omega) (by omega)
        have hwid := fun W (hW : FldAt W b o ⟨nm, 0, st, sz⟩) => spec_l01Width b o ⟨nm, 0, st, sz⟩ (by first | omega | (dsimp only; omega)) (by first | omega | (dsimp only; omega)) W hW
        dsimp only at hwid
        generalize hmm : manyF 0 sz = mv at hmv hwid
        have hmm2 := hd hmm
        clear hmm
        have wr2 : IntKind.i64.wrap (96 - mv) = 96 - mv := IntWalk.i64_in _ (by omega)
        have hi1 := fun W => spec_l00In sz 1 24 W
        rw [show inB sz 1 24 = true by simp [inB, z1.1, z1.2]] at hi1
        have hi2 := fun W => spec_l00In st 0 (96 - mv) W
        have hv := hd (show fldB ⟨nm, 0, st, sz⟩ = inB st 0 (96 - mv) by
          unfold fldB inB
          rw [hN, Bool.true_and, ← Bool.decide_and, decide_eq_decide]
          dsimp only
          rw [hmm2.out, show mostSz 0 = 24 from rfl]
          omega)
        generalize inB st 0 (96 - mv) = q at hi2 hv
        go_enter Tryz.func21, Tryz.ntmps21
        go_wp2
        refine wp_region_ext (by kernel_rfl) (by kernel_rfl) ?_
        repeat (first | go_big_quiet_step ((first | (go_at_call 35; with_reducible exact Calls.ext_all (fun W _ => hnm2 W)) | (go_at_call 36; with_reducible exact Calls.ext_all (fun W _ => hi1 W)) | (go_at_call 36; with_reducible exact Calls.ext_all (fun W _ => hi2 W)) | (go_at_call 37; with_reducible exact Calls.ext_all (fun W hW => hwid W (hF.ext hW))))) | quiet_step ((first | (go_at_call 35; with_reducible exact Calls.ext_all (fun W _ => hnm2 W)) | (go_at_call 36; with_reducible exact Calls.ext_all (fun W _ => hi1 W)) | (go_at_call 36; with_reducible exact Calls.ext_all (fun W _ => hi2 W)) | (go_at_call 37; with_reducible exact Calls.ext_all (fun W hW => hwid W (hF.ext hW))))))
        refine wpQuiet_nil ?_
        intro w4 hq4
        have hb4 := ext_of_class hq4
        clear hq4
        obtain ⟨hc4, hf4, hz4⟩ := bcell3 hb4
        try simp at hz4
        go_wp2
        go_ret
        exact ⟨by rw [hv.out]; rfl, by ((repeat (first | with_reducible exact Ext.refl _ | with_reducible exact hw | with_reducible exact hb9 | with_reducible exact hb8 | with_reducible exact hb7 | with_reducible exact hb6 | with_reducible exact hb5 | with_reducible exact hb4 | with_reducible exact hb3 | with_reducible exact hb2 | with_reducible exact hb1 | with_reducible refine Ext.alloc ?_ _ | with_reducible refine Ext.drew ?_ | ((with_reducible refine Ext.set ?_ ?_ _); focus (dsimp only; omega)) | with_reducible refine Ext.trans ?_ hb9 | with_reducible refine Ext.trans ?_ hb8 | with_reducible refine Ext.trans ?_ hb7 | with_reducible refine Ext.trans ?_ hb6 | with_reducible refine Ext.trans ?_ hb5 | with_reducible refine Ext.trans ?_ hb4 | with_reducible refine Ext.trans ?_ hb3 | with_reducible refine Ext.trans ?_ hb2 | with_reducible refine Ext.trans ?_ hb1 | with_reducible refine Ext.trans ?_ hw)))⟩
      · have hi1 := fun W => spec_l00In sz 1 24 W
        rw [show inB sz 1 24 = false by simp only [inB, Bool.and_eq_false_iff, decide_eq_false_iff_not]; omega] at hi1
        have hv := hd (fldB_false (f := ⟨nm, 0, st, sz⟩) (fun h => z1 ⟨h.2.2.2.2.1, h.2.2.2.2.2.1⟩))
        go_enter Tryz.func21, Tryz.ntmps21
        go_wp2
        refine wp_region_ext (by kernel_rfl) (by kernel_rfl) ?_
        repeat (first | go_big_quiet_step ((first | (go_at_call 35; with_reducible exact Calls.ext_all (fun W _ => hnm2 W)) | (go_at_call 36; with_reducible exact Calls.ext_all (fun W _ => hi1 W)))) | quiet_step ((first | (go_at_call 35; with_reducible exact Calls.ext_all (fun W _ => hnm2 W)) | (go_at_call 36; with_reducible exact Calls.ext_all (fun W _ => hi1 W)))))
        refine wpQuiet_nil ?_
        intro w4 hq4
        have hb4 := ext_of_class hq4
        clear hq4
        obtain ⟨hc4, hf4, hz4⟩ := bcell3 hb4
        try simp at hz4
        go_wp2
        go_ret
        exact ⟨by rw [hv.out]; rfl, by ((repeat (first | with_reducible exact Ext.refl _ | with_reducible exact hw | with_reducible exact hb9 | with_reducible exact hb8 | with_reducible exact hb7 | with_reducible exact hb6 | with_reducible exact hb5 | with_reducible exact hb4 | with_reducible exact hb3 | with_reducible exact hb2 | with_reducible exact hb1 | with_reducible refine Ext.alloc ?_ _ | with_reducible refine Ext.drew ?_ | ((with_reducible refine Ext.set ?_ ?_ _); focus (dsimp only; omega)) | with_reducible refine Ext.trans ?_ hb9 | with_reducible refine Ext.trans ?_ hb8 | with_reducible refine Ext.trans ?_ hb7 | with_reducible refine Ext.trans ?_ hb6 | with_reducible refine Ext.trans ?_ hb5 | with_reducible refine Ext.trans ?_ hb4 | with_reducible refine Ext.trans ?_ hb3 | with_reducible refine Ext.trans ?_ hb2 | with_reducible refine Ext.trans ?_ hb1 | with_reducible refine Ext.trans ?_ hw)))⟩
    · have hk9 : (0 : Int) ≤ 1 := by decide
      have wr1 : IntKind.i64.wrap st = st := IntWalk.i64_in _ (by omega)
      have wr3 : IntKind.i64.wrap sz = sz := IntWalk.i64_in _ (by omega)
      have hnm2 := fun W => spec_l01Name nm W hnmx
      rw [hN] at hnm2
      have hF := hA
      obtain ⟨c0, c1, c2, c3⟩ := hA
      dsimp only at c0 c1 c2 c3
      by_cases z1 : 1 ≤ sz ∧ sz ≤ 4
      · have z2 := z1.1
        have z3 := z1.2
        have hmv := manyF_bd 1 sz (by omega) (by omega)
        have hwid := fun W (hW : FldAt W b o ⟨nm, 1, st, sz⟩) => spec_l01Width b o ⟨nm, 1, st, sz⟩ (by first | omega | (dsimp only; omega)) (by first | omega | (dsimp only; omega)) W hW
        dsimp only at hwid
        generalize hmm : manyF 1 sz = mv at hmv hwid
        have hmm2 := hd hmm
        clear hmm
        have wr2 : IntKind.i64.wrap (96 - mv) = 96 - mv := IntWalk.i64_in _ (by omega)
        have hi1 := fun W => spec_l00In sz 1 4 W
        rw [show inB sz 1 4 = true by simp [inB, z1.1, z1.2]] at hi1
        have hi2 := fun W => spec_l00In st 0 (96 - mv) W
        have hv := hd (show fldB ⟨nm, 1, st, sz⟩ = inB st 0 (96 - mv) by
          unfold fldB inB
          rw [hN, Bool.true_and, ← Bool.decide_and, decide_eq_decide]
          dsimp only
          rw [hmm2.out, show mostSz 1 = 4 from rfl]
          omega)
        generalize inB st 0 (96 - mv) = q at hi2 hv
        go_enter Tryz.func21, Tryz.ntmps21
        go_wp2
        refine wp_region_ext (by kernel_rfl) (by kernel_rfl) ?_
        repeat (first | go_big_quiet_step ((first | (go_at_call 35; with_reducible exact Calls.ext_all (fun W _ => hnm2 W)) | (go_at_call 36; with_reducible exact Calls.ext_all (fun W _ => hi1 W)) | (go_at_call 36; with_reducible exact Calls.ext_all (fun W _ => hi2 W)) | (go_at_call 37; with_reducible exact Calls.ext_all (fun W hW => hwid W (hF.ext hW))))) | quiet_step ((first | (go_at_call 35; with_reducible exact Calls.ext_all (fun W _ => hnm2 W)) | (go_at_call 36; with_reducible exact Calls.ext_all (fun W _ => hi1 W)) | (go_at_call 36; with_reducible exact Calls.ext_all (fun W _ => hi2 W)) | (go_at_call 37; with_reducible exact Calls.ext_all (fun W hW => hwid W (hF.ext hW))))))
        refine wpQuiet_nil ?_
        intro w4 hq4
        have hb4 := ext_of_class hq4
        clear hq4
        obtain ⟨hc4, hf4, hz4⟩ := bcell3 hb4
        try simp at hz4
        go_wp2
        go_ret
        exact ⟨by rw [hv.out]; rfl, by ((repeat (first | with_reducible exact Ext.refl _ | with_reducible exact hw | with_reducible exact hb9 | with_reducible exact hb8 | with_reducible exact hb7 | with_reducible exact hb6 | with_reducible exact hb5 | with_reducible exact hb4 | with_reducible exact hb3 | with_reducible exact hb2 | with_reducible exact hb1 | with_reducible refine Ext.alloc ?_ _ | with_reducible refine Ext.drew ?_ | ((with_reducible refine Ext.set ?_ ?_ _); focus (dsimp only; omega)) | with_reducible refine Ext.trans ?_ hb9 | with_reducible refine Ext.trans ?_ hb8 | with_reducible refine Ext.trans ?_ hb7 | with_reducible refine Ext.trans ?_ hb6 | with_reducible refine Ext.trans ?_ hb5 | with_reducible refine Ext.trans ?_ hb4 | with_reducible refine Ext.trans ?_ hb3 | with_reducible refine Ext.trans ?_ hb2 | with_reducible refine Ext.trans ?_ hb1 | with_reducible refine Ext.trans ?_ hw)))⟩
      · have hi1 := fun W => spec_l00In sz 1 4 W
        rw [show inB sz 1 4 = false by simp only [inB, Bool.and_eq_false_iff, decide_eq_false_iff_not]; omega] at hi1
        have hv := hd (fldB_false (f := ⟨nm, 1, st, sz⟩) (fun h => z1 ⟨h.2.2.2.2.1, h.2.2.2.2.2.1⟩))
        go_enter Tryz.func21, Tryz.ntmps21
        go_wp2
        refine wp_region_ext (by kernel_rfl) (by kernel_rfl) ?_
        repeat (first | go_big_quiet_step ((first | (go_at_call 35; with_reducible exact Calls.ext_all (fun W _ => hnm2 W)) | (go_at_call 36; with_reducible exact Calls.ext_all (fun W _ => hi1 W)))) | quiet_step ((first | (go_at_call 35; with_reducible exact Calls.ext_all (fun W _ => hnm2 W)) | (go_at_call 36; with_reducible exact Calls.ext_all (fun W _ => hi1 W)))))
        refine wpQuiet_nil ?_
        intro w4 hq4
        have hb4 := ext_of_class hq4
        clear hq4
        obtain ⟨hc4, hf4, hz4⟩ := bcell3 hb4
        try simp at hz4
        go_wp2
        go_ret
        exact ⟨by rw [hv.out]; rfl, by ((repeat (first | with_reducible exact Ext.refl _ | with_reducible exact hw | with_reducible exact hb9 | with_reducible exact hb8 | with_reducible exact hb7 | with_reducible exact hb6 | with_reducible exact hb5 | with_reducible exact hb4 | with_reducible exact hb3 | with_reducible exact hb2 | with_reducible exact hb1 | with_reducible refine Ext.alloc ?_ _ | with_reducible refine Ext.drew ?_ | ((with_reducible refine Ext.set ?_ ?_ _); focus (dsimp only; omega)) | with_reducible refine Ext.trans ?_ hb9 | with_reducible refine Ext.trans ?_ hb8 | with_reducible refine Ext.trans ?_ hb7 | with_reducible refine Ext.trans ?_ hb6 | with_reducible refine Ext.trans ?_ hb5 | with_reducible refine Ext.trans ?_ hb4 | with_reducible refine Ext.trans ?_ hb3 | with_reducible refine Ext.trans ?_ hb2 | with_reducible refine Ext.trans ?_ hb1 | with_reducible refine Ext.trans ?_ hw)))⟩
    · have hk9 : (0 : Int) ≤ 2 := by decide
      have wr1 : IntKind.i64.wrap st = st := IntWalk.i64_in _ (by omega)
      have wr3 : IntKind.i64.wrap sz = sz := IntWalk.i64_in _ (by omega)
      have hnm2 := fun W => spec_l01Name nm W hnmx
      rw [hN] at hnm2
      have hF := hA
      obtain ⟨c0, c1, c2, c3⟩ := hA
      dsimp only at c0 c1 c2 c3
      by_cases z1 : 1 ≤ sz ∧ sz ≤ 4
      · have z2 := z1.1
        have z3 := z1.2
        have hmv := manyF_bd 2 sz (by omega) (by omega)
        have hwid := fun W (hW : FldAt W b o ⟨nm, 2, st, sz⟩) => spec_l01Width b o ⟨nm, 2, st, sz⟩ (by first | omega | (dsimp only; omega)) (by first | omega | (dsimp only; omega)) W hW
        dsimp only at hwid
        generalize hmm : manyF 2 sz = mv at hmv hwid
        have hmm2 := hd hmm
        clear hmm
        have wr2 : IntKind.i64.wrap (96 - mv) = 96 - mv := IntWalk.i64_in _ (by omega)
        have hi1 := fun W => spec_l00In sz 1 4 W
        rw [show inB sz 1 4 = true by simp [inB, z1.1, z1.2]] at hi1
        have hi2 := fun W => spec_l00In st 0 (96 - mv) W
        have hv := hd (show fldB ⟨nm, 2, st, sz⟩ = inB st 0 (96 - mv) by
          unfold fldB inB
          rw [hN, Bool.true_and, ← Bool.decide_and, decide_eq_decide]
          dsimp only
          rw [hmm2.out, show mostSz 2 = 4 from rfl]
          omega)
        generalize inB st 0 (96 - mv) = q at hi2 hv
        go_enter Tryz.func21, Tryz.ntmps21
        go_wp2
        refine wp_region_ext (by kernel_rfl) (by kernel_rfl) ?_
        repeat (first | go_big_quiet_step ((first | (go_at_call 35; with_reducible exact Calls.ext_all (fun W _ => hnm2 W)) | (go_at_call 36; with_reducible exact Calls.ext_all (fun W _ => hi1 W)) | (go_at_call 36; with_reducible exact Calls.ext_all (fun W _ => hi2 W)) | (go_at_call 37; with_reducible exact Calls.ext_all (fun W hW => hwid W (hF.ext hW))))) | quiet_step ((first | (go_at_call 35; with_reducible exact Calls.ext_all (fun W _ => hnm2 W)) | (go_at_call 36; with_reducible exact Calls.ext_all (fun W _ => hi1 W)) | (go_at_call 36; with_reducible exact Calls.ext_all (fun W _ => hi2 W)) | (go_at_call 37; with_reducible exact Calls.ext_all (fun W hW => hwid W (hF.ext hW))))))
        refine wpQuiet_nil ?_
        intro w4 hq4
        have hb4 := ext_of_class hq4
        clear hq4
        obtain ⟨hc4, hf4, hz4⟩ := bcell3 hb4
        try simp at hz4
        go_wp2
        go_ret
        exact ⟨by rw [hv.out]; rfl, by ((repeat (first | with_reducible exact Ext.refl _ | with_reducible exact hw | with_reducible exact hb9 | with_reducible exact hb8 | with_reducible exact hb7 | with_reducible exact hb6 | with_reducible exact hb5 | with_reducible exact hb4 | with_reducible exact hb3 | with_reducible exact hb2 | with_reducible exact hb1 | with_reducible refine Ext.alloc ?_ _ | with_reducible refine Ext.drew ?_ | ((with_reducible refine Ext.set ?_ ?_ _); focus (dsimp only; omega)) | with_reducible refine Ext.trans ?_ hb9 | with_reducible refine Ext.trans ?_ hb8 | with_reducible refine Ext.trans ?_ hb7 | with_reducible refine Ext.trans ?_ hb6 | with_reducible refine Ext.trans ?_ hb5 | with_reducible refine Ext.trans ?_ hb4 | with_reducible refine Ext.trans ?_ hb3 | with_reducible refine Ext.trans ?_ hb2 | with_reducible refine Ext.trans ?_ hb1 | with_reducible refine Ext.trans ?_ hw)))⟩
      · have hi1 := fun W => spec_l00In sz 1 4 W
        rw [show inB sz 1 4 = false by simp only [inB, Bool.and_eq_false_iff, decide_eq_false_iff_not]; omega] at hi1
        have hv := hd (fldB_false (f := ⟨nm, 2, st, sz⟩) (fun h => z1 ⟨h.2.2.2.2.1, h.2.2.2.2.2.1⟩))
        go_enter Tryz.func21, Tryz.ntmps21
        go_wp2
        refine wp_region_ext (by kernel_rfl) (by kernel_rfl) ?_
        repeat (first | go_big_quiet_step ((first | (go_at_call 35; with_reducible exact Calls.ext_all (fun W _ => hnm2 W)) | (go_at_call 36; with_reducible exact Calls.ext_all (fun W _ => hi1 W)))) | quiet_step ((first | (go_at_call 35; with_reducible exact Calls.ext_all (fun W _ => hnm2 W)) | (go_at_call 36; with_reducible exact Calls.ext_all (fun W _ => hi1 W)))))
        refine wpQuiet_nil ?_
        intro w4 hq4
        have hb4 := ext_of_class hq4
        clear hq4
        obtain ⟨hc4, hf4, hz4⟩ := bcell3 hb4
        try simp at hz4
        go_wp2
        go_ret
        exact ⟨by rw [hv.out]; rfl, by ((repeat (first | with_reducible exact Ext.refl _ | with_reducible exact hw | with_reducible exact hb9 | with_reducible exact hb8 | with_reducible exact hb7 | with_reducible exact hb6 | with_reducible exact hb5 | with_reducible exact hb4 | with_reducible exact hb3 | with_reducible exact hb2 | with_reducible exact hb1 | with_reducible refine Ext.alloc ?_ _ | with_reducible refine Ext.drew ?_ | ((with_reducible refine Ext.set ?_ ?_ _); focus (dsimp only; omega)) | with_reducible refine Ext.trans ?_ hb9 | with_reducible refine Ext.trans ?_ hb8 | with_reducible refine Ext.trans ?_ hb7 | with_reducible refine Ext.trans ?_ hb6 | with_reducible refine Ext.trans ?_ hb5 | with_reducible refine Ext.trans ?_ hb4 | with_reducible refine Ext.trans ?_ hb3 | with_reducible refine Ext.trans ?_ hb2 | with_reducible refine Ext.trans ?_ hb1 | with_reducible refine Ext.trans ?_ hw)))⟩
    · have hk9 : (0 : Int) ≤ 3 := by decide
      have wr1 : IntKind.i64.wrap st = st := IntWalk.i64_in _ (by omega)
      have wr3 : IntKind.i64.wrap sz = sz := IntWalk.i64_in _ (by omega)
      have hnm2 := fun W => spec_l01Name nm W hnmx
      rw [hN] at hnm2
      have hF := hA
      obtain ⟨c0, c1, c2, c3⟩ := hA
      dsimp only at c0 c1 c2 c3
      by_cases z1 : 1 ≤ sz ∧ sz ≤ 12
      · have z2 := z1.1
        have z3 := z1.2
        have hmv := manyF_bd 3 sz (by omega) (by omega)
        have hwid := fun W (hW : FldAt W b o ⟨nm, 3, st, sz⟩) => spec_l01Width b o ⟨nm, 3, st, sz⟩ (by first | omega | (dsimp only; omega)) (by first | omega | (dsimp only; omega)) W hW
        dsimp only at hwid
        generalize hmm : manyF 3 sz = mv at hmv hwid
        have hmm2 := hd hmm
        clear hmm
        have wr2 : IntKind.i64.wrap (96 - mv) = 96 - mv := IntWalk.i64_in _ (by omega)
        have hi1 := fun W => spec_l00In sz 1 12 W
        rw [show inB sz 1 12 = true by simp [inB, z1.1, z1.2]] at hi1
        have hi2 := fun W => spec_l00In st 0 (96 - mv) W
        have hv := hd (show fldB ⟨nm, 3, st, sz⟩ = inB st 0 (96 - mv) by
          unfold fldB inB
          rw [hN, Bool.true_and, ← Bool.decide_and, decide_eq_decide]
          dsimp only
          rw [hmm2.out, show mostSz 3 = 12 from rfl]
          omega)
        generalize inB st 0 (96 - mv) = q at hi2 hv
        go_enter Tryz.func21, Tryz.ntmps21
        go_wp2
        refine wp_region_ext (by kernel_rfl) (by kernel_rfl) ?_
        repeat (first | go_big_quiet_step ((first | (go_at_call 35; with_reducible exact Calls.ext_all (fun W _ => hnm2 W)) | (go_at_call 36; with_reducible exact Calls.ext_all (fun W _ => hi1 W)) | (go_at_call 36; with_reducible exact Calls.ext_all (fun W _ => hi2 W)) | (go_at_call 37; with_reducible exact Calls.ext_all (fun W hW => hwid W (hF.ext hW))))) | quiet_step ((first | (go_at_call 35; with_reducible exact Calls.ext_all (fun W _ => hnm2 W)) | (go_at_call 36; with_reducible exact Calls.ext_all (fun W _ => hi1 W)) | (go_at_call 36; with_reducible exact Calls.ext_all (fun W _ => hi2 W)) | (go_at_call 37; with_reducible exact Calls.ext_all (fun W hW => hwid W (hF.ext hW))))))
        refine wpQuiet_nil ?_
        intro w4 hq4
        have hb4 := ext_of_class hq4
        clear hq4
        obtain ⟨hc4, hf4, hz4⟩ := bcell3 hb4
        try simp at hz4
        go_wp2
        go_ret
        exact ⟨by rw [hv.out]; rfl, by ((repeat (first | with_reducible exact Ext.refl _ | with_reducible exact hw | with_reducible exact hb9 | with_reducible exact hb8 | with_reducible exact hb7 | with_reducible exact hb6 | with_reducible exact hb5 | with_reducible exact hb4 | with_reducible exact hb3 | with_reducible exact hb2 | with_reducible exact hb1 | with_reducible refine Ext.alloc ?_ _ | with_reducible refine Ext.drew ?_ | ((with_reducible refine Ext.set ?_ ?_ _); focus (dsimp only; omega)) | with_reducible refine Ext.trans ?_ hb9 | with_reducible refine Ext.trans ?_ hb8 | with_reducible refine Ext.trans ?_ hb7 | with_reducible refine Ext.trans ?_ hb6 | with_reducible refine Ext.trans ?_ hb5 | with_reducible refine Ext.trans ?_ hb4 | with_reducible refine Ext.trans ?_ hb3 | with_reducible refine Ext.trans ?_ hb2 | with_reducible refine Ext.trans ?_ hb1 | with_reducible refine Ext.trans ?_ hw)))⟩
      · have hi1 := fun W => spec_l00In sz 1 12 W
        rw [show inB sz 1 12 = false by simp only [inB, Bool.and_eq_false_iff, decide_eq_false_iff_not]; omega] at hi1
        have hv := hd (fldB_false (f := ⟨nm, 3, st, sz⟩) (fun h => z1 ⟨h.2.2.2.2.1, h.2.2.2.2.2.1⟩))
        go_enter Tryz.func21, Tryz.ntmps21
        go_wp2
        refine wp_region_ext (by kernel_rfl) (by kernel_rfl) ?_
        repeat (first | go_big_quiet_step ((first | (go_at_call 35; with_reducible exact Calls.ext_all (fun W _ => hnm2 W)) | (go_at_call 36; with_reducible exact Calls.ext_all (fun W _ => hi1 W)))) | quiet_step ((first | (go_at_call 35; with_reducible exact Calls.ext_all (fun W _ => hnm2 W)) | (go_at_call 36; with_reducible exact Calls.ext_all (fun W _ => hi1 W)))))
        refine wpQuiet_nil ?_
        intro w4 hq4
        have hb4 := ext_of_class hq4
        clear hq4
        obtain ⟨hc4, hf4, hz4⟩ := bcell3 hb4
        try simp at hz4
        go_wp2
        go_ret
        exact ⟨by rw [hv.out]; rfl, by ((repeat (first | with_reducible exact Ext.refl _ | with_reducible exact hw | with_reducible exact hb9 | with_reducible exact hb8 | with_reducible exact hb7 | with_reducible exact hb6 | with_reducible exact hb5 | with_reducible exact hb4 | with_reducible exact hb3 | with_reducible exact hb2 | with_reducible exact hb1 | with_reducible refine Ext.alloc ?_ _ | with_reducible refine Ext.drew ?_ | ((with_reducible refine Ext.set ?_ ?_ _); focus (dsimp only; omega)) | with_reducible refine Ext.trans ?_ hb9 | with_reducible refine Ext.trans ?_ hb8 | with_reducible refine Ext.trans ?_ hb7 | with_reducible refine Ext.trans ?_ hb6 | with_reducible refine Ext.trans ?_ hb5 | with_reducible refine Ext.trans ?_ hb4 | with_reducible refine Ext.trans ?_ hb3 | with_reducible refine Ext.trans ?_ hb2 | with_reducible refine Ext.trans ?_ hb1 | with_reducible refine Ext.trans ?_ hw)))⟩
    · have hv := hd (fldB_false (f := ⟨nm, kd, st, sz⟩) (fun h => by have h1 := h.2.1; have h2 := h.2.2.1; dsimp only at h1 h2; omega))
      have hnm2 := fun W => spec_l01Name nm W hnmx
      rw [hN] at hnm2
      have hi1 := fun W => spec_l00In sz 1 0 W
      rw [show inB sz 1 0 = false by simp only [inB, Bool.and_eq_false_iff, decide_eq_false_iff_not]; omega] at hi1
      have wr3 : IntKind.i64.wrap sz = sz := IntWalk.i64_in _ (by omega)
      obtain ⟨c0, c1, c2, c3⟩ := hA
      dsimp only at c0 c1 c2 c3
      go_enter Tryz.func21, Tryz.ntmps21
      go_wp2
      refine wp_region_ext (by kernel_rfl) (by kernel_rfl) ?_
      repeat (first | go_big_quiet_step ((first | (go_at_call 35; with_reducible exact Calls.ext_all (fun W _ => hnm2 W)) | (go_at_call 36; with_reducible exact Calls.ext_all (fun W _ => hi1 W)))) | quiet_step ((first | (go_at_call 35; with_reducible exact Calls.ext_all (fun W _ => hnm2 W)) | (go_at_call 36; with_reducible exact Calls.ext_all (fun W _ => hi1 W)))))
      refine wpQuiet_nil ?_
      intro w4 hq4
      have hb4 := ext_of_class hq4
      clear hq4
      obtain ⟨hc4, hf4, hz4⟩ := bcell3 hb4
      try simp at hz4
      go_wp2
      go_ret
      exact ⟨by rw [hv.out]; rfl, by ((repeat (first | with_reducible exact Ext.refl _ | with_reducible exact hw | with_reducible exact hb9 | with_reducible exact hb8 | with_reducible exact hb7 | with_reducible exact hb6 | with_reducible exact hb5 | with_reducible exact hb4 | with_reducible exact hb3 | with_reducible exact hb2 | with_reducible exact hb1 | with_reducible refine Ext.alloc ?_ _ | with_reducible refine Ext.drew ?_ | ((with_reducible refine Ext.set ?_ ?_ _); focus (dsimp only; omega)) | with_reducible refine Ext.trans ?_ hb9 | with_reducible refine Ext.trans ?_ hb8 | with_reducible refine Ext.trans ?_ hb7 | with_reducible refine Ext.trans ?_ hb6 | with_reducible refine Ext.trans ?_ hb5 | with_reducible refine Ext.trans ?_ hb4 | with_reducible refine Ext.trans ?_ hb3 | with_reducible refine Ext.trans ?_ hb2 | with_reducible refine Ext.trans ?_ hb1 | with_reducible refine Ext.trans ?_ hw)))⟩
end Go.Proofs.YtdiblmlcapommaaGreatDoor
