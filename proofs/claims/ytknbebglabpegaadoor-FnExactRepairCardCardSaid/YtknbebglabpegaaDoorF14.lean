/-
  Codes of fields lie in the card's holes; contract of the reference's NearestValue; the walk of the law FnExactNearestValue.
-/
import Derived.Test.YtknbebglabpegaaDoorF13
set_option linter.unusedVariables false
set_option linter.unusedSimpArgs false
set_option maxRecDepth 100000
namespace Go.Proofs.YtknbebglabpegaaDoor
open Go.RowKit
theorem isMask_zero : isMaskB 0 = true := by decide
theorem isMask_join {a b : Mask} (ha : isMaskB a = true) (hb : isMaskB b = true) : isMaskB (mjoin a b) = true := by
  unfold isMaskB mjoin at *
  rw [decide_eq_true_eq] at *
  rw [BitVec.toNat_or]
  exact Nat.or_lt_two_pow (n := 96) ha hb
theorem isMask_meet {a b : Mask} (ha : isMaskB a = true) : isMaskB (mmeet a b) = true := by
  unfold isMaskB mmeet at *
  rw [decide_eq_true_eq] at *
  rw [BitVec.toNat_and]
  exact Nat.lt_of_le_of_lt Nat.and_le_left ha
theorem isMask_bit {h : Int} (h0 : 0 ≤ h) (h1 : h < 96) : isMaskB (mbit h) = true := by
  unfold isMaskB
  rw [decide_eq_true_eq, mbit_toNat h h0 (by omega)]
  have h2 : h.toNat < 96 := by omega
  exact (Nat.pow_lt_pow_iff_right (a := 2) (by decide)).2 h2
theorem isMask_notch {m : Mask} {st holes b : Int} (hm : isMaskB m = true) (h0 : 0 ≤ st) : ∀ k : Nat, st + k ≤ 96 → isMaskB (notchTo m st holes b k) = true
  | 0, _ => hm
  | k + 1, hk => by
    have ih := isMask_notch (holes := holes) (b := b) hm h0 k (by omega)
    rw [notchTo]
    split
    · exact isMask_join ih (isMask_bit (by omega) (by omega))
    · exact ih
theorem isMask_or {g : Nat → Mask} : ∀ k : Nat, (∀ i, i < k → isMaskB (g i) = true) → isMaskB (orTo g k) = true
  | 0, _ => isMask_zero
  | k + 1, h => isMask_join (isMask_or k (fun i hi => h i (by omega))) (h k (by omega))
theorem isMask_with : ∀ (hs : List Int) {m : Mask}, isMaskB m = true → (∀ h ∈ hs, 0 ≤ h ∧ h < 96) → isMaskB (mwith m hs) = true
  | [], _, hm, _ => hm
  | h :: hs, m, hm, hh => isMask_with hs (isMask_join hm (isMask_bit (hh h (by simp)).1 (hh h (by simp)).2)) (fun x hx => hh x (by simp [hx]))
theorem isMask_code {f : Fld} (hf : fldB f = true) {v : Int} (v0 : 0 ≤ v) (v1 : v ≤ mostF f) : isMaskB (codeF f v) = true := by
  obtain ⟨_, k0, k3, s0, z0, z1, z2⟩ := fldB_parts hf
  obtain ⟨nm, kd, st, sz⟩ := f
  dsimp only at *
  rcases (show kd = 0 ∨ kd = 3 ∨ kd = 1 ∨ kd = 2 by omega) with rfl | rfl | rfl | rfl
  · rw [manyF0 sz (by decide) (by decide) (by decide)] at z2
    have v2 : v ≤ sz - 1 := v1
    exact isMask_bit (by show 0 ≤ st + v; omega) (by show st + v < 96; omega)
  · rw [manyF3] at z2
    show isMaskB (binF st sz v) = true
    unfold binF
    have hn := isMask_notch (m := 0) (holes := sz) (b := v) isMask_zero s0 sz.toNat (by omega)
    split
    · exact isMask_join hn (isMask_bit (by omega) (by omega))
    · exact hn
  · rw [manyF1] at z2
    show isMaskB (orTo (digG 1 st sz v) sz.toNat) = true
    refine isMask_or _ (fun i hi => ?_)
    unfold digG digP
    refine isMask_with _ isMask_zero (fun h hh => ?_)
    rw [List.mem_map] at hh
    obtain ⟨x, hx, rfl⟩ := hh
    have := digL_small 1 _ x hx
    rw [show digW 1 = 4 from rfl] at *
    omega
  · rw [manyF2] at z2
    show isMaskB (orTo (digG 2 st sz v) sz.toNat) = true
    refine isMask_or _ (fun i hi => ?_)
    unfold digG digP
    refine isMask_with _ isMask_zero (fun h hh => ?_)
    rw [List.mem_map] at hh
    obtain ⟨x, hx, rfl⟩ := hh
    have := digL_small 2 _ x hx
    rw [show digW 2 = 5 from rfl] at *
    omega
theorem dOf_96 {f : Fld} (hf : fldB f = true) {m p : Mask} (hm : isMaskB m = true) {k : Nat} (hk : (k : Int) ≤ mostF f) : dOf f (mmeet m p) k ≤ 96 :=
  distM_96 (isMask_code hf (by omega) hk) (isMask_meet hm)
/-- The state behind the first k values, in the reference's way. -/
def NvS (d : Nat → Int) (k : Nat) (be le : Int) (several : Bool) : Prop := (k = 0 ∧ be = 0 ∧ le = 97 ∧ several = false) ∨ (∃ j n, k = j + 1 ∧ nvF d j = (be, le, n) ∧ several = decide (1 < n))
set_option maxHeartbeats 1000000 in
theorem spec_NearestValue (nm : ByteArray) (kd st sz : Int) (hok : Fld.ok ⟨nm, kd, st, sz⟩) (hnmx : nm.size ≤ 9223372036854775807) (m : Mask) (w : World) :
    Calls Tryd.prog 12 #[.agg #[.string nm, .int .i8 kd, .int .i16 st, .int .i16 sz], .agg #[.int .u64 (lo m), .int .u64 (hi m)]] w fun e w' => e = .returned (.tuple #[.int .i64 (nearestF ⟨nm, kd, st, sz⟩ m).1, .int .i64 (nearestF ⟨nm, kd, st, sz⟩ m).2.1, .int .i64 (nearestF ⟨nm, kd, st, sz⟩ m).2.2]) ∧ Ext w w' := by
  have hx := @ExtOf.cell
  obtain ⟨⟨a0, a1⟩, ⟨a2, a3⟩, a4, a5⟩ := hok
  dsimp only at a0 a1 a2 a3 a4 a5
  have hA : FldAt ((w.alloc (.cells #[.string nm, .int .i8 kd, .int .i16 st, .int .i16 sz] 31)).alloc (.cells #[.int .u64 (lo m), .int .u64 (hi m)] 33)) w.heap.size 0 ⟨nm, kd, st, sz⟩ := ⟨by go_simp, by go_simp, by go_simp, by go_simp⟩
  have hif := spec_l01Field nm kd st sz w.heap.size 0 a0 a1 a2 a3 a4 a5 hnmx _ hA (by simp <;> omega)
  cases hf : fldB ⟨nm, kd, st, sz⟩ with
  | false =>
    have hv := hd (show nearestF ⟨nm, kd, st, sz⟩ m = (0, 0, 1) by unfold nearestF; rw [hf]; rfl)
    rw [hf] at hif
    clear hA
    go_enter Tryd.func12, Tryd.ntmps12
    go_wp2_with fail
    refine Calls.mono (hif) ?_
    rintro e w1 ⟨rfl, hb1⟩
    go_wp2
    refine bodyPost_ret (v := .tuple #[.int .i64 0, .int .i64 0, .int .i64 1]) (by simp [results, Tryd.results12, go_sem]) rfl ⟨by rw [hv.out], ?_⟩
    (repeat (first | with_reducible exact Ext.refl _ | with_reducible exact hw | with_reducible exact hb9 | with_reducible exact hb8 | with_reducible exact hb7 | with_reducible exact hb6 | with_reducible exact hb5 | with_reducible exact hb4 | with_reducible exact hb3 | with_reducible exact hb2 | with_reducible exact hb1 | with_reducible refine Ext.alloc ?_ _ | with_reducible refine Ext.drew ?_ | ((with_reducible refine Ext.set ?_ ?_ _); focus (dsimp only; omega)) | with_reducible refine Ext.trans ?_ hb9 | with_reducible refine Ext.trans ?_ hb8 | with_reducible refine Ext.trans ?_ hb7 | with_reducible refine Ext.trans ?_ hb6 | with_reducible refine Ext.trans ?_ hb5 | with_reducible refine Ext.trans ?_ hb4 | with_reducible refine Ext.trans ?_ hb3 | with_reducible refine Ext.trans ?_ hb2 | with_reducible refine Ext.trans ?_ hb1 | with_reducible refine Ext.trans ?_ hw))
  | true =>
    rw [hf] at hif
    cases hm : isMaskB m with
    | false =>
      have hv := hd (show nearestF ⟨nm, kd, st, sz⟩ m = (0, 0, 1) by unfold nearestF; rw [hf, hm]; rfl)
      have him := fun W => spec_l01Mask m W
      rw [hm] at him
      clear hA
      go_enter Tryd.func12, Tryd.ntmps12
      go_wp2_with fail
      refine Calls.mono (hif) ?_
      rintro e w1 ⟨rfl, hb1⟩
      obtain ⟨hc1, hf1, hz1⟩ := bcell3 hb1
      try simp at hz1
      have hz1_0 : w.heap.size < w1.heap.size := by omega
      have hz1_1 : w.heap.size + 1 < w1.heap.size := by omega
      go_wp2_with fail
      refine Calls.mono (him _) ?_
      rintro e w2 ⟨rfl, hb2⟩
      go_wp2
      refine bodyPost_ret (v := .tuple #[.int .i64 0, .int .i64 0, .int .i64 1]) (by simp [results, Tryd.results12, go_sem]) rfl ⟨by rw [hv.out], ?_⟩
      (repeat (first | with_reducible exact Ext.refl _ | with_reducible exact hw | with_reducible exact hb9 | with_reducible exact hb8 | with_reducible exact hb7 | with_reducible exact hb6 | with_reducible exact hb5 | with_reducible exact hb4 | with_reducible exact hb3 | with_reducible exact hb2 | with_reducible exact hb1 | with_reducible refine Ext.alloc ?_ _ | with_reducible refine Ext.drew ?_ | ((with_reducible refine Ext.set ?_ ?_ _); focus (dsimp only; omega)) | with_reducible refine Ext.trans ?_ hb9 | with_reducible refine Ext.trans ?_ hb8 | with_reducible refine Ext.trans ?_ hb7 | with_reducible refine Ext.trans ?_ hb6 | with_reducible refine Ext.trans ?_ hb5 | with_reducible refine Ext.trans ?_ hb4 | with_reducible refine Ext.trans ?_ hb3 | with_reducible refine Ext.trans ?_ hb2 | with_reducible refine Ext.trans ?_ hb1 | with_reducible refine Ext.trans ?_ hw))
    | true =>
      have him := fun W => spec_l01Mask m W
      rw [hm] at him
      have hmo := fun (W : World) (h : FldAt W w.heap.size 0 ⟨nm, kd, st, sz⟩) => spec_l01Most ⟨nm, kd, st, sz⟩ hf w.heap.size 0 W h
      have hml := mostF_le _ hf
      have hdif := fun (v : Int) (h0 : 0 ≤ v) (h1 : v ≤ mostF ⟨nm, kd, st, sz⟩) (p : Mask) (W : World) (h : FldAt W w.heap.size 0 ⟨nm, kd, st, sz⟩) => spec_l04Differ ⟨nm, kd, st, sz⟩ hf v h0 h1 p w.heap.size 0 W h
      have hpa := fun (W : World) (h : FldAt W w.heap.size 0 ⟨nm, kd, st, sz⟩) => spec_l01Part ⟨nm, kd, st, sz⟩ hf w.heap.size 0 W h
      have h96 := fun p k h => dOf_96 hf hm (p := p) (k := k) h
      have hv := hd (show nearestF ⟨nm, kd, st, sz⟩ m = if 1 < (nvF (dOf ⟨nm, kd, st, sz⟩ (mmeet m (partF ⟨nm, kd, st, sz⟩))) (mostF ⟨nm, kd, st, sz⟩).toNat).2.2 then (0, 0, 4) else ((nvF (dOf ⟨nm, kd, st, sz⟩ (mmeet m (partF ⟨nm, kd, st, sz⟩))) (mostF ⟨nm, kd, st, sz⟩).toNat).1, (nvF (dOf ⟨nm, kd, st, sz⟩ (mmeet m (partF ⟨nm, kd, st, sz⟩))) (mostF ⟨nm, kd, st, sz⟩).toNat).2.1, 0) by
        unfold nearestF; rw [hf, hm]; rfl)
      generalize partF ⟨nm, kd, st, sz⟩ = p at hpa hv
      generalize mostF ⟨nm, kd, st, sz⟩ = mo at hmo hml hdif hv h96
      go_enter Tryd.func12, Tryd.ntmps12
      go_wp2_with fail
      refine Calls.mono (hif) ?_
      rintro e w1 ⟨rfl, hb1⟩
      obtain ⟨hc1, hf1, hz1⟩ := bcell3 hb1
      try simp at hz1
      have hz1_0 : w.heap.size < w1.heap.size := by omega
      have hz1_1 : w.heap.size + 1 < w1.heap.size := by omega
      have hA := hA.ext hb1
      go_wp2_with fail
      refine Calls.mono (him _) ?_
      rintro e w3 ⟨rfl, hb3⟩
      have hA := hA.ext hb3
      have n0 : w3.cell? ⟨w.heap.size + 1, 0, none⟩ = some (.int .u64 (lo m)) := hb3.cell (by go_simp)
      have n1 : w3.cell? ⟨w.heap.size + 1, 1, none⟩ = some (.int .u64 (hi m)) := hb3.cell (by go_simp)
      have l3 : w.heap.size + 1 < w3.heap.size := by have := hb3.size; omega
      have l3b : w.heap.size < w3.heap.size := by omega
      have hw3 : Ext w w3 := by ((repeat (first | with_reducible exact Ext.refl _ | with_reducible exact hw | with_reducible exact hb9 | with_reducible exact hb8 | with_reducible exact hb7 | with_reducible exact hb6 | with_reducible exact hb5 | with_reducible exact hb4 | with_reducible exact hb3 | with_reducible exact hb2 | with_reducible exact hb1 | with_reducible refine Ext.alloc ?_ _ | with_reducible refine Ext.drew ?_ | ((with_reducible refine Ext.set ?_ ?_ _); focus (dsimp only; omega)) | with_reducible refine Ext.trans ?_ hb9 | with_reducible refine Ext.trans ?_ hb8 | with_reducible refine Ext.trans ?_ hb7 | with_reducible refine Ext.trans ?_ hb6 | with_reducible refine Ext.trans ?_ hb5 | with_reducible refine Ext.trans ?_ hb4 | with_reducible refine Ext.trans ?_ hb3 | with_reducible refine Ext.trans ?_ hb2 | with_reducible refine Ext.trans ?_ hb1 | with_reducible refine Ext.trans ?_ hw)))
      clear hc1 hf1 hb1 hb3 hz1 hz1_0 hz1_1
      go_wp2_with fail
      refine wp_region_float 3 3 7 _ #[.int .u64 0, .int .u64 0] 33 (by kernel_rfl) (by kernel_rfl) rfl rfl rfl rfl (fun _ _ => by go_simp) (by intro d _ _ _ _ h; cases d <;> exact h) ?_
      simp only [List.take_succ_cons, List.take_zero, List.drop_succ_cons, List.drop_zero]
      repeat (refine wpX_step (fun K hK => ?_); go_simp; first | (refine hK _ ?_; clear hK K) | (apply Exists.intro; refine ⟨fun x => ?_, hK _ ?_⟩; ((first | (go_at_call 56; with_reducible exact hpa _ (hA.ext (ExtOf.prop _))) | (go_at_call 55; with_reducible exact spec_l01Meet m p _))); clear hK K))
      refine wpX_nil ?_
      intro b2 w2 hb2 hbb2 hcb2
      obtain ⟨hc2, hf2, hz2⟩ := bcell3 hb2
      try simp at hz2
      try simp at hbb2
      have hbl2 := blk_lt hcb2
      have hbf2 := blk_free hcb2
      have hbc2_0 : w2.cell? ⟨b2, 0, none⟩ = some (.int .u64 0) := blk_cell hcb2 0 rfl
      have hbc2_1 : w2.cell? ⟨b2, 1, none⟩ = some (.int .u64 0) := blk_cell hcb2 1 rfl
      clear hcb2
      have h96 := h96 p
      have hws : Ext w3 w2 := hb2
      generalize mmeet m p = x at hv h96
      have hFs : FldAt ((w2.setCell ⟨b2, 0, none⟩ (.int .u64 (lo x))).setCell ⟨b2, 1, none⟩ (.int .u64 (hi x))) w.heap.size 0 ⟨nm, kd, st, sz⟩ := hA.ext (Ext.set (by dsimp only; omega) (Ext.set (by dsimp only; omega) hws _) _)
      have hw4 : Ext w ((w2.setCell ⟨b2, 0, none⟩ (.int .u64 (lo x))).setCell ⟨b2, 1, none⟩ (.int .u64 (hi x))) := Ext.set (by dsimp only; have := hw3.size; omega) (Ext.set (by dsimp only; have := hw3.size; omega) (hw3.trans hws) _) _
      have o0 : ((w2.setCell ⟨b2, 0, none⟩ (.int .u64 (lo x))).setCell ⟨b2, 1, none⟩ (.int .u64 (hi x))).cell? ⟨b2, 0, none⟩ = some (.int .u64 (lo x)) := by go_simp
      have o1 : ((w2.setCell ⟨b2, 0, none⟩ (.int .u64 (lo x))).setCell ⟨b2, 1, none⟩ (.int .u64 (hi x))).cell? ⟨b2, 1, none⟩ = some (.int .u64 (hi x)) := by go_simp
      go_wp2
      clear hc2 hf2 hb2 hbf2 hbc2_0 hbc2_1 hz2 n0 n1 hw3 hpa him hif hA hws
      generalize (w2.setCell ⟨b2, 0, none⟩ (.int .u64 (lo x))).setCell ⟨b2, 1, none⟩ (.int .u64 (hi x)) = W4 at hFs hw4 o0 o1
      go_loopg [8, 9, 10, 11] (mo + 1).toNat (fun g be le se i wr => ∃ (k : Nat) (b l : Int) (s : Bool), g = (mo + 1).toNat - k ∧ k ≤ (mo + 1).toNat ∧ i = .int .i64 k ∧ be = .int .i64 b ∧ le = .int .i64 l ∧ se = .bool s ∧ Hd (NvS (dOf ⟨nm, kd, st, sz⟩ x) k b l s) ∧ Ext W4 wr)
      case atStart => exact ⟨0, 0, 97, false, by omega, by omega, rfl, rfl, rfl, rfl, hd (.inl ⟨rfl, rfl, rfl, rfl⟩), Ext.refl _⟩
      case round =>
        obtain ⟨k, b, l, s, hg, hk, rfl, rfl, rfl, rfl, hn, hw⟩ := hrel
        go_wp2_with fail
        refine Calls.mono (hmo _ (hFs.ext hw)) ?_
        rintro e w3 ⟨rfl, hb3⟩
        have hw := hw.trans hb3
        clear hb3
        have o0 := hw.cell o0
        have o1 := hw.cell o1
        have hF3 := hFs.ext hw
        by_cases hkl : k < (mo + 1).toNat
        · have hks : (k : Int) ≤ mo := by omega
          have hd96 := h96 k hks
          have hdi : ∀ W, FldAt W w.heap.size 0 ⟨nm, kd, st, sz⟩ → Calls Tryd.prog 58 #[.pointer (some ⟨w.heap.size, 0, none⟩), .int .i64 k, .agg #[.int .u64 (lo x), .int .u64 (hi x)]] W fun e w' => e = .returned (.int .i64 (dOf ⟨nm, kd, st, sz⟩ x k)) ∧ Ext W w' := fun W h => hdif k (by omega) hks x W h
          have hn0 := hn.out
          rcases hn0 with ⟨q0, q1, q2, q3⟩ | ⟨j, n, q0, q1, q2⟩
          · subst q0 q1 q2 q3
            have hnx := hd (show NvS (dOf ⟨nm, kd, st, sz⟩ x) 1 0 (dOf ⟨nm, kd, st, sz⟩ x 0) false from .inr ⟨0, 1, rfl, rfl, rfl⟩)
            generalize dOf ⟨nm, kd, st, sz⟩ x 0 = dd at hdi hnx hd96
            clear hn
            go_wp2_with fail
            refine Calls.mono (hdi _ hF3) ?_
            rintro e w5 ⟨rfl, hb5⟩
            go_wp2
            go_roundg ((mo + 1).toNat - 1)
            case rel => exact ⟨1, _, _, _, rfl, by omega, by simp, rfl, rfl, rfl, hnx, hw.trans hb5⟩
            case measure => omega
          · subst q0 q2
            simp only [Int.natCast_add, Int.cast_ofNat_Int, Int.natCast_one] at hdi
            have hnb := nvF_many (dOf ⟨nm, kd, st, sz⟩ x) j
            rw [q1] at hnb
            dsimp only at hnb
            have hlt := fun h => hd (nvF_less (d := dOf ⟨nm, kd, st, sz⟩ x) (k := j) h)
            have heq := fun h => hd (nvF_same (d := dOf ⟨nm, kd, st, sz⟩ x) (k := j) h)
            have hmore := fun h1 h2 => hd (nvF_more (d := dOf ⟨nm, kd, st, sz⟩ x) (k := j) h1 h2)
            rw [q1] at hlt heq hmore
            dsimp only at hlt heq hmore
            have hnx : ∀ b' l' n', nvF (dOf ⟨nm, kd, st, sz⟩ x) (j + 1) = (b', l', n') → Hd (NvS (dOf ⟨nm, kd, st, sz⟩ x) (j + 1 + 1) b' l' (decide (1 < n'))) := fun b' l' n' h => hd (.inr ⟨j + 1, n', rfl, h, rfl⟩)
            generalize dOf ⟨nm, kd, st, sz⟩ x (j + 1) = dd at hdi hlt heq hmore hd96
            clear hn q1
            generalize hsv : decide (1 < n) = sv
            by_cases c1 : dd < l
            · have hnx2 := hnx _ _ _ (hlt c1).out
              clear hlt heq hmore hnx
              go_wp2_with fail
              refine Calls.mono (hdi _ hF3) ?_
              rintro e w5 ⟨rfl, hb5⟩
              go_wp2
              go_roundg ((mo + 1).toNat - (j + 1 + 1))
              case rel => exact ⟨j + 1 + 1, (j : Int) + 1, dd, false, rfl, by omega, by simp, rfl, rfl, rfl, hnx2, hw.trans hb5⟩
              case measure => omega
            · by_cases c2 : dd = l
              · have hnx2 := hnx _ _ _ (heq c2).out
                rw [show decide (1 < n + 1) = true by rw [decide_eq_true_eq]; omega] at hnx2
                clear hlt heq hmore hnx
                subst c2
                go_wp2_with fail
                refine Calls.mono (hdi _ hF3) ?_
                rintro e w5 ⟨rfl, hb5⟩
                go_wp2
                go_roundg ((mo + 1).toNat - (j + 1 + 1))
                case rel => exact ⟨j + 1 + 1, _, _, true, rfl, by omega, by simp, rfl, rfl, rfl, hnx2, hw.trans hb5⟩
                case measure => omega
              · have hnx2 := hnx _ _ _ (hmore c1 c2).out
                rw [hsv] at hnx2
                clear hlt heq hmore hnx
                have c2b : (dd == l) = false := by simp [c2]
                go_wp2_with fail
                refine Calls.mono (hdi _ hF3) ?_
                rintro e w5 ⟨rfl, hb5⟩
                go_wp2
                go_roundg ((mo + 1).toNat - (j + 1 + 1))
                case rel => exact ⟨j + 1 + 1, _, _, sv, rfl, by omega, by simp, rfl, rfl, rfl, hnx2, hw.trans hb5⟩
                case measure => omega
        · obtain rfl : k = (mo + 1).toNat := by omega
          have hks : (((mo + 1).toNat : Nat) : Int) = mo + 1 := by omega
          have hj : ∃ n, nvF (dOf ⟨nm, kd, st, sz⟩ x) mo.toNat = (b, l, n) ∧ s = decide (1 < n) := by
            rcases hn.out with ⟨q0, _⟩ | ⟨j, n, q0, q1, q2⟩
            · omega
            · rw [show mo.toNat = j by omega]; exact ⟨n, q1, q2⟩
          obtain ⟨n, hj, rfl⟩ := hj
          rw [hj] at hv
          clear hj hn
          by_cases hm1 : 1 < n
          · have hv2 := hd (hv.out.trans (if_pos hm1))
            clear hv
            go_wp2
            refine bodyPost_ret (v := .tuple #[.int .i64 0, .int .i64 0, .int .i64 4]) (by simp [results, Tryd.results12, go_sem]) rfl ⟨by rw [hv2.out], hw4.trans hw⟩
          · have hv2 := hd (hv.out.trans (if_neg hm1))
            clear hv
            go_wp2
            refine bodyPost_ret (v := .tuple #[.int .i64 b, .int .i64 l, .int .i64 0]) (by simp [results, Tryd.results12, go_sem]) rfl ⟨by rw [hv2.out], hw4.trans hw⟩
set_option maxHeartbeats 400000 in
theorem laws_FnExactNearestValue (nm : ByteArray) (kd st sz : Int) (hok : Fld.ok ⟨nm, kd, st, sz⟩) (hnmx : nm.size ≤ 9223372036854775807) (m : Mask) (w : World) :
    Calls Tryd.prog 3 #[.agg #[.string nm, .int .i8 kd, .int .i16 st, .int .i16 sz], .agg #[.int .u64 (lo m), .int .u64 (hi m)]] w fun e w' => e = .returned (.bool true) ∧ Ext w w' := by
  have hx := @ExtOf.cell
  go_enter Tryd.func3, Tryd.ntmps3
  go_wp2_with fail
  refine Calls.mono (laws_szField ⟨nm, kd, st, sz⟩ 1048576 (by omega) (by omega) hnmx _) ?_
  rintro e w1 ⟨rfl, hb1⟩
  obtain ⟨hc1, hf1, hz1⟩ := bcell3 hb1
  try simp at hz1
  have hz1_0 : w.heap.size < w1.heap.size := by omega
  have hz1_1 : w.heap.size + 1 < w1.heap.size := by omega
  dsimp only
  have hsp := fun W => spec_NearestValue nm kd st sz hok hnmx m W
  have him := fun W => impl_NearestValue nm kd st sz hok hnmx m W
  generalize nearestF ⟨nm, kd, st, sz⟩ m = q at hsp him
  obtain ⟨q1, q2, q3⟩ := q
  by_cases hr : szF nm.size 1048576 < 0
  · generalize szF nm.size 1048576 = r at hr
    go_wp2
    go_ret
    exact ⟨rfl, by ((repeat (first | with_reducible exact Ext.refl _ | with_reducible exact hw | with_reducible exact hb9 | with_reducible exact hb8 | with_reducible exact hb7 | with_reducible exact hb6 | with_reducible exact hb5 | with_reducible exact hb4 | with_reducible exact hb3 | with_reducible exact hb2 | with_reducible exact hb1 | with_reducible refine Ext.alloc ?_ _ | with_reducible refine Ext.drew ?_ | ((with_reducible refine Ext.set ?_ ?_ _); focus (dsimp only; omega)) | with_reducible refine Ext.trans ?_ hb9 | with_reducible refine Ext.trans ?_ hb8 | with_reducible refine Ext.trans ?_ hb7 | with_reducible refine Ext.trans ?_ hb6 | with_reducible refine Ext.trans ?_ hb5 | with_reducible refine Ext.trans ?_ hb4 | with_reducible refine Ext.trans ?_ hb3 | with_reducible refine Ext.trans ?_ hb2 | with_reducible refine Ext.trans ?_ hb1 | with_reducible refine Ext.trans ?_ hw)))⟩
  · generalize szF nm.size 1048576 = r at hr
    go_wp2_with fail
    refine wp_region_ext (by kernel_rfl) (by kernel_rfl) ?_
    repeat (first | go_big_quiet_step ((first | (go_at_call 13; with_reducible exact Calls.ext_all (fun W _ => laws_toField ⟨nm, kd, st, sz⟩ W)) | (go_at_call 14; with_reducible exact Calls.ext_of (laws_toMask m _)) | (go_at_call 12; with_reducible exact Calls.ext_all (fun W _ => hsp W)))) | quiet_step ((first | (go_at_call 13; with_reducible exact Calls.ext_all (fun W _ => laws_toField ⟨nm, kd, st, sz⟩ W)) | (go_at_call 14; with_reducible exact Calls.ext_of (laws_toMask m _)) | (go_at_call 12; with_reducible exact Calls.ext_all (fun W _ => hsp W)))))
    refine wpQuiet_nil ?_
    intro w2 hq2
    have hb2 := ext_of_class hq2
    clear hq2
    obtain ⟨hc2, hf2, hz2⟩ := bcell3 hb2
    try simp at hz2
    have hz2_0 : w.heap.size < w2.heap.size := by omega
    have hz2_1 : w.heap.size + 1 < w2.heap.size := by omega
    go_wp2_with fail
    refine wp_region_ext (by kernel_rfl) (by kernel_rfl) ?_
    repeat (first | go_big_quiet_step ((first | (go_at_call 13; with_reducible exact Calls.ext_all (fun W _ => laws_toField ⟨nm, kd, st, sz⟩ W)) | (go_at_call 14; with_reducible exact Calls.ext_of (laws_toMask m _)) | (go_at_call 15; with_reducible exact Calls.ext_all (fun W _ => him W)))) | quiet_step ((first | (go_at_call 13; with_reducible exact Calls.ext_all (fun W _ => laws_toField ⟨nm, kd, st, sz⟩ W)) | (go_at_call 14; with_reducible exact Calls.ext_of (laws_toMask m _)) | (go_at_call 15; with_reducible exact Calls.ext_all (fun W _ => him W)))))
    refine wpQuiet_nil ?_
    intro w3 hq3
    have hb3 := ext_of_class hq3
    clear hq3
    obtain ⟨hc3, hf3, hz3⟩ := bcell3 hb3
    try simp at hz3
    have hz3_0 : w.heap.size < w3.heap.size := by omega
    have hz3_1 : w.heap.size + 1 < w3.heap.size := by omega
    go_wp2
    go_ret
    exact ⟨rfl, by ((repeat (first | with_reducible exact Ext.refl _ | with_reducible exact hw | with_reducible exact hb9 | with_reducible exact hb8 | with_reducible exact hb7 | with_reducible exact hb6 | with_reducible exact hb5 | with_reducible exact hb4 | with_reducible exact hb3 | with_reducible exact hb2 | with_reducible exact hb1 | with_reducible refine Ext.alloc ?_ _ | with_reducible refine Ext.drew ?_ | ((with_reducible refine Ext.set ?_ ?_ _); focus (dsimp only; omega)) | with_reducible refine Ext.trans ?_ hb9 | with_reducible refine Ext.trans ?_ hb8 | with_reducible refine Ext.trans ?_ hb7 | with_reducible refine Ext.trans ?_ hb6 | with_reducible refine Ext.trans ?_ hb5 | with_reducible refine Ext.trans ?_ hb4 | with_reducible refine Ext.trans ?_ hb3 | with_reducible refine Ext.trans ?_ hb2 | with_reducible refine Ext.trans ?_ hb1 | with_reducible refine Ext.trans ?_ hw)))⟩
end Go.Proofs.YtknbebglabpegaaDoor
