/-
  Contracts of the reference's functions that repair a field of a mask.
-/
import Derived.Test.YtknbebglabpegaaDoorF28
import Derived.Test.YtknbebglabpegaaDoorF15
import Derived.Test.YtknbebglabpegaaDoorF29
set_option linter.unusedVariables false
set_option linter.unusedSimpArgs false
set_option maxRecDepth 100000
namespace Go.Proofs.YtknbebglabpegaaDoor
open Go.RowKit
set_option maxHeartbeats 1000000 in
theorem spec_l04Put (f : Fld) (hf : fldB f = true) (m : Mask) (v : Int) (hvr : 0 ≤ v ∧ v ≤ mostF f) (b o : Nat) (w : World) (hF : FldAt w b o f) :
    Calls Tryd.prog 108 #[.pointer (some ⟨b, o, none⟩), .agg #[.int .u64 (lo m), .int .u64 (hi m)], .int .i64 v] w fun e w' => e = .returned (.agg #[.int .u64 (lo (putM f m v)), .int .u64 (hi (putM f m v))]) ∧ Ext w w' := by
  have hx := @ExtOf.cell
  have hpa := fun (W : World) (h : Ext w W) => spec_l01Part f hf b o W (hF.ext h)
  have hen := fun (W : World) (h : Ext w W) => spec_l01Code f hf v hvr.1 hvr.2 b o W (hF.ext h)
  have hpu := hd (show putM f m v = mjoin (mless m (partF f)) (codeF f v) from rfl)
  generalize partF f = p at hpa hpu
  generalize codeF f v = cm at hen hpu
  go_enter Tryd.func108, Tryd.ntmps108
  go_wp2
  refine wp_region_ext_tail 8 8 (by kernel_rfl) (by kernel_rfl) (by intro d _ _ _ _ h; cases d <;> exact h) ?_
  simp only [List.take_succ_cons, List.take_zero, List.drop_succ_cons, List.drop_zero]
  repeat (first | go_big_quiet_step ((first | (go_at_call 56; with_reducible exact Calls.ext_all (fun W h => hpa W (Ext.trans (((Ext.refl _).alloc _).alloc _) h))) | (go_at_call 70; with_reducible exact Calls.ext_all (fun W h => hen W (Ext.trans (((Ext.refl _).alloc _).alloc _) h))) | (go_at_call 97; with_reducible exact Calls.ext_of (spec_l01Less _ _ _)) | (go_at_call 87; with_reducible exact Calls.ext_of (spec_l01Join _ _ _)))) | quiet_step ((first | (go_at_call 56; with_reducible exact Calls.ext_all (fun W h => hpa W (Ext.trans (((Ext.refl _).alloc _).alloc _) h))) | (go_at_call 70; with_reducible exact Calls.ext_all (fun W h => hen W (Ext.trans (((Ext.refl _).alloc _).alloc _) h))) | (go_at_call 97; with_reducible exact Calls.ext_of (spec_l01Less _ _ _)) | (go_at_call 87; with_reducible exact Calls.ext_of (spec_l01Join _ _ _)))))
  refine wpQuiet_nil ?_
  intro w5 hq5
  have hb5 := ext_of_class hq5
  clear hq5
  obtain ⟨hc5, hf5, hz5⟩ := bcell3 hb5
  try simp at hz5
  have hz5_0 : w.heap.size < w5.heap.size := by omega
  have hz5_1 : w.heap.size + 1 < w5.heap.size := by omega
  have bR : BoxAt w5 (w.heap.size + 1) #[.int .u64 0, .int .u64 0] 33 := (BoxAt.new' (by simp)).ext hb5
  have hw5 : Ext w w5 := by ((repeat (first | with_reducible exact Ext.refl _ | with_reducible exact hw | with_reducible exact hb9 | with_reducible exact hb8 | with_reducible exact hb7 | with_reducible exact hb6 | with_reducible exact hb5 | with_reducible exact hb4 | with_reducible exact hb3 | with_reducible exact hb2 | with_reducible exact hb1 | with_reducible refine Ext.alloc ?_ _ | with_reducible refine Ext.drew ?_ | ((with_reducible refine Ext.set ?_ ?_ _); focus (dsimp only; omega)) | with_reducible refine Ext.trans ?_ hb9 | with_reducible refine Ext.trans ?_ hb8 | with_reducible refine Ext.trans ?_ hb7 | with_reducible refine Ext.trans ?_ hb6 | with_reducible refine Ext.trans ?_ hb5 | with_reducible refine Ext.trans ?_ hb4 | with_reducible refine Ext.trans ?_ hb3 | with_reducible refine Ext.trans ?_ hb2 | with_reducible refine Ext.trans ?_ hb1 | with_reducible refine Ext.trans ?_ hw)))
  have g0 := bR.frozen 0
  have g1 := bR.frozen 1
  have x0 : w5.cell? ⟨w.heap.size + 1, 0, none⟩ = some (.int .u64 0) := bR.cell 0
  have x1 : w5.cell? ⟨w.heap.size + 1, 1, none⟩ = some (.int .u64 0) := bR.cell 1
  have l5 := bR.lt
  clear hc5 hf5 hz5 hb5 hz5_0 hz5_1
  go_wp2
  refine bodyPost_ret (v := .agg #[.int .u64 (lo (mjoin (mless m p) cm)), .int .u64 (hi (mjoin (mless m p) cm))]) (by simp [results, Tryd.results108, go_sem, x0, x1]) rfl ⟨by rw [hpu.out], ?_⟩
  exact (hw5.setCell (by dsimp only; omega) _).setCell (by dsimp only; omega) _
def agV : Option Int → Int × Bool
  | some v => (v, true)
  | none => (0, false)
set_option maxHeartbeats 2000000 in
theorem spec_l04Agreed (f : Fld) (hf : fldB f = true) (xs : List Mask) (A : Option Addr) (cap : Nat) (b o : Nat) (w : World) (hF : FldAt w b o f) (hR : Rd encMask w A xs) (h15 : xs.length ≤ 15) :
    Calls Tryd.prog 107 #[.pointer (some ⟨b, o, none⟩), .slice A xs.length cap] w fun e w' => e = .returned (.tuple #[.int .i64 (agV (agreeF f xs)).1, .bool (agV (agreeF f xs)).2]) ∧ Ext w w' := by
  have hx := @ExtOf.cell
  have hde := fun (x : Mask) (W : World) (h : FldAt W b o f) => spec_l01Value f hf x b o W h
  have hagr := hd (show agreeF f xs = agTo (valsTo f xs xs.length) (valsTo f xs xs.length).length from rfl)
  have hsome := fun v (h : agreeF f xs = some v) => hd (show agV (agreeF f xs) = (v, true) by rw [h]; rfl)
  have hnone := fun (h : agreeF f xs = none) => hd (show agV (agreeF f xs) = (0, false) by rw [h]; rfl)
  generalize hagv : agV (agreeF f xs) = q0 at hsome hnone
  clear hagv
  go_enter Tryd.func107, Tryd.ntmps107
  go_wp2
  go_loopg [6, 7] xs.length (fun g v i wr => ∃ k : Nat, g = xs.length - k ∧ k ≤ xs.length ∧ i = .int .i64 k ∧ Ext w wr ∧ Ow encI64 2 wr w.heap.size v (valsTo f xs k))
  case atStart => exact ⟨0, by omega, by omega, rfl, (Ext.refl _).alloc _, by rw [valsTo_zero]; exact Ow.made0 rfl (Nat.le_refl _)⟩
  case round =>
    obtain ⟨k, hg, hk, rfl, hw, hO⟩ := hrel
    by_cases hkl : k < xs.length
    · obtain ⟨bx, off, hA, hlt, _⟩ := hR k hkl
      subst hA
      obtain ⟨c0, c1, c2⟩ := (hR.ext hw).mask k hkl
      have hdx := hde xs[k] wr (hF.ext hw)
      have hhit := fun h => hd (valsTo_hit (f := f) hkl h)
      have hmiss := fun h => hd (valsTo_miss (f := f) hkl h)
      have hyl := valsTo_len f xs k
      generalize valueF f xs[k] = q at hdx hhit hmiss
      obtain ⟨n, code⟩ := q
      dsimp only at hdx hhit hmiss
      generalize hys : valsTo f xs k = ys at hO hyl hhit hmiss
      go_wp2_with fail
      refine Calls.mono hdx ?_
      rintro e w5 ⟨rfl, hb5⟩
      have hW5 := hw.trans hb5
      have hO5 := hO.ext hb5
      clear hb5 hO c0 c1 c2
      by_cases q0 : code = 0
      · have hs := hhit q0
        subst q0
        clear hhit hmiss
        go_wp2_with (at_builtin; refine wpList_push2 (w0 := w) (base := w.heap.size) (xs := ys) encI64 (by rfl) _ _ 44 (.int .i64 0) 8 (by rfl) Tryd.underlying44 info_i64 (by rfl) (n) (by rfl) (by rfl) (by simp) (hO5) ((hW5 : Ext w _).size) (Nat.le_refl _) (hW5) (by omega) (by omega) ?_)
        intro v6 w6 hO6 hb6 hg6 _
        go_wp2
        go_roundg (xs.length - (k + 1))
        case rel => exact ⟨k + 1, rfl, hkl, by simp, hb6, by rw [hs.out]; exact hO6⟩
        case measure => omega
      · have hs := hmiss q0
        have e0 : (code == 0) = false := by simp [q0]
        clear hhit hmiss
        go_wp2
        go_roundg (xs.length - (k + 1))
        case rel => exact ⟨k + 1, rfl, hkl, by simp, hW5, by rw [hs.out]; exact hO5⟩
        case measure => omega
    · obtain rfl : k = xs.length := by omega
      have hyl := valsTo_len f xs xs.length
      generalize valsTo f xs xs.length = ys at hO hyl hagr
      obtain ⟨Ay, cy, hAy, hley, hRy⟩ := hO.slice
      subst hAy
      obtain ⟨wo, hwo⟩ : ∃ x, x = wr := ⟨_, rfl⟩
      subst hwo
      have hw := hd hw
      clear hO
      go_wp2
      go_loopg [10] ys.length (fun g i wr => ∃ k : Nat, g = ys.length - k ∧ k ≤ ys.length ∧ i = .int .i64 k ∧ Ext wo wr ∧ Hd (agTo ys k = none))
      case atStart => exact ⟨0, by omega, by omega, rfl, Ext.refl _, hd (by unfold agTo; rfl)⟩
      case round =>
        obtain ⟨i, hg, hii, rfl, hE, hN⟩ := hrel
        by_cases hil : i < ys.length
        · obtain ⟨by_, oy, hAy, hlty, _⟩ := hRy i hil
          subst hAy
          have v0w := (hRy.ext hE).i64 i hil
          have hhit := fun h => agTo_hit hN.out hil h ys.length hil
          have hmiss := fun h => hd (agTo_miss hN.out hil h)
          generalize ys[i] = v at v0w hhit hmiss
          have hcnt : ∀ j, (ys.take j).countP (fun o => o == v) ≤ j := fun j => by
            have h1 := List.countP_le_length (p := fun o => o == v) (l := ys.take j)
            have h2 : (ys.take j).length ≤ j := by rw [List.length_take]; omega
            omega
          obtain ⟨wp, hwp⟩ : ∃ x, x = wr := ⟨_, rfl⟩
          subst hwp
          go_wp2
          go_loopg [11, 12] ys.length (fun g c j wr => ∃ k : Nat, g = ys.length - k ∧ k ≤ ys.length ∧ j = .int .i64 k ∧ c = .int .i64 (((ys.take k).countP (fun o => o == v) : Nat) : Int) ∧ Ext wp wr)
          case atStart => exact ⟨0, by omega, by omega, rfl, by simp, Ext.refl _⟩
          case round =>
            obtain ⟨j, hg2, hj, rfl, rfl, hE2⟩ := hrel
            have v0 := hE2.cell v0w
            have lv := World.block_lt_of_cell? _ _ v0
            dsimp only at lv
            by_cases hjl : j < ys.length
            · have u0 := (hRy.ext (hE.trans hE2)).i64 j hjl
              have hs := count_step ys v j hjl
              have hcj := hcnt j
              generalize ys[j] = u at u0 hs
              generalize (ys.take j).countP (fun o => o == v) = cj at hs hcj
              by_cases huv : u = v
              · subst huv
                rw [if_pos (by simp)] at hs
                have hs := hd hs
                go_wp2
                refine wp_region_ext (by kernel_rfl) (by kernel_rfl) ?_
                repeat (first | go_big_quiet_step (fail) | quiet_step (fail))
                refine wpQuiet_nil ?_
                intro w5 hq5
                have hb5 := ext_of_class hq5
                clear hq5
                obtain ⟨hc5, hf5, hz5⟩ := bcell3 hb5
                try simp at hz5
                go_wp2
                go_roundg (ys.length - (j + 1))
                case rel => exact ⟨j + 1, rfl, hjl, by simp, by rw [hs.out]; simp, hE2.trans hb5⟩
                case measure => omega
              · have e1 : (u == v) = false := by simp [huv]
                rw [if_neg (by simp [huv])] at hs
                have hs := hd hs
                go_wp2
                refine wp_region_ext (by kernel_rfl) (by kernel_rfl) ?_
                repeat (first | go_big_quiet_step (fail) | quiet_step (fail))
                refine wpQuiet_nil ?_
                intro w5 hq5
                have hb5 := ext_of_class hq5
                clear hq5
                obtain ⟨hc5, hf5, hz5⟩ := bcell3 hb5
                try simp at hz5
                go_wp2
                go_roundg (ys.length - (j + 1))
                case rel => exact ⟨j + 1, rfl, hjl, by simp, by rw [hs.out]; simp, hE2.trans hb5⟩
                case measure => omega
            · obtain rfl : j = ys.length := by omega
              have hcl := hcnt ys.length
              have hcf : (ys.take ys.length).countP (fun o => o == v) = cntF ys v := by rw [List.take_length]; rfl
              rw [hcf] at hcl
              have hcf2 : (((ys.take ys.length).countP (fun o => o == v) : Nat) : Int) = (cntF ys v : Int) := by rw [hcf]
              rw [hcf2]
              clear hcf hcf2 hcnt
              generalize cntF ys v = cn at hcl hhit hmiss
              have hww : Ext w wr := (hw.out.trans hE).trans hE2
              by_cases hmaj : ys.length < 2 * cn
              · have hv := hsome v (hagr.out.trans (hhit hmaj))
                have hM : (ys.length : Int) < 2 * (cn : Int) := by omega
                have wr2 : IntKind.i64.wrap (2 * (cn : Int)) = 2 * (cn : Int) := IntWalk.i64_in _ (by omega)
                go_wp2
                refine bodyPost_ret (v := .tuple #[.int .i64 v, .bool true]) (by simp [results, Tryd.results107, go_sem]) rfl ⟨by rw [hv.out], hww⟩
              · have hN2 := hmiss hmaj
                have hM : ¬ (ys.length : Int) < 2 * (cn : Int) := by omega
                have wr2 : IntKind.i64.wrap (2 * (cn : Int)) = 2 * (cn : Int) := IntWalk.i64_in _ (by omega)
                go_wp2
                go_roundg (ys.length - (i + 1))
                case rel => exact ⟨i + 1, rfl, hil, by simp, hE.trans hE2, hN2⟩
                case measure => omega
        · obtain rfl : i = ys.length := by omega
          have hv := hnone (hagr.out.trans hN.out)
          have hww : Ext w wr := hw.out.trans hE
          go_wp2
          refine bodyPost_ret (v := .tuple #[.int .i64 0, .bool false]) (by simp [results, Tryd.results107, go_sem]) rfl ⟨by rw [hv.out], hww⟩
set_option maxHeartbeats 2000000 in
theorem spec_l04Repair (f : Fld) (hf : fldB f = true) (m : Mask) (xs : List Mask) (A : Option Addr) (cap : Nat) (b o : Nat) (w : World) (hF : FldAt w b o f) (hR : Rd encMask w A xs) (h15 : xs.length ≤ 15) :
    Calls Tryd.prog 77 #[.pointer (some ⟨b, o, none⟩), .agg #[.int .u64 (lo m), .int .u64 (hi m)], .slice A xs.length cap] w fun e w' => e = .returned (.tuple #[.agg #[.int .u64 (lo (repF f m xs).1), .int .u64 (hi (repF f m xs).1)], .int .i64 (repF f m xs).2]) ∧ Ext w w' := by
  have hx := @ExtOf.cell
  have hde := fun (W : World) (h : Ext w W) => spec_l01Value f hf m b o W (hF.ext h)
  have hag0 := fun (W : World) (h : Ext w W) => spec_l04Agreed f hf xs A cap b o W (hF.ext h) (hR.ext h) h15
  have hne := fun (W : World) (h : Ext w W) => spec_l04Near f hf m 1 b o W (hF.ext h)
  have hpu := fun (v : Int) (hv : 0 ≤ v ∧ v ≤ mostF f) (W : World) (h : Ext w W) => spec_l04Put f hf m v hv b o W (hF.ext h)
  have hok := fun h => hd (rep_ok (f := f) (m := m) (xs := xs) h)
  have hag := fun v h h2 => hd (rep_ag (f := f) (m := m) (xs := xs) (v := v) h h2)
  have hnear := fun h h2 h3 h4 => hd (rep_near (f := f) (m := m) (xs := xs) h h2 h3 h4)
  have hnone := fun h h2 h3 => hd (rep_none (f := f) (m := m) (xs := xs) h h2 h3)
  have hagr : ∀ v, agreeF f xs = some v → 0 ≤ v ∧ v ≤ mostF f := fun v h => by
    have hin : ∀ n, n ≤ (valsTo f xs xs.length).length → ∀ v, agTo (valsTo f xs xs.length) n = some v → v ∈ valsTo f xs xs.length := by
      intro n
      induction n with
      | zero => intro _ v h; unfold agTo at h; cases h
      | succ n ih =>
        intro hn v h
        unfold agTo at h
        cases h1 : agTo (valsTo f xs xs.length) n with
        | some x =>
          rw [h1, Option.some_or] at h
          exact ih (by omega) v (h1.trans h)
        | none =>
          rw [h1, Option.none_or] at h
          split at h
          · rw [← Option.some.inj h, getV _ n (by omega)]; exact List.getElem_mem _
          · cases h
    exact valsTo_range f xs xs.length v (hin _ (Nat.le_refl _) v h)
  have hnr := fun v (h : v ∈ nearL f m 1) => nearL_range h
  go_enter Tryd.func77, Tryd.ntmps77
  go_wp2_with fail
  refine Calls.mono (hde _ (by ((repeat (first | with_reducible exact Ext.refl _ | with_reducible exact hw | with_reducible exact hb9 | with_reducible exact hb8 | with_reducible exact hb7 | with_reducible exact hb6 | with_reducible exact hb5 | with_reducible exact hb4 | with_reducible exact hb3 | with_reducible exact hb2 | with_reducible exact hb1 | with_reducible refine Ext.alloc ?_ _ | with_reducible refine Ext.drew ?_ | ((with_reducible refine Ext.set ?_ ?_ _); focus (dsimp only; omega)) | with_reducible refine Ext.trans ?_ hb9 | with_reducible refine Ext.trans ?_ hb8 | with_reducible refine Ext.trans ?_ hb7 | with_reducible refine Ext.trans ?_ hb6 | with_reducible refine Ext.trans ?_ hb5 | with_reducible refine Ext.trans ?_ hb4 | with_reducible refine Ext.trans ?_ hb3 | with_reducible refine Ext.trans ?_ hb2 | with_reducible refine Ext.trans ?_ hb1 | with_reducible refine Ext.trans ?_ hw))))) ?_
  rintro e w1 ⟨rfl, hb1⟩
  have bM : BoxAt w1 w.heap.size #[.int .u64 (lo m), .int .u64 (hi m)] 33 := ((BoxAt.new' rfl).alloc _).ext hb1
  have bR : BoxAt w1 (w.heap.size + 1) #[.int .u64 0, .int .u64 0] 33 := (BoxAt.new' (by simp)).ext hb1
  have hw1 : Ext w w1 := by ((repeat (first | with_reducible exact Ext.refl _ | with_reducible exact hw | with_reducible exact hb9 | with_reducible exact hb8 | with_reducible exact hb7 | with_reducible exact hb6 | with_reducible exact hb5 | with_reducible exact hb4 | with_reducible exact hb3 | with_reducible exact hb2 | with_reducible exact hb1 | with_reducible refine Ext.alloc ?_ _ | with_reducible refine Ext.drew ?_ | ((with_reducible refine Ext.set ?_ ?_ _); focus (dsimp only; omega)) | with_reducible refine Ext.trans ?_ hb9 | with_reducible refine Ext.trans ?_ hb8 | with_reducible refine Ext.trans ?_ hb7 | with_reducible refine Ext.trans ?_ hb6 | with_reducible refine Ext.trans ?_ hb5 | with_reducible refine Ext.trans ?_ hb4 | with_reducible refine Ext.trans ?_ hb3 | with_reducible refine Ext.trans ?_ hb2 | with_reducible refine Ext.trans ?_ hb1 | with_reducible refine Ext.trans ?_ hw)))
  clear hb1 hde
  have n0 := bM.cell 0
  have n1 := bM.cell 1
  have lM := bM.lt
  have lR := bR.lt
  by_cases h8 : (valueF f m).2 = 8
  · have hag := fun v => hag v h8
    have hnear := hnear h8
    have hnone := hnone h8
    clear hok
    generalize valueF f m = q at h8
    obtain ⟨q1, q2⟩ := q
    dsimp only at h8
    subst h8
    go_wp2_with fail
    refine Calls.mono (hag0 _ hw1) ?_
    rintro e w2 ⟨rfl, hb2⟩
    have bM := bM.ext hb2
    have bR := bR.ext hb2
    have hw2 := hw1.trans hb2
    clear n0 n1 lM lR hag0 hb2 hw1
    have n0 := bM.cell 0
    have n1 := bM.cell 1
    have lM := bM.lt
    have lR := bR.lt
    cases hA : agreeF f xs with
    | some v =>
      have hv := hag v hA
      have hp := hpu v (hagr v hA)
      generalize putM f m v = pm at hv hp
      unfold agV
      dsimp only
      go_wp2_with fail
      refine Calls.mono (hp _ hw2) ?_
      rintro e w3 ⟨rfl, hb3⟩
      have bR := bR.ext hb3
      have hw3 := hw2.trans hb3
      have g0 := bR.frozen 0
      have g1 := bR.frozen 1
      have x0 : w3.cell? ⟨w.heap.size + 1, 0, none⟩ = some (.int .u64 0) := bR.cell 0
      have x1 : w3.cell? ⟨w.heap.size + 1, 1, none⟩ = some (.int .u64 0) := bR.cell 1
      have lR3 := bR.lt
      clear n0 n1 lM lR hb3
      go_wp2
      refine bodyPost_ret (v := .tuple #[.agg #[.int .u64 (lo pm), .int .u64 (hi pm)], .int .i64 1]) (by simp [results, Tryd.results77, go_sem, x0, x1]) rfl ⟨by rw [hv.out], ?_⟩
      exact (hw3.setCell (by dsimp only; omega) _).setCell (by dsimp only; omega) _
    | none =>
      have hnear := hnear hA
      have hnone := hnone hA
      generalize nearL f m 1 = ns at hne hnear hnone hnr
      unfold agV
      dsimp only
      go_wp2_with fail
      refine Calls.mono (hne _ hw2) ?_
      rintro e w6 ⟨v6, rfl, hO6, hb6⟩
      obtain ⟨A6, c6, rfl, hle6, hR6⟩ := hO6.slice
      have bM := bM.ext hb6
      have bR := bR.ext hb6
      have hw6 := hw2.trans hb6
      clear n0 n1 lM lR hb6 hO6
      have n0 := bM.cell 0
      have n1 := bM.cell 1
      have lM := bM.lt
      have lR := bR.lt
      have g0 := bR.frozen 0
      have g1 := bR.frozen 1
      by_cases h1 : ns.length = 1
      · have h4 : 0 < ns.length := by omega
        have hv := hnear h1 h4
        obtain ⟨b6, o6, hA6, hlt6, _⟩ := hR6 0 h4
        subst hA6
        have v0 := hR6.i64 0 h4
        rw [Nat.add_zero] at v0
        have hp := hpu ns[0] (hnr ns[0] (List.getElem_mem h4))
        generalize ns[0] = v at v0 hv hp
        have hl1 : ((ns.length : Int) == 1) = true := by rw [h1]; rfl
        generalize putM f m v = pm at hv hp
        clear hnear hnone
        go_wp2
        refine wp_region_ext_tail 6 6 (by kernel_rfl) (by kernel_rfl) (by intro d _ _ _ _ h; cases d <;> exact h) ?_
        simp only [List.take_succ_cons, List.take_zero, List.drop_succ_cons, List.drop_zero]
        repeat (first | go_big_quiet_step ((go_at_call 108; with_reducible exact Calls.ext_all (fun W h => hp W (hw6.trans h)))) | quiet_step ((go_at_call 108; with_reducible exact Calls.ext_all (fun W h => hp W (hw6.trans h)))))
        refine wpQuiet_nil ?_
        intro w5 hq5
        have hb5 := ext_of_class hq5
        clear hq5
        obtain ⟨hc5, hf5, hz5⟩ := bcell3 hb5
        try simp at hz5
        have bR5 := bR.ext hb5
        have hw5 := hw6.trans hb5
        have g2 := bR5.frozen 0
        have g3 := bR5.frozen 1
        have x0 : w5.cell? ⟨w.heap.size + 1, 0, none⟩ = some (.int .u64 0) := bR5.cell 0
        have x1 : w5.cell? ⟨w.heap.size + 1, 1, none⟩ = some (.int .u64 0) := bR5.cell 1
        have l5 := bR5.lt
        clear hc5 hf5 hz5 hb5
        go_wp2
        refine bodyPost_ret (v := .tuple #[.agg #[.int .u64 (lo pm), .int .u64 (hi pm)], .int .i64 2]) (by simp [results, Tryd.results77, go_sem, x0, x1]) rfl ⟨by rw [hv.out], ?_⟩
        exact (hw5.setCell (by dsimp only; omega) _).setCell (by dsimp only; omega) _
      · have hv := hnone h1
        have hl1 : ((ns.length : Int) == 1) = false := by simp; omega
        have x0 : w6.cell? ⟨w.heap.size + 1, 0, none⟩ = some (.int .u64 0) := bR.cell 0
        have x1 : w6.cell? ⟨w.heap.size + 1, 1, none⟩ = some (.int .u64 0) := bR.cell 1
        clear hnear hnone h1
        go_wp2
        refine bodyPost_ret (v := .tuple #[.agg #[.int .u64 (lo m), .int .u64 (hi m)], .int .i64 (-1)]) (by simp [results, Tryd.results77, go_sem, x0, x1]) rfl ⟨by rw [hv.out], ?_⟩
        exact (hw6.setCell (by dsimp only; omega) _).setCell (by dsimp only; omega) _
  · have hv := hok h8
    have e8 : ((valueF f m).2 != 8) = true := by simp [h8]
    have g0 := bR.frozen 0
    have g1 := bR.frozen 1
    have x0 : w1.cell? ⟨w.heap.size + 1, 0, none⟩ = some (.int .u64 0) := bR.cell 0
    have x1 : w1.cell? ⟨w.heap.size + 1, 1, none⟩ = some (.int .u64 0) := bR.cell 1
    generalize valueF f m = q at e8
    go_wp2
    refine bodyPost_ret (v := .tuple #[.agg #[.int .u64 (lo m), .int .u64 (hi m)], .int .i64 0]) (by simp [results, Tryd.results77, go_sem, x0, x1]) rfl ⟨by rw [hv.out], ?_⟩
    exact (hw1.setCell (by dsimp only; omega) _).setCell (by dsimp only; omega) _
end Go.Proofs.YtknbebglabpegaaDoor
