/-
  Contract of the program's function that repairs a field of a mask.
-/
import Derived.Test.YtknbebglabpegaaDoorF28
import Derived.Test.YtknbebglabpegaaDoorF15
set_option linter.unusedVariables false
set_option linter.unusedSimpArgs false
set_option maxRecDepth 100000
namespace Go.Proofs.YtknbebglabpegaaDoor
open Go.RowKit
theorem count_step (ys : List Int) (v : Int) (k : Nat) (hk : k < ys.length) : (ys.take (k + 1)).countP (fun o => o == v) = (ys.take k).countP (fun o => o == v) + if (ys[k] == v) = true then 1 else 0 := count_take _ ys k hk
set_option maxHeartbeats 2000000 in
theorem impl_repaired (nm : ByteArray) (kd st sz : Int) (hf : fldB ⟨nm, kd, st, sz⟩ = true) (m : Mask) (xs : List Mask) (A : Option Addr) (cap : Nat) (w : World) (hR : Rd encMask w A xs) (h15 : xs.length ≤ 15) :
    Calls Tryd.prog 79 #[.agg #[.string nm, .int .i8 kd, .int .i16 st, .int .i16 sz], .agg #[.int .u64 (lo m), .int .u64 (hi m)], .slice A xs.length cap] w fun e w' => e = .returned (.tuple #[.agg #[.int .u64 (lo (repF ⟨nm, kd, st, sz⟩ m xs).1), .int .u64 (hi (repF ⟨nm, kd, st, sz⟩ m xs).1)], .int .i64 (repF ⟨nm, kd, st, sz⟩ m xs).2]) ∧ Ext w w' := by
  have hx := @ExtOf.cell
  have hde := fun (x : Mask) (W : World) => impl_decode nm kd st sz hf x W
  have hpa := fun (W : World) => impl_part nm kd st sz hf W
  have henc := fun (v : Int) (h : 0 ≤ v ∧ v ≤ mostF ⟨nm, kd, st, sz⟩) (W : World) => impl_encode nm kd st sz v hf h.1 h.2 W
  have hne := fun (W : World) => impl_near nm kd st sz hf m 1 W
  have hok := fun h => hd (rep_ok (f := ⟨nm, kd, st, sz⟩) (m := m) (xs := xs) h)
  have hag := fun v h h2 => hd (rep_ag (f := ⟨nm, kd, st, sz⟩) (m := m) (xs := xs) (v := v) h h2)
  have hnear := fun h h2 h3 h4 => hd (rep_near (f := ⟨nm, kd, st, sz⟩) (m := m) (xs := xs) h h2 h3 h4)
  have hnone := fun h h2 h3 => hd (rep_none (f := ⟨nm, kd, st, sz⟩) (m := m) (xs := xs) h h2 h3)
  have hagr := hd (show agreeF ⟨nm, kd, st, sz⟩ xs = agTo (valsTo ⟨nm, kd, st, sz⟩ xs xs.length) (valsTo ⟨nm, kd, st, sz⟩ xs xs.length).length from rfl)
  have hput := fun v => hd (show putM ⟨nm, kd, st, sz⟩ m v = mjoin (mless m (partF ⟨nm, kd, st, sz⟩)) (codeF ⟨nm, kd, st, sz⟩ v) from rfl)
  have hdm := hde m
  go_enter Tryd.func79, Tryd.ntmps79
  go_wp2_with fail
  refine Calls.mono (hdm _) ?_
  rintro e w1 ⟨rfl, hb1⟩
  have bF : BoxAt w1 w.heap.size #[.string nm, .int .i8 kd, .int .i16 st, .int .i16 sz] 31 := (((BoxAt.new' rfl).alloc _).alloc _).ext hb1
  have bM : BoxAt w1 (w.heap.size + 1) #[.int .u64 (lo m), .int .u64 (hi m)] 33 := ((BoxAt.new' (by simp)).alloc _).ext hb1
  have bR : BoxAt w1 (w.heap.size + 1 + 1) #[.int .u64 0, .int .u64 0] 33 := (BoxAt.new' (by simp)).ext hb1
  have hw1 : Ext w w1 := by ((repeat (first | with_reducible exact Ext.refl _ | with_reducible exact hw | with_reducible exact hb9 | with_reducible exact hb8 | with_reducible exact hb7 | with_reducible exact hb6 | with_reducible exact hb5 | with_reducible exact hb4 | with_reducible exact hb3 | with_reducible exact hb2 | with_reducible exact hb1 | with_reducible refine Ext.alloc ?_ _ | with_reducible refine Ext.drew ?_ | ((with_reducible refine Ext.set ?_ ?_ _); focus (dsimp only; omega)) | with_reducible refine Ext.trans ?_ hb9 | with_reducible refine Ext.trans ?_ hb8 | with_reducible refine Ext.trans ?_ hb7 | with_reducible refine Ext.trans ?_ hb6 | with_reducible refine Ext.trans ?_ hb5 | with_reducible refine Ext.trans ?_ hb4 | with_reducible refine Ext.trans ?_ hb3 | with_reducible refine Ext.trans ?_ hb2 | with_reducible refine Ext.trans ?_ hb1 | with_reducible refine Ext.trans ?_ hw)))
  clear hb1 hdm
  have m0 := bF.cell 0
  have m1 := bF.cell 1
  have m2 := bF.cell 2
  have m3 := bF.cell 3
  have n0 := bM.cell 0
  have n1 := bM.cell 1
  have lF := bF.lt
  have lM := bM.lt
  have lR := bR.lt
  by_cases h8 : (valueF ⟨nm, kd, st, sz⟩ m).2 = 8
  · have hag := fun v => hag v h8
    have hnear := hnear h8
    have hnone := hnone h8
    clear hok
    generalize valueF ⟨nm, kd, st, sz⟩ m = q at h8
    obtain ⟨q1, q2⟩ := q
    dsimp only at h8
    subst h8
    go_wp2
    clear m0 m1 m2 m3 n0 n1 lF lM lR
    go_loopg [10, 33] xs.length (fun g v i wr => ∃ k : Nat, g = xs.length - k ∧ k ≤ xs.length ∧ i = .int .i64 k ∧ Ext w1 wr ∧ Ow encI64 2 wr w1.heap.size v (valsTo ⟨nm, kd, st, sz⟩ xs k))
    case atStart => exact ⟨0, by omega, by omega, rfl, (Ext.refl _).alloc _, by rw [valsTo_zero]; exact Ow.made0 rfl (Nat.le_refl _)⟩
    case round =>
      obtain ⟨k, hg, hk, rfl, hw, hO⟩ := hrel
      have m0 := (bF.ext hw).cell 0
      have m1 := (bF.ext hw).cell 1
      have m2 := (bF.ext hw).cell 2
      have m3 := (bF.ext hw).cell 3
      have lF := (bF.ext hw).lt
      by_cases hkl : k < xs.length
      · obtain ⟨b, off, hA, hlt, _⟩ := hR k hkl
        subst hA
        obtain ⟨c0, c1, c2⟩ := (hR.ext (hw1.trans hw)).mask k hkl
        have hdx := hde xs[k]
        have hhit := fun h => hd (valsTo_hit (f := ⟨nm, kd, st, sz⟩) hkl h)
        have hmiss := fun h => hd (valsTo_miss (f := ⟨nm, kd, st, sz⟩) hkl h)
        have hyl := valsTo_len ⟨nm, kd, st, sz⟩ xs k
        generalize valueF ⟨nm, kd, st, sz⟩ xs[k] = q at hdx hhit hmiss
        obtain ⟨n, code⟩ := q
        dsimp only at hdx hhit hmiss
        generalize hys : valsTo ⟨nm, kd, st, sz⟩ xs k = ys at hO hyl hhit hmiss
        have ne0 : ¬ wr.heap.size = w.heap.size := by omega
        go_wp2_with fail
        refine Calls.mono (hdx _) ?_
        rintro e w5 ⟨rfl, hb5⟩
        have hW5 : Ext w1 w5 := (hw.alloc (.cells #[.int .u64 (lo xs[k]), .int .u64 (hi xs[k])] 33)).trans hb5
        have hO5 := (hO.ext ((Ext.refl _).alloc (.cells #[.int .u64 (lo xs[k]), .int .u64 (hi xs[k])] 33))).ext hb5
        clear hb5 hO c0 c1 c2 m0 m1 m2 m3
        by_cases q0 : code = 0
        · have hs := hhit q0
          subst q0
          clear hhit hmiss
          go_wp2_with (at_builtin; refine wpList_push2 (w0 := w1) (base := w1.heap.size) (xs := ys) encI64 (by rfl) _ _ 44 (.int .i64 0) 8 (by rfl) Tryd.underlying44 info_i64 (by rfl) (n) (by rfl) (by rfl) (by simp) (hO5) ((hW5 : Ext w1 _).size) (Nat.le_refl _) (hW5) (by omega) (by omega) ?_)
          intro v6 w6 hO6 hb6 hg6 _
          go_wp2
          go_roundg (xs.length - (k + 1))
          case rel => exact ⟨k + 1, rfl, hkl, by simp, hb6, by rw [hs.out]; exact hO6⟩
          case measure => omega
        · have hs := hmiss q0
          have e0 : (code == 0) = false := by simp [q0]
          clear hhit hmiss
          go_wp2
          go_roundg (xs.length - (k + 1))
          case rel => exact ⟨k + 1, rfl, hkl, by simp, hW5, by rw [hs.out]; exact hO5⟩
          case measure => omega
      · obtain rfl : k = xs.length := by omega
        have hyl := valsTo_len ⟨nm, kd, st, sz⟩ xs xs.length
        have hyr := valsTo_range ⟨nm, kd, st, sz⟩ xs xs.length
        generalize valsTo ⟨nm, kd, st, sz⟩ xs xs.length = ys at hO hyl hyr hagr
        obtain ⟨Ay, cy, hAy, hley, hRy⟩ := hO.slice
        subst hAy
        have hw := hd hw
        obtain ⟨wo, hwo⟩ : ∃ x, x = wr := ⟨_, rfl⟩
        subst hwo
        clear hO
        go_wp2
        go_loopg [52] ys.length (fun g i wr => ∃ k : Nat, g = ys.length - k ∧ k ≤ ys.length ∧ i = .int .i64 k ∧ Ext wo wr ∧ Hd (agTo ys k = none))
        case atStart => exact ⟨0, by omega, by omega, rfl, Ext.refl _, hd (by unfold agTo; rfl)⟩
        case round =>
          obtain ⟨i, hg, hii, rfl, hE, hN⟩ := hrel
          by_cases hil : i < ys.length
          · obtain ⟨by_, oy, hAy, hlty, _⟩ := hRy i hil
            subst hAy
            have v0 := (hRy.ext hE).i64 i hil
            have lv := World.block_lt_of_cell? _ _ v0
            dsimp only at lv
            have hvr := hyr ys[i] (List.getElem_mem hil)
            have hhit := fun h => agTo_hit hN.out hil h ys.length hil
            have hmiss := fun h => hd (agTo_miss hN.out hil h)
            generalize ys[i] = v at v0 hvr hhit hmiss
            have hcnt : ∀ j, (ys.take j).countP (fun o => o == v) ≤ j := fun j => by
              have h1 := List.countP_le_length (p := fun o => o == v) (l := ys.take j)
              have h2 : (ys.take j).length ≤ j := by rw [List.length_take]; omega
              omega
            obtain ⟨wp, hwp⟩ : ∃ x, x = wr := ⟨_, rfl⟩
            subst hwp
            go_wp2
            go_loopg [17, 58] ys.length (fun g c j wr => ∃ k : Nat, g = ys.length - k ∧ k ≤ ys.length ∧ j = .int .i64 k ∧ c = .int .i64 (((ys.take k).countP (fun o => o == v) : Nat) : Int) ∧ Ext wp wr)
            case atStart => exact ⟨0, by omega, by omega, rfl, by simp, Ext.refl _⟩
            case round =>
              obtain ⟨j, hg2, hj, rfl, rfl, hE2⟩ := hrel
              by_cases hjl : j < ys.length
              · have u0 := (hRy.ext (hE.trans hE2)).i64 j hjl
                have lu := World.block_lt_of_cell? _ _ u0
                dsimp only at lu
                have hs := count_step ys v j hjl
                have hcj := hcnt j
                generalize ys[j] = u at u0 hs
                generalize (ys.take j).countP (fun o => o == v) = cj at hs hcj
                by_cases huv : u = v
                · subst huv
                  rw [if_pos (by simp)] at hs
                  have hs := hd hs
                  go_wp2
                  go_roundg (ys.length - (j + 1))
                  case rel => exact ⟨j + 1, rfl, hjl, by simp, by rw [hs.out]; simp, hE2⟩
                  case measure => omega
                · have e1 : (u == v) = false := by simp [huv]
                  rw [if_neg (by simp [huv])] at hs
                  have hs := hd hs
                  go_wp2
                  go_roundg (ys.length - (j + 1))
                  case rel => exact ⟨j + 1, rfl, hjl, by simp, by rw [hs.out]; simp, hE2⟩
                  case measure => omega
              · obtain rfl : j = ys.length := by omega
                have hcl := hcnt ys.length
                have hcf : (ys.take ys.length).countP (fun o => o == v) = cntF ys v := by rw [List.take_length]; rfl
                rw [hcf] at hcl
                have hcf2 : (((ys.take ys.length).countP (fun o => o == v) : Nat) : Int) = (cntF ys v : Int) := by rw [hcf]
                rw [hcf2]
                clear hcf hcf2 hcnt
                generalize cntF ys v = cn at hcl hhit hmiss
                have hww : Ext w1 wr := (hw.out.trans hE).trans hE2
                by_cases hmaj : ys.length < 2 * cn
                · have hv := hag v (hagr.out.trans (hhit hmaj))
                  have hpu := hput v
                  have hen := henc v hvr
                  have hM : (ys.length : Int) < 2 * (cn : Int) := by omega
                  have wr2 : IntKind.i64.wrap (2 * (cn : Int)) = 2 * (cn : Int) := IntWalk.i64_in _ (by omega)
                  generalize partF ⟨nm, kd, st, sz⟩ = p at hpa hpu
                  generalize codeF ⟨nm, kd, st, sz⟩ v = cm at hen hpu
                  have bF := bF.ext hww
                  have bM := bM.ext hww
                  have bR := bR.ext hww
                  have m0 := bF.cell 0
                  have m1 := bF.cell 1
                  have m2 := bF.cell 2
                  have m3 := bF.cell 3
                  have n0 := bM.cell 0
                  have n1 := bM.cell 1
                  have lF := bF.lt
                  have lM := bM.lt
                  have lR := bR.lt
                  go_wp2
                  refine wp_region_ext_tail 8 8 (by kernel_rfl) (by kernel_rfl) (by intro d _ _ _ _ h; cases d <;> exact h) ?_
                  simp only [List.take_succ_cons, List.take_zero, List.drop_succ_cons, List.drop_zero]
                  repeat (first | go_big_quiet_step ((first | (go_at_call 62; with_reducible exact Calls.ext_all (fun W _ => hpa W)) | (go_at_call 65; with_reducible exact Calls.ext_all (fun W _ => hen W)) | (go_at_call 101; with_reducible exact Calls.ext_of (impl_LessMask _ _ _)) | (go_at_call 89; with_reducible exact Calls.ext_of (impl_JoinMasks _ _ _)))) | quiet_step ((first | (go_at_call 62; with_reducible exact Calls.ext_all (fun W _ => hpa W)) | (go_at_call 65; with_reducible exact Calls.ext_all (fun W _ => hen W)) | (go_at_call 101; with_reducible exact Calls.ext_of (impl_LessMask _ _ _)) | (go_at_call 89; with_reducible exact Calls.ext_of (impl_JoinMasks _ _ _)))))
                  refine wpQuiet_nil ?_
                  intro w5 hq5
                  have hb5 := ext_of_class hq5
                  clear hq5
                  obtain ⟨hc5, hf5, hz5⟩ := bcell3 hb5
                  try simp at hz5
                  have bR5 := bR.ext hb5
                  have hw5 := (hw1.trans hww).trans hb5
                  have g0 := bR5.frozen 0
                  have g1 := bR5.frozen 1
                  have x0 : w5.cell? ⟨w.heap.size + 1 + 1, 0, none⟩ = some (.int .u64 0) := bR5.cell 0
                  have x1 : w5.cell? ⟨w.heap.size + 1 + 1, 1, none⟩ = some (.int .u64 0) := bR5.cell 1
                  have l5 := bR5.lt
                  clear hc5 hf5 hz5 hb5
                  go_wp2
                  refine bodyPost_ret (v := .tuple #[.agg #[.int .u64 (lo (mjoin (mless m p) cm)), .int .u64 (hi (mjoin (mless m p) cm))], .int .i64 1]) (by simp [results, Tryd.results79, go_sem, x0, x1]) rfl ⟨by rw [hv.out, hpu.out], ?_⟩
                  exact (hw5.setCell (by dsimp only; omega) _).setCell (by dsimp only; omega) _
                · have hN2 := hmiss hmaj
                  have hM : ¬ (ys.length : Int) < 2 * (cn : Int) := by omega
                  have wr2 : IntKind.i64.wrap (2 * (cn : Int)) = 2 * (cn : Int) := IntWalk.i64_in _ (by omega)
                  go_wp2
                  go_roundg (ys.length - (i + 1))
                  case rel => exact ⟨i + 1, rfl, hil, by simp, hE.trans hE2, hN2⟩
                  case measure => omega
          · obtain rfl : i = ys.length := by omega
            have hno := hagr.out.trans hN.out
            have hnear := hnear hno
            have hnone := hnone hno
            have hww : Ext w1 wr := hw.out.trans hE
            have hnr := fun v (h : v ∈ nearL ⟨nm, kd, st, sz⟩ m 1) => nearL_range h
            have bF := bF.ext hww
            have bM := bM.ext hww
            have bR := bR.ext hww
            have m0 := bF.cell 0
            have m1 := bF.cell 1
            have m2 := bF.cell 2
            have m3 := bF.cell 3
            have n0 := bM.cell 0
            have n1 := bM.cell 1
            have lF := bF.lt
            have lM := bM.lt
            have lR := bR.lt
            generalize nearL ⟨nm, kd, st, sz⟩ m 1 = ns at hne hnear hnone hnr
            go_wp2_with fail
            refine Calls.mono (hne _) ?_
            rintro e w6 ⟨v6, rfl, hO6, hb6⟩
            obtain ⟨A6, c6, rfl, hle6, hR6⟩ := hO6.slice
            clear m0 m1 m2 m3 n0 n1 lF lM lR
            have bF := bF.ext hb6
            have bM := bM.ext hb6
            have bR := bR.ext hb6
            have m0 := bF.cell 0
            have m1 := bF.cell 1
            have m2 := bF.cell 2
            have m3 := bF.cell 3
            have n0 := bM.cell 0
            have n1 := bM.cell 1
            have lF := bF.lt
            have lM := bM.lt
            have lR := bR.lt
            have hw6 := (hw1.trans hww).trans hb6
            by_cases h1 : ns.length = 1
            · have h4 : 0 < ns.length := by omega
              have hv := hnear h1 h4
              obtain ⟨b6, o6, hA6, hlt6, _⟩ := hR6 0 h4
              subst hA6
              have v0 := hR6.i64 0 h4
              rw [Nat.add_zero] at v0
              have hvr := hnr ns[0] (List.getElem_mem h4)
              generalize ns[0] = v at v0 hvr hv
              have hl1 : ((ns.length : Int) == 1) = true := by rw [h1]; rfl
              have hpu := hput v
              have hen := henc v hvr
              generalize partF ⟨nm, kd, st, sz⟩ = p at hpa hpu
              generalize codeF ⟨nm, kd, st, sz⟩ v = cm at hen hpu
              clear hO6 hnear hnone
              go_wp2
              refine wp_region_ext_tail 10 10 (by kernel_rfl) (by kernel_rfl) (by intro d _ _ _ _ h; cases d <;> exact h) ?_
              simp only [List.take_succ_cons, List.take_zero, List.drop_succ_cons, List.drop_zero]
              repeat (first | go_big_quiet_step ((first | (go_at_call 62; with_reducible exact Calls.ext_all (fun W _ => hpa W)) | (go_at_call 65; with_reducible exact Calls.ext_all (fun W _ => hen W)) | (go_at_call 101; with_reducible exact Calls.ext_of (impl_LessMask _ _ _)) | (go_at_call 89; with_reducible exact Calls.ext_of (impl_JoinMasks _ _ _)))) | quiet_step ((first | (go_at_call 62; with_reducible exact Calls.ext_all (fun W _ => hpa W)) | (go_at_call 65; with_reducible exact Calls.ext_all (fun W _ => hen W)) | (go_at_call 101; with_reducible exact Calls.ext_of (impl_LessMask _ _ _)) | (go_at_call 89; with_reducible exact Calls.ext_of (impl_JoinMasks _ _ _)))))
              refine wpQuiet_nil ?_
              intro w5 hq5
              have hb5 := ext_of_class hq5
              clear hq5
              obtain ⟨hc5, hf5, hz5⟩ := bcell3 hb5
              try simp at hz5
              have bR5 := bR.ext hb5
              have hw5 := hw6.trans hb5
              have g0 := bR5.frozen 0
              have g1 := bR5.frozen 1
              have x0 : w5.cell? ⟨w.heap.size + 1 + 1, 0, none⟩ = some (.int .u64 0) := bR5.cell 0
              have x1 : w5.cell? ⟨w.heap.size + 1 + 1, 1, none⟩ = some (.int .u64 0) := bR5.cell 1
              have l5 := bR5.lt
              clear hc5 hf5 hz5 hb5
              go_wp2
              refine bodyPost_ret (v := .tuple #[.agg #[.int .u64 (lo (mjoin (mless m p) cm)), .int .u64 (hi (mjoin (mless m p) cm))], .int .i64 2]) (by simp [results, Tryd.results79, go_sem, x0, x1]) rfl ⟨by rw [hv.out, hpu.out], ?_⟩
              exact (hw5.setCell (by dsimp only; omega) _).setCell (by dsimp only; omega) _
            · have hv := hnone h1
              have hl1 : ((ns.length : Int) == 1) = false := by simp; omega
              have g0 := bR.frozen 0
              have g1 := bR.frozen 1
              have x0 : w6.cell? ⟨w.heap.size + 1 + 1, 0, none⟩ = some (.int .u64 0) := bR.cell 0
              have x1 : w6.cell? ⟨w.heap.size + 1 + 1, 1, none⟩ = some (.int .u64 0) := bR.cell 1
              clear hO6 hnear hnone h1
              go_wp2
              refine bodyPost_ret (v := .tuple #[.agg #[.int .u64 (lo m), .int .u64 (hi m)], .int .i64 (-1)]) (by simp [results, Tryd.results79, go_sem, x0, x1]) rfl ⟨by rw [hv.out], ?_⟩
              exact (hw6.setCell (by dsimp only; omega) _).setCell (by dsimp only; omega) _
  · have hv := hok h8
    have e8 : ((valueF ⟨nm, kd, st, sz⟩ m).2 != 8) = true := by simp [h8]
    have g0 := bR.frozen 0
    have g1 := bR.frozen 1
    have x0 : w1.cell? ⟨w.heap.size + 1 + 1, 0, none⟩ = some (.int .u64 0) := bR.cell 0
    have x1 : w1.cell? ⟨w.heap.size + 1 + 1, 1, none⟩ = some (.int .u64 0) := bR.cell 1
    generalize valueF ⟨nm, kd, st, sz⟩ m = q at e8
    go_wp2
    refine bodyPost_ret (v := .tuple #[.agg #[.int .u64 (lo m), .int .u64 (hi m)], .int .i64 0]) (by simp [results, Tryd.results79, go_sem, x0, x1]) rfl ⟨by rw [hv.out], ?_⟩
    exact (hw1.setCell (by dsimp only; omega) _).setCell (by dsimp only; omega) _
end Go.Proofs.YtknbebglabpegaaDoor
