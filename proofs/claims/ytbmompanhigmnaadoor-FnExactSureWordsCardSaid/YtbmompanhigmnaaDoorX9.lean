/-
  Contracts of the reference's functions that begin to cover a mask, and of its SureWords.
-/
import Derived.Test.YtbmompanhigmnaaDoorX8
set_option linter.unusedVariables false
set_option linter.unusedSimpArgs false
set_option maxRecDepth 100000
namespace Go.Proofs.YtbmompanhigmnaaDoor
open Go.RowKit
set_option maxHeartbeats 2000000 in
theorem spec_l03Begin (x : Mx) (hmx : mixB x = true) (m : Mask) (vs : List ByteArray) (A : Option Addr) (cap : Nat) (ls : List Int) (B : Option Addr) (cap' : Nat) (b0 o0 : Nat) (w : World) (hMx : MixAt w b0 o0 x) (hR : Rd encStr w A vs) (hn : vs.length ≤ 1048576) (hok : ∀ x ∈ vs, StrIn x) (hS : Rd encI64 w B ls) (hm : ls.length ≤ 1048576) (hin : ∀ k ∈ ls, 0 ≤ k ∧ k < vs.length) :
    Calls Tryd.prog 59 #[.pointer (some ⟨b0, o0, none⟩), .agg #[.int .u64 (lo m), .int .u64 (hi m)], .slice A vs.length cap, .slice B ls.length cap'] w fun e w' => ∃ b v, e = .returned (.tuple #[.pointer (some ⟨b, 0, none⟩), .bool (meqB (joinL (hsL x vs ls)) (wantX x m))]) ∧ BoxAt w' b #[v, .int .u64 (lo (wantX x m)), .int .u64 (hi (wantX x m)), .int .i64 0, .bool false] 85 ∧ Ow encMask 53 w' w.heap.size v (hsL x vs ls) ∧ v.ownBlock ≠ some b ∧ w.heap.size ≤ b ∧ Ext w w' := by
  have hwh := fun k (h : k < vs.length) (W : World) (hE : Ext w W) => spec_l03Holes x hmx vs[k] (hok _ (List.getElem_mem h)) b0 o0 W (hMx.ext hE)
  have htk := fun k (h : k < ls.length) => hsL_take x vs ls k h
  have hsn := fun k (h : k < ls.length) => hsL_snoc x vs ls k h
  have hat := fun n (h : n < vs.length) => holeAt_nat x vs n h
  have hz : joinL ((hsL x vs ls).take 0) = 0 := by rw [List.take_zero]; rfl
  have hz2 : hsL x vs (ls.take 0) = [] := by rw [List.take_zero]; rfl
  have hlt := fun k => (by have := hsL_len x vs (ls.take k); rw [List.length_take] at this; omega : (hsL x vs (ls.take k)).length ≤ k)
  have hall2 : hsL x vs (ls.take ls.length) = hsL x vs ls := by rw [List.take_length]
  have hall : joinL ((hsL x vs ls).take ls.length) = joinL (hsL x vs ls) := by rw [← hsL_len x vs ls, List.take_length]
  have hpa := fun (W : World) (hE : Ext w W) => spec_l03Part x hmx b0 o0 W (hMx.ext hE)
  have hme := fun W => spec_MeetMasks m (partX x) W
  rw [show mmeet m (partX x) = wantX x m from rfl] at hme
  generalize wantX x m = T at hme
  generalize partX x = pm at hpa hme
  generalize hjl : joinL (hsL x vs ls) = r at hall
  have e2 := eqA_Mask
  have e1 := lohi_meq r T
  have hE0 : Ext w (w.alloc (.cells #[.int .u64 (lo m), .int .u64 (hi m)] 53)) := (Ext.refl _).alloc _
  have hx := @ExtOf.cell
  go_enter Tryd.func59, Tryd.ntmps59
  go_wp2
  refine wp_region_ext_tail 4 4 (by kernel_rfl) (by kernel_rfl) (by intro d _ _ _ _ h; cases d <;> exact h) ?_
  simp only [List.take_succ_cons, List.take_zero, List.drop_succ_cons, List.drop_zero]
  repeat (first | go_big_quiet_step ((first | (go_at_call 86; with_reducible exact Calls.ext_all (fun W hE => hpa W (hE0.trans hE))) | (go_at_call 85; with_reducible exact Calls.ext_all (fun W _ => hme W)))) | quiet_step ((first | (go_at_call 86; with_reducible exact Calls.ext_all (fun W hE => hpa W (hE0.trans hE))) | (go_at_call 85; with_reducible exact Calls.ext_all (fun W _ => hme W)))))
  refine wpQuiet_nil ?_
  intro w1 hq1
  have hb1 := ext_of_class hq1
  clear hq1
  obtain ⟨hc1, hf1, hz1⟩ := bcell3 hb1
  try simp at hz1
  have hz1_0 : w.heap.size < w1.heap.size := by omega
  have hw1 := hE0.trans hb1
  have sz1 : w.heap.size < w1.heap.size := hz1_0
  clear hc1 hf1 hz1 hz1_0 hb1 hE0 hpa hme
  go_wp2
  go_loopg [12] ls.length (fun g i wr => ∃ k : Nat, ∃ a : Mask, ∃ v : Value, g = ls.length - k ∧ k ≤ ls.length ∧ i = .int .i64 k ∧ Hd (joinL ((hsL x vs ls).take k) = a) ∧ Ext w1 wr ∧ BoxAt wr w1.heap.size #[v, .int .u64 (lo T), .int .u64 (hi T), .int .i64 0, .bool false] 85 ∧ BoxAt wr (w1.heap.size + 1) #[.int .u64 (lo a), .int .u64 (hi a)] 53 ∧ Ow encMask 53 wr (w1.heap.size + 1 + 1) v (hsL x vs (ls.take k)))
  case atStart => exact ⟨0, 0, .slice none 0 0, by omega, by omega, rfl, hd hz, by ((repeat (first | with_reducible exact Ext.refl _ | with_reducible exact hw | with_reducible exact hb9 | with_reducible exact hb8 | with_reducible exact hb7 | with_reducible exact hb6 | with_reducible exact hb5 | with_reducible exact hb4 | with_reducible exact hb3 | with_reducible exact hb2 | with_reducible exact hb1 | with_reducible refine Ext.alloc ?_ _ | with_reducible refine Ext.drew ?_ | ((with_reducible refine Ext.set ?_ ?_ _); focus (dsimp only; omega)) | with_reducible refine Ext.trans ?_ hb9 | with_reducible refine Ext.trans ?_ hb8 | with_reducible refine Ext.trans ?_ hb7 | with_reducible refine Ext.trans ?_ hb6 | with_reducible refine Ext.trans ?_ hb5 | with_reducible refine Ext.trans ?_ hb4 | with_reducible refine Ext.trans ?_ hb3 | with_reducible refine Ext.trans ?_ hb2 | with_reducible refine Ext.trans ?_ hb1 | with_reducible refine Ext.trans ?_ hw))), (BoxAt.new' rfl).alloc _, BoxAt.new' (by simp), by rw [hz2]; exact Ow.nil _ _ _ _⟩
  case round =>
    obtain ⟨k, a, v, hg, hk, rfl, ha, hw, hC, hB, hO⟩ := hrel
    have c0 : wr.cell? ⟨w1.heap.size, 0, none⟩ = some v := hC.cell 0
    have c1 : wr.cell? ⟨w1.heap.size, 1, none⟩ = some (.int .u64 (lo T)) := hC.cell 1
    have c2 : wr.cell? ⟨w1.heap.size, 2, none⟩ = some (.int .u64 (hi T)) := hC.cell 2
    have d0 : wr.cell? ⟨w1.heap.size + 1, 0, none⟩ = some (.int .u64 (lo a)) := hB.cell 0
    have d1 : wr.cell? ⟨w1.heap.size + 1, 1, none⟩ = some (.int .u64 (hi a)) := hB.cell 1
    have lC := hC.lt
    have lB := hB.lt
    have hwr := hw1.trans hw
    by_cases hkl : k < ls.length
    · obtain ⟨b', off', hB', hlt', _⟩ := hS k hkl
      subst hB'
      have l0 := (hS.ext hwr).i64 k hkl
      have lS := World.block_lt_of_cell? _ _ l0
      dsimp only at lS
      have hnext := htk k hkl
      have hsnoc := hsn k hkl
      obtain ⟨g0, g1⟩ := hin _ (List.getElem_mem hkl)
      generalize ls[k] = z at l0 hnext hsnoc g0 g1
      obtain ⟨n, rfl⟩ : ∃ n : Nat, z = n := ⟨z.toNat, by omega⟩
      have hnl : n < vs.length := by omega
      rw [hat n hnl] at hnext hsnoc
      obtain ⟨b, off, hA, hltA, _⟩ := hR n hnl
      subst hA
      obtain ⟨m0, m1⟩ := (hR.ext hwr).strs n hnl
      have hcall := hwh n hnl
      have hl3 := hlt k
      have hnext := hd hnext
      have hsnoc := hd hsnoc
      generalize wholes x vs[n] = q at hcall hnext hsnoc
      generalize hsL x vs (ls.take k) = ys at hO hsnoc hl3
      clear hwh htk hat hsn hlt c0 c1 c2 d0 d1
      go_wp2_with fail
      refine Calls.mono (hcall _ hwr) ?_
      rintro e w2 ⟨rfl, hb2⟩
      have hC := hC.ext hb2
      have hB := hB.ext hb2
      have hOld := hO
      have hO := hO.ext hb2
      have hw2 := hw.trans hb2
      have hs2 := hw2.size
      have sw2 := hB.lt
      have hvb : ∀ b, v.ownBlock = some b → w1.heap.size + 1 + 1 ≤ b ∧ b < w2.heap.size := fun b hb => hO.lt b hb
      clear hb2 hOld m0 m1 l0 lS lC lB hcall
      go_wp2
      refine wp_region_any (by kernel_rfl) ?_
      change wpAny _ _ _ _ _ _ _ (World.drew _)
      refine intro_world (fun WD hWD => ?_)
      have hH : BoxAt WD w2.heap.size #[.int .u64 (lo q), .int .u64 (hi q)] 53 := by rw [hWD]; exact BoxAt.new' rfl
      have eD : Ext w2 WD := by rw [hWD]; exact ((Ext.refl _).alloc _).drew
      have sD : w2.heap.size < WD.heap.size := hH.lt
      clear hWD
      have hC := hC.ext eD
      have hB := hB.ext eD
      have hO := hO.ext eD
      have hw3 := hw2.trans eD
      clear eD
      have c0 : WD.cell? ⟨w1.heap.size, 0, none⟩ = some v := hC.cell 0
      have h0 : WD.cell? ⟨w2.heap.size, 0, none⟩ = some (.int .u64 (lo q)) := hH.cell 0
      have h1 : WD.cell? ⟨w2.heap.size, 1, none⟩ = some (.int .u64 (hi q)) := hH.cell 1
      have lC := hC.lt
      refine wpAny_take (i := 0) (v := ?_) rfl (by kernel_rfl) (by kernel_rfl) (by kernel_rfl) (fun _ _ _ h => h) (Or.inl ⟨by rfl, ?_⟩) ?_
      rotate_left
      · (intro W9; go_simp; try with_reducible rfl)
      refine wpAny_take (i := 1) (v := ?_) rfl (by kernel_rfl) (by kernel_rfl) (by kernel_rfl) (fun _ _ _ h => h) (Or.inl ⟨by rfl, ?_⟩) ?_
      rotate_left
      · (intro W9; go_simp; try with_reducible rfl)
      refine wpAny_take (i := 2) (v := ?_) rfl (by kernel_rfl) (by kernel_rfl) (by kernel_rfl) (fun _ _ _ h => h) (Or.inl ⟨by rfl, ?_⟩) ?_
      rotate_left
      · (intro W9; go_simp; try with_reducible rfl)
      refine wpAny_take (i := 3) (v := ?_) rfl (by kernel_rfl) (by kernel_rfl) (by kernel_rfl) (fun _ _ _ h => h) (Or.inl ⟨by rfl, ?_⟩) ?_
      rotate_left
      · (intro W9; go_simp; try with_reducible rfl)
      apply Conv.conv (C := fun W => W = WD.alloc (.cells #[.int .u64 (lo q), .int .u64 (hi q)] 53))
      case h =>
        intro hkC
        refine wpAny_ready (rs := [4, 5]) (by kernel_rfl) (by simp) ?_
        refine AllReady.cons rfl (fun K hK => ?_) (AllReady.cons rfl (fun K hK => ?_) (AllReady.nil))
        · go_simp
          refine hK _ _ ?_
          clear hK K
          refine wpAny_ready (rs := [5]) (by kernel_rfl) (by simp) ?_
          refine AllReady.cons rfl (fun K hK => ?_) (AllReady.nil)
          · go_simp
            refine hK _ _ ?_
            clear hK K
            refine wpAny_ready (rs := [6]) (by kernel_rfl) (by simp) ?_
            refine AllReady.cons rfl (fun K hK => ?_) (AllReady.nil)
            · go_simp
              refine hK _ _ ?_
              clear hK K
              exact hkC _ (rfl)
        · go_simp
          refine hK _ _ ?_
          clear hK K
          refine wpAny_ready (rs := [4, 6]) (by kernel_rfl) (by simp) ?_
          refine AllReady.cons rfl (fun K hK => ?_) (AllReady.cons rfl (fun K hK => ?_) (AllReady.nil))
          · go_simp
            refine hK _ _ ?_
            clear hK K
            refine wpAny_ready (rs := [6]) (by kernel_rfl) (by simp) ?_
            refine AllReady.cons rfl (fun K hK => ?_) (AllReady.nil)
            · go_simp
              refine hK _ _ ?_
              clear hK K
              exact hkC _ (rfl)
          · go_simp
            refine hK _ _ ?_
            clear hK K
            refine wpAny_ready (rs := [4]) (by kernel_rfl) (by simp) ?_
            refine AllReady.cons rfl (fun K hK => ?_) (AllReady.nil)
            · go_simp
              refine hK _ _ ?_
              clear hK K
              exact hkC _ (rfl)
      intro W5 hW5
      have e5 : Ext WD W5 := by rw [hW5]; exact (Ext.refl _).alloc _
      have hL : Rd encMask W5 (some ⟨WD.heap.size, 0, none⟩) [q] := by rw [hW5]; exact Rd.lit encMask _ [q] _ _ (by simp) rfl
      clear hW5 c0 h0 h1 lC
      have hC := hC.ext e5
      have hB := hB.ext e5
      have hH := hH.ext e5
      have hO := hO.ext e5
      have hw5 := hw3.trans e5
      have hs5 := hw5.size
      clear e5
      refine wpAny_ready (rs := [7]) (by kernel_rfl) (by simp) ?_
      refine AllReady.cons rfl (fun K hK => ?_) ?_
      rotate_left
      · exact AllReady.nil
      refine step_addAll (w0 := w1) (base := w1.heap.size + 1 + 1) encMask (by rfl) _ _ 27 (.agg #[.int .u64 0, .int .u64 0]) 16 (by rfl) Tryd.underlying27 info_Mask (by rfl) [q] ⟨WD.heap.size, 0, none⟩ 1 (by rfl) (by rfl) hL hO (by have := hB.lt; omega) (by omega) hw5 (by simp; omega) (by simp; omega) ?_
      intro v6 W6 hO6 hE6 hg6 ho6
      refine hK _ _ ?_
      clear hK K hL
      have hC6 : BoxAt W6 w1.heap.size #[v, .int .u64 (lo T), .int .u64 (hi T), .int .i64 0, .bool false] 85 := (hg6.block _ hC.lt (fun e => by have := (hvb _ e.symm).1; omega)).trans hC
      have hB6 : BoxAt W6 (w1.heap.size + 1) #[.int .u64 (lo a), .int .u64 (hi a)] 53 := (hg6.block _ hB.lt (fun e => by have := (hvb _ e.symm).1; omega)).trans hB
      have hH6 : BoxAt W6 w2.heap.size #[.int .u64 (lo q), .int .u64 (hi q)] 53 := (hg6.block _ hH.lt (fun e => by have := (hvb _ e.symm).2; omega)).trans hH
      obtain ⟨A6, c6, rfl, _, _⟩ := hO6.slice
      rw [List.length_append, List.length_singleton] at hO6
      have hne6 : (Value.slice A6 (ys.length + 1) c6).ownBlock ≠ some w1.heap.size := fun e => by have := (hO6.lt _ e).1; omega
      have f0 := hC6.frozen 0
      have c0 : W6.cell? ⟨w1.heap.size, 0, none⟩ = some v := hC6.cell 0
      have lC := hC6.lt
      clear hC hB hH hO hg6
      refine wpAny_take (i := 8) (v := ?_) rfl (by kernel_rfl) (by kernel_rfl) (by kernel_rfl) (fun _ _ _ h => h) (Or.inl ⟨by rfl, ?_⟩) ?_
      rotate_left
      · (intro W9; go_simp; try with_reducible rfl)
      refine wpAny_take (i := 9) (v := ?_) rfl (by kernel_rfl) (by kernel_rfl) (by kernel_rfl) (fun _ _ _ h => h) (Or.inl ⟨by rfl, ?_⟩) ?_
      rotate_left
      · (intro W9; go_simp; try with_reducible rfl)
      refine wpAny_ready (rs := [10]) (by kernel_rfl) (by simp) ?_
      refine AllReady.cons rfl (fun K hK => ?_) ?_
      rotate_left
      · exact AllReady.nil
      go_simp
      refine hK _ _ ?_
      clear hK K
      refine wpAny_done (by kernel_rfl) ?_ _
      refine intro_world (fun W7 hW7 => ?_)
      have hC7 : BoxAt W7 w1.heap.size #[(.slice A6 (ys.length + 1) c6), .int .u64 (lo T), .int .u64 (hi T), .int .i64 0, .bool false] 85 := by rw [hW7]; exact hC6.set 0 _
      have hB7 : BoxAt W7 (w1.heap.size + 1) #[.int .u64 (lo a), .int .u64 (hi a)] 53 := by rw [hW7]; exact hB6.setOther (by simp) _
      have hH7 : BoxAt W7 w2.heap.size #[.int .u64 (lo q), .int .u64 (hi q)] 53 := by rw [hW7]; exact hH6.setOther (by simp; omega) _
      have hO7 : Ow encMask 53 W7 (w1.heap.size + 1 + 1) (.slice A6 (ys.length + 1) c6) (ys ++ [q]) := by rw [hW7]; exact hO6.far hne6 _
      have hw7 : Ext w1 W7 := by rw [hW7]; exact Ext.set (Nat.le_refl _) hE6 _
      clear hW7 hC6 hB6 hH6 hO6 hE6 f0 c0 lC
      have d0 : W7.cell? ⟨w1.heap.size + 1, 0, none⟩ = some (.int .u64 (lo a)) := hB7.cell 0
      have d1 : W7.cell? ⟨w1.heap.size + 1, 1, none⟩ = some (.int .u64 (hi a)) := hB7.cell 1
      have h0 : W7.cell? ⟨w2.heap.size, 0, none⟩ = some (.int .u64 (lo q)) := hH7.cell 0
      have h1 : W7.cell? ⟨w2.heap.size, 1, none⟩ = some (.int .u64 (hi q)) := hH7.cell 1
      have lB := hB7.lt
      have lH := hH7.lt
      go_wp2_with fail
      refine Calls.mono (spec_JoinMasks a q _) ?_
      rintro e w8 ⟨rfl, hb8⟩
      have hB8 := hB7.ext hb8
      have f0 := hB8.frozen 0
      have f1 := hB8.frozen 1
      have hC8 := hC7.ext hb8
      have hO8 := hO7.ext hb8
      have hw8 := hw7.trans hb8
      have d0 : w8.cell? ⟨w1.heap.size + 1, 0, none⟩ = some (.int .u64 (lo a)) := hB8.cell 0
      have d1 : w8.cell? ⟨w1.heap.size + 1, 1, none⟩ = some (.int .u64 (hi a)) := hB8.cell 1
      have lB := hB8.lt
      clear hb8 hB7 hC7 hO7 hw7
      have hne8 : (Value.slice A6 (ys.length + 1) c6).ownBlock ≠ some (w1.heap.size + 1) := fun e => by have := (hO8.lt _ e).1; omega
      go_wp2
      go_roundg (ls.length - (k + 1))
      case rel => exact ⟨k + 1, mjoin a q, (.slice A6 (ys.length + 1) c6), rfl, hkl, rfl, hd (by rw [hnext.out, ha.out]), Ext.set (by dsimp only; omega) (Ext.set (by dsimp only; omega) hw8 _) _, (hC8.setOther (by simp) _).setOther (by simp) _, (hB8.set 0 _).set 1 _, by rw [hsnoc.out]; exact (hO8.far hne8 _).far hne8 _⟩
      case measure => omega
    · obtain rfl : k = ls.length := by omega
      have hv := ha.out.symm.trans hall
      subst hv
      rw [hall2] at hO
      have hne : v.ownBlock ≠ some w1.heap.size := fun e => by have := (hO.lt _ e).1; omega
      go_wp2
      refine wp_region_ext (by kernel_rfl) (by kernel_rfl) ?_
      repeat (first | go_big_quiet_step (fail) | quiet_step (fail))
      refine wpQuiet_nil ?_
      intro w9 hq9
      have hb9 := ext_of_class hq9
      clear hq9
      obtain ⟨hc9, hf9, hz9⟩ := bcell3 hb9
      try simp at hz9
      go_wp2
      refine bodyPost_ret (v := .tuple #[.pointer (some ⟨w1.heap.size, 0, none⟩), .bool (meqB a T)]) (by simp [results, Tryd.results59, go_sem]) rfl ⟨w1.heap.size, v, rfl, hC.ext hb9, (hO.ext hb9).lower (by omega), hne, by omega, hwr.trans hb9⟩
theorem rest_skip (hs : List Mask) (i : Nat) : restTo hs i (i + 1) = restTo hs i i := by rw [restTo, if_pos rfl]
theorem rest_next (hs : List Mask) (i k : Nat) (h : ¬ k = i) (hk : k < hs.length) : restTo hs i (k + 1) = mjoin (restTo hs i k) hs[k] := by rw [restTo, if_neg h, getD_at hs k hk]
set_option maxHeartbeats 2000000 in
theorem spec_SureWords (x : Mx) (hxi : MxIn x) (m : Mask) (vs : List ByteArray) (A : Option Addr) (cap : Nat) (w : World) (hR : Rd encStr w A vs) (hn : vs.length ≤ 1048576) (hok : ∀ x ∈ vs, StrIn x) :
    Calls Tryd.prog 31 #[.agg #[.int .i16 x.st, .int .i16 x.sz, .int .i16 x.per], .agg #[.int .u64 (lo m), .int .u64 (hi m)], .slice A vs.length cap] w fun e w' => ∃ v, e = .returned (.tuple #[v, .int .i64 (sureF x m vs).2]) ∧ Ow encI64 2 w' w.heap.size v (sureF x m vs).1 ∧ Ext w w' := by
  have hM0 : ∀ W, BoxAt W w.heap.size #[.int .i16 x.st, .int .i16 x.sz, .int .i16 x.per] 30 → MixAt W w.heap.size 0 x := fun W h => ⟨h.cell 0, h.cell 1, h.cell 2⟩
  have hask := fun (B : Option Addr) (W : World) (h : MixAt W w.heap.size 0 x) (hE : Ext w W) (hS : Rd encMask W B [m]) => spec_l03Asked x hxi w.heap.size 0 [m] B 1 vs A cap 40 W h hS (by simp) (hR.ext hE) hn hok
  have hmb := fun (hq : mixB x = true) (W : World) (h : MixAt W w.heap.size 0 x) (hE : Ext w W) => spec_l03Maybe x hq m vs A cap w.heap.size 0 W h (hR.ext hE) hn hok
  have hbg := fun (hq : mixB x = true) (B : Option Addr) (cap' : Nat) (W : World) (h : MixAt W w.heap.size 0 x) (hE : Ext w W) (hS : Rd encI64 W B (mbX x m vs)) (hm : (mbX x m vs).length ≤ 1048576) (hin : ∀ k ∈ mbX x m vs, 0 ≤ k ∧ k < vs.length) => spec_l03Begin x hq m vs A cap (mbX x m vs) B cap' w.heap.size 0 W h (hR.ext hE) hn hok hS hm hin
  have hno := sure_no (x := x) (m := m) (vs := vs)
  have hnone := sure_none (x := x) (m := m) (vs := vs)
  have hok1 := sure_ok (x := x) (m := m) (vs := vs)
  have hz := ask_zero (x := x) (ms := [m]) (ws := vs) (most := 40)
  have hmbl := mbX_len x m vs
  have hmbi : ∀ k ∈ mbX x m vs, 0 ≤ k ∧ k < vs.length := maybeTo_in x m vs vs.length
  rw [show maybeTo x m vs vs.length = mbX x m vs from rfl] at hmb
  have hhl : (hsL x vs (mbX x m vs)).length = (mbX x m vs).length := hsL_len _ _ _
  generalize mbX x m vs = mb at hmb hmbl hmbi hnone hok1 hbg hhl
  generalize askF x [m] vs 40 = c at hask hno hnone hok1 hz
  have e2 := eqA_Mask
  have hx := @ExtOf.cell
  by_cases hc : c = 0
  · subst hc
    have hmx := (hz rfl).1
    replace hmb := hmb hmx
    replace hbg := hbg hmx
    replace hnone := hnone rfl
    replace hok1 := hok1 rfl
    clear hno hz
    generalize wantX x m = T at hbg hnone hok1
    generalize hsL x vs mb = hs at hbg hnone hok1 hhl
    go_enter Tryd.func31, Tryd.ntmps31
    go_wp2_with fail
    refine Calls.mono (hask (some ⟨w.heap.size + 1 + 1, 0, none⟩) _ (hM0 _ (((BoxAt.new' rfl).alloc _).alloc _)) (by ((repeat (first | with_reducible exact Ext.refl _ | with_reducible exact hw | with_reducible exact hb9 | with_reducible exact hb8 | with_reducible exact hb7 | with_reducible exact hb6 | with_reducible exact hb5 | with_reducible exact hb4 | with_reducible exact hb3 | with_reducible exact hb2 | with_reducible exact hb1 | with_reducible refine Ext.alloc ?_ _ | with_reducible refine Ext.drew ?_ | ((with_reducible refine Ext.set ?_ ?_ _); focus (dsimp only; omega)) | with_reducible refine Ext.trans ?_ hb9 | with_reducible refine Ext.trans ?_ hb8 | with_reducible refine Ext.trans ?_ hb7 | with_reducible refine Ext.trans ?_ hb6 | with_reducible refine Ext.trans ?_ hb5 | with_reducible refine Ext.trans ?_ hb4 | with_reducible refine Ext.trans ?_ hb3 | with_reducible refine Ext.trans ?_ hb2 | with_reducible refine Ext.trans ?_ hb1 | with_reducible refine Ext.trans ?_ hw)))) (by simpa using Rd.lit encMask ((w.alloc (.cells #[.int .i16 x.st, .int .i16 x.sz, .int .i16 x.per] 30)).alloc (.cells #[.int .u64 (lo m), .int .u64 (hi m)] 53)) [m] #[.int .u64 (lo m), .int .u64 (hi m)] 53 (by simp) rfl)) ?_
    rintro e w1 ⟨rfl, hb1⟩
    have hX : BoxAt w1 w.heap.size #[.int .i16 x.st, .int .i16 x.sz, .int .i16 x.per] 30 := (((BoxAt.new' rfl).alloc _).alloc _).ext hb1
    have hM : BoxAt w1 (w.heap.size + 1) #[.int .u64 (lo m), .int .u64 (hi m)] 53 := ((BoxAt.new' (by simp)).alloc _).ext hb1
    have hw1 : Ext w w1 := ((((Ext.refl _).alloc _).alloc _).alloc _).trans hb1
    clear hb1
    have y0 : w1.cell? ⟨w.heap.size + 1, 0, none⟩ = some (.int .u64 (lo m)) := hM.cell 0
    have y1 : w1.cell? ⟨w.heap.size + 1, 1, none⟩ = some (.int .u64 (hi m)) := hM.cell 1
    have lM := hM.lt
    go_wp2_with fail
    refine Calls.mono (hmb _ (hM0 _ hX) hw1) ?_
    rintro e w2 ⟨v2, rfl, hO2, hb2⟩
    obtain ⟨B, capB, rfl, hleB, hRB⟩ := hO2.slice
    have hw2 := hw1.trans hb2
    have hX := hX.ext hb2
    have hM := hM.ext hb2
    clear y0 y1 lM hb2 hO2
    have y0 : w2.cell? ⟨w.heap.size + 1, 0, none⟩ = some (.int .u64 (lo m)) := hM.cell 0
    have y1 : w2.cell? ⟨w.heap.size + 1, 1, none⟩ = some (.int .u64 (hi m)) := hM.cell 1
    have lM := hM.lt
    go_wp2_with fail
    refine Calls.mono (hbg B capB _ (hM0 _ hX) hw2 hRB (by omega) hmbi) ?_
    rintro e w3 ⟨b3, v3, rfl, hC3, hO3, hne3, hb3l, hb3⟩
    have hw3 := hw2.trans hb3
    have hRB := hRB.ext hb3
    clear y0 y1 lM hb3 hM hX hM0 hask hmb hbg
    cases hq : meqB (joinL hs) T with
    | false =>
      have hv := hd (hnone hq)
      clear hnone hok1 hq
      go_wp2
      refine bodyPost_ret (v := .tuple #[.slice (some ⟨w3.heap.size, 0, none⟩) 0 0, .int .i64 6]) (by simp [results, Tryd.results31, go_sem]) rfl ⟨_, by rw [hv.out], by rw [hv.out]; exact Ow.made0 rfl hw3.size, hw3.alloc _⟩
    | true =>
      have hv := hd (hok1 hq)
      have hzero := sureTo_zero hs T mb
      have hhit0 := fun k (h : k < mb.length) => sureTo_hit (hs := hs) (T := T) h
      have hmiss0 := fun k => sureTo_miss (hs := hs) (T := T) (mb := mb) (k := k)
      have hlen := sureTo_len hs T mb
      have hrest := restTo_all hs
      rw [hhl] at hrest
      clear hnone hok1 hq
      obtain ⟨AH, capH, rfl, hleH, hRH⟩ := hO3.slice
      clear hO3 hne3
      rw [hhl] at hC3
      go_wp2
      go_loopg [12, 13] mb.length (fun g v i wr => ∃ k : Nat, g = mb.length - k ∧ k ≤ mb.length ∧ i = .int .i64 k ∧ Ext w3 wr ∧ Ow encI64 2 wr w3.heap.size v (sureTo hs T mb k))
      case atStart => exact ⟨0, by omega, by omega, rfl, (Ext.refl _).alloc _, by rw [hzero]; exact Ow.made0 rfl (Nat.le_refl _)⟩
      case round =>
        obtain ⟨k, hg, hk, rfl, hw, hO⟩ := hrel
        obtain ⟨wo, hwo⟩ : ∃ x, x = wr := ⟨_, rfl⟩
        subst hwo
        by_cases hkl : k < mb.length
        · have hskip := hd (rest_skip hs k)
          have hnx0 := fun j (h : ¬ j = k) (hj : j < hs.length) => hd (rest_next hs k j h hj)
          have hrk := hd (hrest k hkl)
          have hwo := hw3.trans hw
          have hlo := hO.lt
          have hl := hlen k
          go_wp2
          go_loopg [15] mb.length (fun g i wr2 => ∃ j : Nat, ∃ a : Mask, g = mb.length - j ∧ j ≤ mb.length ∧ i = .int .i64 j ∧ Hd (restTo hs k j = a) ∧ Ext wo wr2 ∧ BoxAt wr2 wo.heap.size #[.int .u64 (lo a), .int .u64 (hi a)] 53)
          case atStart => exact ⟨0, 0, by omega, by omega, rfl, hd rfl, by ((repeat (first | with_reducible exact Ext.refl _ | with_reducible exact hw | with_reducible exact hb9 | with_reducible exact hb8 | with_reducible exact hb7 | with_reducible exact hb6 | with_reducible exact hb5 | with_reducible exact hb4 | with_reducible exact hb3 | with_reducible exact hb2 | with_reducible exact hb1 | with_reducible refine Ext.alloc ?_ _ | with_reducible refine Ext.drew ?_ | ((with_reducible refine Ext.set ?_ ?_ _); focus (dsimp only; omega)) | with_reducible refine Ext.trans ?_ hb9 | with_reducible refine Ext.trans ?_ hb8 | with_reducible refine Ext.trans ?_ hb7 | with_reducible refine Ext.trans ?_ hb6 | with_reducible refine Ext.trans ?_ hb5 | with_reducible refine Ext.trans ?_ hb4 | with_reducible refine Ext.trans ?_ hb3 | with_reducible refine Ext.trans ?_ hb2 | with_reducible refine Ext.trans ?_ hb1 | with_reducible refine Ext.trans ?_ hw))), BoxAt.new' rfl⟩
          case round =>
            obtain ⟨j, a, hg2, hj, rfl, ha, hE, hB⟩ := hrel
            by_cases hjl : j < mb.length
            · by_cases hjk : j = k
              · have hjb : ((j : Int) != (k : Int)) = false := by simp; omega
                subst hjk
                go_wp2
                go_roundg (mb.length - (j + 1))
                case rel => exact ⟨j + 1, a, rfl, hjl, by simp, hd (by rw [hskip.out, ha.out]), hE, hB⟩
                case measure => omega
              · have hjb : ((j : Int) != (k : Int)) = true := by simp; omega
                have hnx := hnx0 j hjk (by omega)
                have hWE := hw.trans hE
                have hC := hC3.ext hWE
                obtain ⟨bH, oH, hH, hltH, _⟩ := hRH j (by omega)
                subst hH
                obtain ⟨m0, m1, m2⟩ := (hRH.ext hWE).mask j (by omega)
                have c0 : wr.cell? ⟨b3, 0, none⟩ = some (.slice (some ⟨bH, oH, none⟩) mb.length capH) := hC.cell 0
                have d0 : wr.cell? ⟨wo.heap.size, 0, none⟩ = some (.int .u64 (lo a)) := hB.cell 0
                have d1 : wr.cell? ⟨wo.heap.size, 1, none⟩ = some (.int .u64 (hi a)) := hB.cell 1
                have lC := hC.lt
                have lB := hB.lt
                generalize hs[j]'(by omega) = q at m0 m1 hnx
                go_wp2
                refine wp_region_ext_tail 9 9 (by kernel_rfl) (by kernel_rfl) (by intro d _ _ _ _ h; cases d <;> exact h) ?_
                simp only [List.take_succ_cons, List.take_zero, List.drop_succ_cons, List.drop_zero]
                repeat (first | go_big_quiet_step (((go_at_call 60; with_reducible exact Calls.ext_all (fun W _ => spec_JoinMasks a q W)))) | quiet_step (((go_at_call 60; with_reducible exact Calls.ext_all (fun W _ => spec_JoinMasks a q W)))))
                refine wpQuiet_nil ?_
                intro w5 hq5
                have hb5 := ext_of_class hq5
                clear hq5
                obtain ⟨hc5, hf5, hz5⟩ := bcell3 hb5
                try simp at hz5
                have hB5 := hB.ext hb5
                have f0 := hB5.frozen 0
                have f1 := hB5.frozen 1
                have d0 : w5.cell? ⟨wo.heap.size, 0, none⟩ = some (.int .u64 (lo a)) := hB5.cell 0
                have d1 : w5.cell? ⟨wo.heap.size, 1, none⟩ = some (.int .u64 (hi a)) := hB5.cell 1
                have lB := hB5.lt
                have hE5 := hE.trans hb5
                clear hc5 hf5 hz5 hb5
                go_wp2
                go_roundg (mb.length - (j + 1))
                case rel => exact ⟨j + 1, mjoin a q, rfl, hjl, by simp, hd (by rw [hnx.out, ha.out]), Ext.set (Nat.le_refl _) (Ext.set (Nat.le_refl _) hE5 _) _, (hB5.set 0 _).set 1 _⟩
                case measure => omega
            · obtain rfl : j = mb.length := by omega
              have hja := hd (hrk.out.symm.trans ha.out)
              have hWE := hw.trans hE
              have hC := hC3.ext hWE
              have hO2 := hO.ext hE
              have c1 : wr.cell? ⟨b3, 1, none⟩ = some (.int .u64 (lo T)) := hC.cell 1
              have c2 : wr.cell? ⟨b3, 2, none⟩ = some (.int .u64 (hi T)) := hC.cell 2
              have d0 : wr.cell? ⟨wo.heap.size, 0, none⟩ = some (.int .u64 (lo a)) := hB.cell 0
              have d1 : wr.cell? ⟨wo.heap.size, 1, none⟩ = some (.int .u64 (hi a)) := hB.cell 1
              have lC := hC.lt
              have lB := hB.lt
              have e1 := lohi_meq a T
              have hhit := fun q => hd (hhit0 k hkl q)
              have hmiss := fun q => hd (hmiss0 k q)
              rw [hja.out] at hhit hmiss
              obtain ⟨bB, oB, hB2, hltB, _⟩ := hRB k hkl
              subst hB2
              have l1 := (hRB.ext hWE).i64 k hkl
              have lS := World.block_lt_of_cell? _ _ l1
              dsimp only at lS
              cases hq : meqB a T with
              | false =>
                have hv1 := hhit hq
                rw [hq] at e1
                clear hhit hmiss hq ha hja
                go_wp2
                refine wp_region_ext (by kernel_rfl) (by kernel_rfl) ?_
                repeat (first | go_big_quiet_step (fail) | quiet_step (fail))
                refine wpQuiet_nil ?_
                intro w9 hq9
                have hb9 := ext_of_class hq9
                clear hq9
                obtain ⟨hc9, hf9, hz9⟩ := bcell3 hb9
                try simp at hz9
                have hO9 := hO2.ext hb9
                have hW9 := hWE.trans hb9
                have l2 := hb9.cell l1
                have lS2 := Nat.lt_of_lt_of_le lS hb9.size
                clear hc9 hf9 hz9 hb9 c1 c2 d0 d1 lC lB l1 lS
                go_wp2_with (at_builtin; refine wpList_push2 (w0 := w3) (base := w3.heap.size) (xs := sureTo hs T mb k) encI64 (by rfl) _ _ 41 (.int .i64 0) 8 (by rfl) Tryd.underlying41 info_i64 (by rfl) (mb[k]) (by rfl) (by rfl) (by simp) (hO9) ((hW9 : Ext w3 _).size) (Nat.le_refl _) (hW9) (by omega) (by omega) ?_)
                intro v10 w10 hO10 hb10 hg10 _
                go_wp2
                go_roundg (mb.length - (k + 1))
                case rel => exact ⟨k + 1, rfl, hkl, by simp, hb10, by rw [hv1.out]; exact hO10⟩
                case measure => omega
              | true =>
                have hv1 := hmiss hq
                rw [hq] at e1
                clear hhit hmiss hq ha hja
                go_wp2
                refine wp_region_ext (by kernel_rfl) (by kernel_rfl) ?_
                repeat (first | go_big_quiet_step (fail) | quiet_step (fail))
                refine wpQuiet_nil ?_
                intro w9 hq9
                have hb9 := ext_of_class hq9
                clear hq9
                obtain ⟨hc9, hf9, hz9⟩ := bcell3 hb9
                try simp at hz9
                go_wp2
                go_roundg (mb.length - (k + 1))
                case rel => exact ⟨k + 1, rfl, hkl, by simp, hWE.trans hb9, by rw [hv1.out]; exact hO2.ext hb9⟩
                case measure => omega
        · obtain rfl : k = mb.length := by omega
          go_wp2
          refine bodyPost_ret (v := .tuple #[_, .int .i64 0]) (by simp [results, Tryd.results31, go_sem]; rfl) rfl ⟨_, by rw [hv.out], by rw [hv.out]; exact hO.lower hw3.size, hw3.trans hw⟩
  · have hv := hd (hno hc)
    have hcb : (c != 0) = true := by simp [hc]
    clear hno hz hnone hok1
    go_enter Tryd.func31, Tryd.ntmps31
    go_wp2_with fail
    refine Calls.mono (hask (some ⟨w.heap.size + 1 + 1, 0, none⟩) _ (hM0 _ (((BoxAt.new' rfl).alloc _).alloc _)) (by ((repeat (first | with_reducible exact Ext.refl _ | with_reducible exact hw | with_reducible exact hb9 | with_reducible exact hb8 | with_reducible exact hb7 | with_reducible exact hb6 | with_reducible exact hb5 | with_reducible exact hb4 | with_reducible exact hb3 | with_reducible exact hb2 | with_reducible exact hb1 | with_reducible refine Ext.alloc ?_ _ | with_reducible refine Ext.drew ?_ | ((with_reducible refine Ext.set ?_ ?_ _); focus (dsimp only; omega)) | with_reducible refine Ext.trans ?_ hb9 | with_reducible refine Ext.trans ?_ hb8 | with_reducible refine Ext.trans ?_ hb7 | with_reducible refine Ext.trans ?_ hb6 | with_reducible refine Ext.trans ?_ hb5 | with_reducible refine Ext.trans ?_ hb4 | with_reducible refine Ext.trans ?_ hb3 | with_reducible refine Ext.trans ?_ hb2 | with_reducible refine Ext.trans ?_ hb1 | with_reducible refine Ext.trans ?_ hw)))) (by simpa using Rd.lit encMask ((w.alloc (.cells #[.int .i16 x.st, .int .i16 x.sz, .int .i16 x.per] 30)).alloc (.cells #[.int .u64 (lo m), .int .u64 (hi m)] 53)) [m] #[.int .u64 (lo m), .int .u64 (hi m)] 53 (by simp) rfl)) ?_
    rintro e w1 ⟨rfl, hb1⟩
    have hw1 : Ext w w1 := ((((Ext.refl _).alloc _).alloc _).alloc _).trans hb1
    go_wp2
    refine bodyPost_ret (v := .tuple #[.slice (some ⟨w1.heap.size, 0, none⟩) 0 0, .int .i64 c]) (by simp [results, Tryd.results31, go_sem]) rfl ⟨_, by rw [hv.out], by rw [hv.out]; exact Ow.made0 rfl hw1.size, hw1.alloc _⟩
end Go.Proofs.YtbmompanhigmnaaDoor
