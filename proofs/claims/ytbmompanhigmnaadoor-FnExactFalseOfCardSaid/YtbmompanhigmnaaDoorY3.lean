/-
  Contracts of FalseOf, program's and reference's.
-/
import Derived.Test.YtbmompanhigmnaaDoorY2
set_option linter.unusedVariables false
set_option linter.unusedSimpArgs false
set_option maxRecDepth 100000
namespace Go.Proofs.YtbmompanhigmnaaDoor
open Go.RowKit
theorem filter_take (p : Int → Bool) (xs : List Int) (k : Nat) (h : k < xs.length) : (xs.take (k + 1)).filter p = if p xs[k] = true then (xs.take k).filter p ++ [xs[k]] else (xs.take k).filter p := by
  rw [List.take_succ_eq_append_getElem h, List.filter_append, List.filter_cons, List.filter_nil]
  split
  · rfl
  · rw [List.append_nil]
theorem filter_len (p : Int → Bool) (xs : List Int) (k : Nat) : ((xs.take k).filter p).length ≤ k := by
  have h1 := List.length_filter_le p (xs.take k)
  have h2 : (xs.take k).length ≤ k := by rw [List.length_take]; omega
  omega
set_option maxHeartbeats 2000000 in
theorem spec_l03False (x : Mx) (hmx : mixB x = true) (lot : List (List ByteArray)) (A : Option Addr) (cap : Nat) (ms : List Mask) (hms : ms = masksL x lot) (C : Option Addr) (nC capC : Nat) (hnC : nC = lot.length) (ws : List ByteArray) (B : Option Addr) (nB capB : Nat) (hnB : nB = ws.length) (b0 o0 : Nat) (w : World) (hM : MixAt w b0 o0 x) (hR : RdL w A lot) (hn : lot.length ≤ 1048576) (hll : ∀ l ∈ lot, l.length ≤ 1048576) (hC : Rd encMask w C ms) (hS : Rd encStr w B ws) (hm : ws.length ≤ 1048576) (hok : ∀ x ∈ ws, StrIn x) :
    Calls Tryd.prog 68 #[.pointer (some ⟨b0, o0, none⟩), .slice A lot.length cap, .slice C nC capC, .slice B nB capB] w fun e w' => ∃ v, e = .returned v ∧ Ow encI64 2 w' w.heap.size v (falseL x lot ws) ∧ Ext w w' := by
  subst hnC
  subst hnB
  have hml : ms.length = lot.length := by rw [hms, masksL_len]
  have hres := false_spec x lot ws
  rw [← hms] at hres
  clear hms
  have htr := fun (W : World) (hE : Ext w W) => spec_l03True lot A cap ws B capB W (hR.ext hE) hn hll (hS.ext hE) hm
  have hal := fun (W : World) (hE : Ext w W) => spec_l03All x hmx ws B capB b0 o0 W (hM.ext hE) (hS.ext hE) hm hok
  have hdr := fun (W : World) (hE : Ext w W) => spec_l03Dropped (wallM x ws) ms C capC W (hC.ext hE) (by omega)
  rw [hml] at hdr
  have hdl := droppedL_len (wallM x ws) ms lot.length
  have htl := trueL_len lot ws lot.length
  generalize droppedL (wallM x ws) ms lot.length = L at hres hdr hdl
  generalize trueL lot ws lot.length = O at hres htr htl
  generalize wallM x ws = h at hal hdr
  have htk := fun k (h : k < L.length) => filter_take (fun v => !O.contains v) L k h
  have hfl := fun k => filter_len (fun v => !O.contains v) L k
  have hall : (L.take L.length).filter (fun v => !O.contains v) = falseL x lot ws := by rw [List.take_length, hres]
  generalize falseL x lot ws = r at hall ⊢
  clear hres
  go_enter Tryd.func68, Tryd.ntmps68
  go_wp2_with fail
  refine Calls.mono (htr _ (Ext.refl _)) ?_
  rintro e w1 ⟨v1, rfl, hO1, hb1⟩
  obtain ⟨A1, cap1, rfl, hle1, hR1⟩ := hO1.slice
  clear hO1
  go_wp2_with fail
  refine Calls.mono (hal _ hb1) ?_
  rintro e w2 ⟨rfl, hb2⟩
  have hw2 := hb1.trans hb2
  have hR1 := hR1.ext hb2
  go_wp2_with fail
  refine Calls.mono (hdr _ hw2) ?_
  rintro e w3 ⟨v3, rfl, hO3, hb3⟩
  obtain ⟨A3, cap3, rfl, hle3, hR3⟩ := hO3.slice
  have hw3 := hw2.trans hb3
  have hR1 := hR1.ext hb3
  clear hO3 hb1 hb2 hb3 hw2 htr hal hdr
  go_wp2
  go_loopg [11, 12] L.length (fun g v i wr => ∃ k : Nat, g = L.length - k ∧ k ≤ L.length ∧ i = .int .i64 k ∧ Ext w3 wr ∧ Ow encI64 2 wr w3.heap.size v ((L.take k).filter (fun v => !O.contains v)))
  case atStart => exact ⟨0, by omega, by omega, rfl, (Ext.refl _).alloc _, by rw [List.take_zero]; exact Ow.made0 rfl (Nat.le_refl _)⟩
  case round =>
    obtain ⟨k, hg, hk, rfl, hw, hO⟩ := hrel
    by_cases hkl : k < L.length
    · obtain ⟨b, off, hA, hlt, _⟩ := hR3 k hkl
      subst hA
      have m0 := (hR3.ext hw).i64 k hkl
      have m1 := World.block_lt_of_cell? _ _ m0
      dsimp only at m1
      have hsu := htk k hkl
      have hl := hfl k
      have hcall := fun (W : World) (hE : Ext wr W) => spec_l00Has O A1 _ cap1 rfl L[k] W ((hR1.ext hw).ext hE) (by omega)
      generalize hys : (L.take k).filter (fun v => !O.contains v) = ys at hO hsu hl
      clear hys
      cases hq : O.contains L[k] with
      | true =>
        rw [hq] at hcall
        rw [hq] at hsu
        have hsu := hd hsu
        clear hq
        go_wp2_with fail
        refine Calls.mono (hcall _ (Ext.refl _)) ?_
        rintro e w5 ⟨rfl, hb5⟩
        go_wp2
        go_roundg (L.length - (k + 1))
        case rel => exact ⟨k + 1, rfl, hkl, by simp, hw.trans hb5, by rw [hsu.out]; exact hO.ext hb5⟩
        case measure => omega
      | false =>
        rw [hq] at hcall
        rw [hq] at hsu
        have hsu := hd hsu
        clear hq
        go_wp2_with fail
        refine Calls.mono (hcall _ (Ext.refl _)) ?_
        rintro e w5 ⟨rfl, hb5⟩
        have hO5 := hO.ext hb5
        have hw5 := hw.trans hb5
        have m0 := hb5.cell m0
        have m1 := World.block_lt_of_cell? _ _ m0
        dsimp only at m1
        clear hO hb5
        go_wp2_with (at_builtin; refine wpList_push2 (w0 := w3) (base := w3.heap.size) (xs := ys) encI64 (by rfl) _ _ 41 (.int .i64 0) 8 (by rfl) Tryd.underlying41 info_i64 (by rfl) (L[k]) (by rfl) (by rfl) (by simp) (hO5) ((hw5 : Ext w3 _).size) (Nat.le_refl _) (hw5) (by omega) (by omega) ?_)
        intro v6 w6 hO6 hb6 hg6 _
        go_wp2
        go_roundg (L.length - (k + 1))
        case rel => exact ⟨k + 1, rfl, hkl, by simp, hb6, by rw [hsu.out]; exact hO6⟩
        case measure => omega
    · obtain rfl : k = L.length := by omega
      rw [hall] at hO
      go_wp2
      go_ret
      exact ⟨_, rfl, hO.lower hw3.size, hw3.trans hw⟩
set_option maxHeartbeats 2000000 in
theorem spec_FalseOf (x : Mx) (hxi : MxIn x) (lot : List (List ByteArray)) (A : Option Addr) (cap : Nat) (ws : List ByteArray) (B : Option Addr) (capB : Nat) (w : World) (hR : RdL w A lot) (hn : lot.length ≤ 1048576) (hll : ∀ l ∈ lot, l.length ≤ 1048576) (hokL : ∀ l ∈ lot, ∀ x ∈ l, StrIn x) (hS : Rd encStr w B ws) (hm : ws.length ≤ 1048576) (hok : ∀ x ∈ ws, StrIn x) :
    Calls Tryd.prog 34 #[.agg #[.int .i16 x.st, .int .i16 x.sz, .int .i16 x.per], .slice A lot.length cap, .slice B ws.length capB] w fun e w' => ∃ v, e = .returned (.tuple #[v, .int .i64 (falseF x lot ws).2]) ∧ Ow encI64 2 w' w.heap.size v (falseF x lot ws).1 ∧ Ext w w' := by
  have hM0 : ∀ W, BoxAt W w.heap.size #[.int .i16 x.st, .int .i16 x.sz, .int .i16 x.per] 30 → MixAt W w.heap.size 0 x := fun W h => ⟨h.cell 0, h.cell 1, h.cell 2⟩
  have h1 := fun (W : World) (hE : Ext w W) => spec_MixLot x hxi lot A cap W (hR.ext hE) hn hll hokL
  have h2 := fun (W : World) (hE : Ext w W) => spec_l03Words ws B capB 12 W (hS.ext hE) hm hok
  have k1 := false_bad (x := x) (lot := lot) (ws := ws)
  have k2 := false_far (x := x) (lot := lot) (ws := ws)
  have k3 := false_ok (x := x) (lot := lot) (ws := ws)
  have hX0 : BoxAt (w.alloc (.cells #[.int .i16 x.st, .int .i16 x.sz, .int .i16 x.per] 30)) w.heap.size #[.int .i16 x.st, .int .i16 x.sz, .int .i16 x.per] 30 := BoxAt.new' rfl
  have hE0 : Ext w (w.alloc (.cells #[.int .i16 x.st, .int .i16 x.sz, .int .i16 x.per] 30)) := (Ext.refl _).alloc _
  cases hq : mixB x with
  | false =>
    have hv := hd (k1 hq)
    rw [mixLot_bad hq] at h1
    dsimp only at h1
    clear k1 k2 k3 h2
    go_enter Tryd.func34, Tryd.ntmps34
    go_wp2_with fail
    refine Calls.mono (h1 _ hE0) ?_
    rintro e w1 ⟨v1, rfl, hO1, hb1⟩
    have hw1 := hE0.trans hb1
    go_wp2
    refine bodyPost_ret (v := .tuple #[.slice (some ⟨w1.heap.size, 0, none⟩) 0 0, .int .i64 1]) (by simp [results, Tryd.results34, go_sem]) rfl ⟨_, by rw [hv.out], by rw [hv.out]; exact Ow.made0 rfl hw1.size, hw1.alloc _⟩
  | true =>
    cases hl : lotB lot with
    | false =>
      have hv := hd (k2 hq (by rw [hl]; rfl))
      rw [mixLot_far hq hl] at h1
      dsimp only at h1
      clear k1 k2 k3 h2
      go_enter Tryd.func34, Tryd.ntmps34
      go_wp2_with fail
      refine Calls.mono (h1 _ hE0) ?_
      rintro e w1 ⟨v1, rfl, hO1, hb1⟩
      have hw1 := hE0.trans hb1
      go_wp2
      refine bodyPost_ret (v := .tuple #[.slice (some ⟨w1.heap.size, 0, none⟩) 0 0, .int .i64 2]) (by simp [results, Tryd.results34, go_sem]) rfl ⟨_, by rw [hv.out], by rw [hv.out]; exact Ow.made0 rfl hw1.size, hw1.alloc _⟩
    | true =>
      rw [mixLot_ok hq hl] at h1
      dsimp only at h1
      cases hw : wordsB ws 12 with
      | false =>
        have hv := hd (k2 hq (by rw [hl, hw]; rfl))
        rw [wordsF_bad hw] at h2
        clear k1 k2 k3
        go_enter Tryd.func34, Tryd.ntmps34
        go_wp2_with fail
        refine Calls.mono (h1 _ hE0) ?_
        rintro e w1 ⟨v1, rfl, hO1, hb1⟩
        have hw1 := hE0.trans hb1
        go_wp2_with fail
        refine Calls.mono (h2 _ hw1) ?_
        rintro e w2 ⟨rfl, hb2⟩
        have hw2 := hw1.trans hb2
        go_wp2
        refine bodyPost_ret (v := .tuple #[.slice (some ⟨w2.heap.size, 0, none⟩) 0 0, .int .i64 2]) (by simp [results, Tryd.results34, go_sem]) rfl ⟨_, by rw [hv.out], by rw [hv.out]; exact Ow.made0 rfl hw2.size, hw2.alloc _⟩
      | true =>
        have hv := hd (k3 hq (by rw [hl, hw]; rfl))
        rw [wordsF_ok hw] at h2
        clear k1 k2 k3
        have h3 := fun (C : Option Addr) (capC : Nat) (W : World) (h : MixAt W w.heap.size 0 x) (hE : Ext w W) (hC : Rd encMask W C (masksL x lot)) => spec_l03False x hq lot A cap _ rfl C (masksL x lot).length capC (masksL_len x lot) ws B _ capB rfl w.heap.size 0 W h (hR.ext hE) hn hll hC (hS.ext hE) hm hok
        generalize falseL x lot ws = r at h3 hv
        go_enter Tryd.func34, Tryd.ntmps34
        go_wp2_with fail
        refine Calls.mono (h1 _ hE0) ?_
        rintro e w1 ⟨v1, rfl, hO1, hb1⟩
        obtain ⟨C, capC, rfl, hleC, hRC⟩ := hO1.slice
        have hw1 := hE0.trans hb1
        have hX := hX0.ext hb1
        go_wp2_with fail
        refine Calls.mono (h2 _ hw1) ?_
        rintro e w2 ⟨rfl, hb2⟩
        have hw2 := hw1.trans hb2
        have hX := hX.ext hb2
        have hRC := hRC.ext hb2
        go_wp2_with fail
        refine Calls.mono (h3 C capC _ (hM0 _ hX) hw2 hRC) ?_
        rintro e w3 ⟨v3, rfl, hO3, hb3⟩
        go_wp2
        refine bodyPost_ret (v := .tuple #[v3, .int .i64 0]) (by simp [results, Tryd.results34, go_sem]) rfl ⟨_, by rw [hv.out], by rw [hv.out]; exact hO3.lower hw2.size, hw2.trans hb3⟩
set_option maxHeartbeats 2000000 in
theorem impl_falseOf (x : Mx) (hmx : mixB x = true) (lot : List (List ByteArray)) (A : Option Addr) (cap : Nat) (ws : List ByteArray) (B : Option Addr) (capB : Nat) (w : World) (hR : RdL w A lot) (hn : lot.length ≤ 1048576) (hll : ∀ l ∈ lot, l.length ≤ 1048576) (hokL : ∀ l ∈ lot, ∀ x ∈ l, StrIn x) (hS : Rd encStr w B ws) (hm : ws.length ≤ 1048576) (hok : ∀ x ∈ ws, StrIn x) :
    Calls Tryd.prog 70 #[.agg #[.int .i16 x.st, .int .i16 x.sz, .int .i16 x.per], .slice A lot.length cap, .slice B ws.length capB] w fun e w' => ∃ v, e = .returned v ∧ Ow encI64 2 w' w.heap.size v (falseL x lot ws) ∧ Ext w w' := by
  have hal := fun (W : World) (hE : Ext w W) => impl_holesOf x hmx ws B capB W (hS.ext hE) hm hok
  have hho := fun k (h : k < lot.length) (B1 : Option Addr) (c : Nat) (W : World) (hB : Rd encStr W B1 lot[k]) => impl_holesOf x hmx lot[k] B1 c W hB (hll _ (List.getElem_mem h)) (hokL _ (List.getElem_mem h))
  have hhit0 := fun k (h : k < lot.length) => falseTo_hit (x := x) (ws := ws) h
  have hmissA := fun k (h : k < lot.length) => falseTo_miss1 (x := x) (ws := ws) h
  have hmissB := fun k (h : k < lot.length) => falseTo_miss2 (x := x) (ws := ws) h
  have hz := falseTo_zero x lot ws
  have hall := falseTo_all x lot ws
  have hlen := falseTo_len x lot ws
  generalize falseL x lot ws = r at hall ⊢
  generalize wallM x ws = hh at hal hhit0 hmissA
  obtain ⟨st, sz, per⟩ := x
  dsimp only at hal hho
  have hE0 : Ext w ((w.alloc (.cells #[.int .i16 st, .int .i16 sz, .int .i16 per] 30)).alloc (.cells #[] 2)) := ((Ext.refl _).alloc _).alloc _
  have hx := @ExtOf.cell
  go_enter Tryd.func70, Tryd.ntmps70
  go_wp2_with fail
  refine Calls.mono (hal _ hE0) ?_
  rintro e w1 ⟨rfl, hb1⟩
  have hX : BoxAt w1 w.heap.size #[.int .i16 st, .int .i16 sz, .int .i16 per] 30 := ((BoxAt.new' rfl).alloc _).ext hb1
  have hO : Ow encI64 2 w1 (w.heap.size + 1) (.slice (some ⟨w.heap.size + 1, 0, none⟩) 0 0) [] := (Ow.made0 (by simp) (by simp)).ext hb1
  have hw1 := hE0.trans hb1
  have lX1 := hX.lt
  clear hb1 hal hE0
  go_wp2
  go_loopg [7, 17] lot.length (fun g v i wr => ∃ k : Nat, g = lot.length - k ∧ k ≤ lot.length ∧ i = .int .i64 k ∧ Ext w wr ∧ BoxAt wr w.heap.size #[.int .i16 st, .int .i16 sz, .int .i16 per] 30 ∧ BoxAt wr w1.heap.size #[.int .u64 (lo hh), .int .u64 (hi hh)] 53 ∧ Ow encI64 2 wr (w.heap.size + 1) v (falseTo ⟨st, sz, per⟩ lot ws k) ∧ v.ownBlock ≠ some w1.heap.size)
  case atStart => exact ⟨0, by omega, by omega, rfl, hw1.alloc _, hX.alloc _, BoxAt.new' rfl, by rw [hz]; exact hO.ext ((Ext.refl _).alloc _), fun e => by have := (hO.lt _ e).2; omega⟩
  case round =>
    obtain ⟨k, hg, hk, rfl, hw, hX, hB, hO, hne⟩ := hrel
    by_cases hkl : k < lot.length
    · obtain ⟨b, off, rfl, hlt1⟩ := hR.block k hkl
      obtain ⟨B1, c1, m0, hB1⟩ := (hR.ext hw).at k hkl
      have l1 := World.block_lt_of_cell? _ _ m0
      dsimp only at l1
      have x0 : wr.cell? ⟨w.heap.size, 0, none⟩ = some (.int .i16 st) := hX.cell 0
      have x1 : wr.cell? ⟨w.heap.size, 1, none⟩ = some (.int .i16 sz) := hX.cell 1
      have x2 : wr.cell? ⟨w.heap.size, 2, none⟩ = some (.int .i16 per) := hX.cell 2
      have y0 : wr.cell? ⟨w1.heap.size, 0, none⟩ = some (.int .u64 (lo hh)) := hB.cell 0
      have y1 : wr.cell? ⟨w1.heap.size, 1, none⟩ = some (.int .u64 (hi hh)) := hB.cell 1
      have lX := hX.lt
      have lB := hB.lt
      have hl := hlen k
      have hcall := fun (W : World) (hE : Ext wr W) => hho k hkl B1 c1 W (hB1.ext hE)
      have hha := fun (W : World) (hE : Ext wr W) => impl_hasAll lot[k] B1 c1 ws B capB W (hB1.ext hE) (hll _ (List.getElem_mem hkl)) ((hS.ext hw).ext hE) hm
      have hit := fun a b => hd (hhit0 k hkl a b)
      have missA := fun a => hd (hmissA k hkl a)
      have missB := fun a => hd (hmissB k hkl a)
      generalize wallM ⟨st, sz, per⟩ lot[k] = q at hcall hit missA
      have hwi := fun W => impl_IsWithin hh q W
      cases hq : mwin hh q with
      | true =>
        rw [hq] at hwi
        cases hq2 : hasAllB lot[k] ws with
        | true =>
          rw [hq2] at hha
          have hv := missB hq2
          clear hit missA missB hq hq2
          go_wp2
          refine wp_region_ext (by kernel_rfl) (by kernel_rfl) ?_
          repeat (first | go_big_quiet_step ((first | (go_at_call 47; with_reducible exact Calls.ext_all (fun W hE => hcall W hE)) | (go_at_call 56; with_reducible exact Calls.ext_all (fun W _ => hwi W)) | (go_at_call 95; with_reducible exact Calls.ext_all (fun W hE => hha W hE)))) | quiet_step ((first | (go_at_call 47; with_reducible exact Calls.ext_all (fun W hE => hcall W hE)) | (go_at_call 56; with_reducible exact Calls.ext_all (fun W _ => hwi W)) | (go_at_call 95; with_reducible exact Calls.ext_all (fun W hE => hha W hE)))))
          refine wpQuiet_nil ?_
          intro w5 hq5
          have hb5 := ext_of_class hq5
          clear hq5
          obtain ⟨hc5, hf5, hz5⟩ := bcell3 hb5
          try simp at hz5
          go_wp2
          go_roundg (lot.length - (k + 1))
          case rel => exact ⟨k + 1, rfl, hkl, by simp, hw.trans hb5, hX.ext hb5, hB.ext hb5, by rw [hv.out]; exact hO.ext hb5, hne⟩
          case measure => omega
        | false =>
          rw [hq2] at hha
          have hv := hit hq hq2
          clear hit missA missB hq hq2
          go_wp2
          refine wp_region_ext (by kernel_rfl) (by kernel_rfl) ?_
          repeat (first | go_big_quiet_step ((first | (go_at_call 47; with_reducible exact Calls.ext_all (fun W hE => hcall W hE)) | (go_at_call 56; with_reducible exact Calls.ext_all (fun W _ => hwi W)) | (go_at_call 95; with_reducible exact Calls.ext_all (fun W hE => hha W hE)))) | quiet_step ((first | (go_at_call 47; with_reducible exact Calls.ext_all (fun W hE => hcall W hE)) | (go_at_call 56; with_reducible exact Calls.ext_all (fun W _ => hwi W)) | (go_at_call 95; with_reducible exact Calls.ext_all (fun W hE => hha W hE)))))
          refine wpQuiet_nil ?_
          intro w5 hq5
          have hb5 := ext_of_class hq5
          clear hq5
          obtain ⟨hc5, hf5, hz5⟩ := bcell3 hb5
          try simp at hz5
          have hX5 := hX.ext hb5
          have hB5 := hB.ext hb5
          have hO5 := hO.ext hb5
          have hw5 := hw.trans hb5
          clear hc5 hf5 hz5 hb5 x0 x1 x2 y0 y1 lX lB l1 m0 hO
          have lX := hX5.lt
          have lB := hB5.lt
          go_wp2_with (at_builtin; refine wpList_push2 (w0 := w) (base := w.heap.size + 1) (xs := falseTo ⟨st, sz, per⟩ lot ws k) encI64 (by rfl) _ _ 41 (.int .i64 0) 8 (by rfl) Tryd.underlying41 info_i64 (by rfl) ((k : Int)) (by rfl) (by rfl) (by simp) (hO5) (by have := (hw5 : Ext w _).size; simp at this ⊢; omega) (by omega) (hw5) (by omega) (by omega) ?_)
          intro v6 w6 hO6 hb6 hg6 ho6
          have n1 : ¬ some w.heap.size = u7.ownBlock := fun e => by have := (hO5.lt _ e.symm).1; omega
          have hne6 : v6.ownBlock ≠ some w1.heap.size := fun e => by
            rcases ho6 with h1 | ⟨bb, h1, h2⟩
            · exact hne (h1.symm.trans e)
            · rw [h1] at e
              have := Option.some.inj e
              omega
          go_wp2
          go_roundg (lot.length - (k + 1))
          case rel => exact ⟨k + 1, rfl, hkl, by simp, hb6, (hg6.block _ hX5.lt n1).trans hX5, (hg6.block _ hB5.lt (fun e => hne e.symm)).trans hB5, by rw [hv.out]; exact hO6, hne6⟩
          case measure => omega
      | false =>
        rw [hq] at hwi
        have hv := missA hq
        clear hit missA missB hq
        go_wp2
        refine wp_region_ext (by kernel_rfl) (by kernel_rfl) ?_
        repeat (first | go_big_quiet_step ((first | (go_at_call 47; with_reducible exact Calls.ext_all (fun W hE => hcall W hE)) | (go_at_call 56; with_reducible exact Calls.ext_all (fun W _ => hwi W)))) | quiet_step ((first | (go_at_call 47; with_reducible exact Calls.ext_all (fun W hE => hcall W hE)) | (go_at_call 56; with_reducible exact Calls.ext_all (fun W _ => hwi W)))))
        refine wpQuiet_nil ?_
        intro w5 hq5
        have hb5 := ext_of_class hq5
        clear hq5
        obtain ⟨hc5, hf5, hz5⟩ := bcell3 hb5
        try simp at hz5
        go_wp2
        go_roundg (lot.length - (k + 1))
        case rel => exact ⟨k + 1, rfl, hkl, by simp, hw.trans hb5, hX.ext hb5, hB.ext hb5, by rw [hv.out]; exact hO.ext hb5, hne⟩
        case measure => omega
    · obtain rfl : k = lot.length := by omega
      rw [hall] at hO
      go_wp2
      go_ret
      exact ⟨_, rfl, hO.lower (by omega), hw⟩
set_option maxHeartbeats 1000000 in
theorem impl_FalseOf (x : Mx) (hxi : MxIn x) (lot : List (List ByteArray)) (A : Option Addr) (cap : Nat) (ws : List ByteArray) (B : Option Addr) (capB : Nat) (w : World) (hR : RdL w A lot) (hn : lot.length ≤ 1048576) (hll : ∀ l ∈ lot, l.length ≤ 1048576) (hokL : ∀ l ∈ lot, ∀ x ∈ l, StrIn x) (hS : Rd encStr w B ws) (hm : ws.length ≤ 1048576) (hok : ∀ x ∈ ws, StrIn x) :
    Calls Tryd.prog 35 #[.agg #[.int .i16 x.st, .int .i16 x.sz, .int .i16 x.per], .slice A lot.length cap, .slice B ws.length capB] w fun e w' => ∃ v, e = .returned (.tuple #[v, .int .i64 (falseF x lot ws).2]) ∧ Ow encI64 2 w' w.heap.size v (falseF x lot ws).1 ∧ Ext w w' := by
  have h1 := fun (W : World) => impl_isMix x hxi W
  have h2 := fun (W : World) (hE : Ext w W) => impl_isLot lot A cap W (hR.ext hE) hn hll hokL
  have h3 := fun (W : World) (hE : Ext w W) => impl_areWords ws B capB 12 W (hS.ext hE) hm hok
  have h4 := fun (hq : mixB x = true) (W : World) (hE : Ext w W) => impl_falseOf x hq lot A cap ws B capB W (hR.ext hE) hn hll hokL (hS.ext hE) hm hok
  have k1 := false_bad (x := x) (lot := lot) (ws := ws)
  have k2 := false_far (x := x) (lot := lot) (ws := ws)
  have k3 := false_ok (x := x) (lot := lot) (ws := ws)
  generalize falseL x lot ws = r at k3 h4
  obtain ⟨st, sz, per⟩ := x
  dsimp only at h1 h4
  generalize mixB ⟨st, sz, per⟩ = p at h1 h4 k1 k2 k3
  generalize lotB lot = q at h2 k2 k3
  generalize wordsB ws 12 = q2 at h3 k2 k3
  have hE0 : Ext w (w.alloc (.cells #[.int .i16 st, .int .i16 sz, .int .i16 per] 30)) := (Ext.refl _).alloc _
  have hX0 : BoxAt (w.alloc (.cells #[.int .i16 st, .int .i16 sz, .int .i16 per] 30)) w.heap.size #[.int .i16 st, .int .i16 sz, .int .i16 per] 30 := BoxAt.new' rfl
  cases p with
  | false =>
    have hv := hd (k1 rfl)
    clear k1 k2 k3 h4
    go_enter Tryd.func35, Tryd.ntmps35
    go_wp2_with fail
    refine Calls.mono (h1 _) ?_
    rintro e w1 ⟨rfl, hb1⟩
    have hw1 := hE0.trans hb1
    go_wp2
    refine bodyPost_ret (v := .tuple #[.slice none 0 0, .int .i64 1]) (by simp [results, Tryd.results35, go_sem]) rfl ⟨_, by rw [hv.out], by rw [hv.out]; exact Ow.nil _ _ _ _, hw1⟩
  | true =>
    replace h4 := h4 rfl
    cases q2 with
    | false =>
      have hv := hd (k2 rfl (by cases q <;> rfl))
      clear k1 k2 k3 h4
      go_enter Tryd.func35, Tryd.ntmps35
      go_wp2_with fail
      refine Calls.mono (h1 _) ?_
      rintro e w1 ⟨rfl, hb1⟩
      have hw1 := hE0.trans hb1
      go_wp2_with fail
      refine Calls.mono (h3 _ hw1) ?_
      rintro e w2 ⟨rfl, hb2⟩
      go_wp2
      refine bodyPost_ret (v := .tuple #[.slice none 0 0, .int .i64 2]) (by simp [results, Tryd.results35, go_sem]) rfl ⟨_, by rw [hv.out], by rw [hv.out]; exact Ow.nil _ _ _ _, hw1.trans hb2⟩
    | true =>
      cases q with
      | false =>
        have hv := hd (k2 rfl rfl)
        clear k1 k2 k3 h4
        go_enter Tryd.func35, Tryd.ntmps35
        go_wp2_with fail
        refine Calls.mono (h1 _) ?_
        rintro e w1 ⟨rfl, hb1⟩
        have hw1 := hE0.trans hb1
        go_wp2_with fail
        refine Calls.mono (h3 _ hw1) ?_
        rintro e w2 ⟨rfl, hb2⟩
        have hw2 := hw1.trans hb2
        go_wp2_with fail
        refine Calls.mono (h2 _ hw2) ?_
        rintro e w3 ⟨rfl, hb3⟩
        go_wp2
        refine bodyPost_ret (v := .tuple #[.slice none 0 0, .int .i64 2]) (by simp [results, Tryd.results35, go_sem]) rfl ⟨_, by rw [hv.out], by rw [hv.out]; exact Ow.nil _ _ _ _, hw2.trans hb3⟩
      | true =>
        have hv := hd (k3 rfl rfl)
        clear k1 k2 k3
        go_enter Tryd.func35, Tryd.ntmps35
        go_wp2_with fail
        refine Calls.mono (h1 _) ?_
        rintro e w1 ⟨rfl, hb1⟩
        have hw1 := hE0.trans hb1
        have hX := hX0.ext hb1
        go_wp2_with fail
        refine Calls.mono (h3 _ hw1) ?_
        rintro e w2 ⟨rfl, hb2⟩
        have hw2 := hw1.trans hb2
        have hX := hX.ext hb2
        go_wp2_with fail
        refine Calls.mono (h2 _ hw2) ?_
        rintro e w3 ⟨rfl, hb3⟩
        have hw3 := hw2.trans hb3
        have hX := hX.ext hb3
        have x0 : w3.cell? ⟨w.heap.size, 0, none⟩ = some (.int .i16 st) := hX.cell 0
        have x1 : w3.cell? ⟨w.heap.size, 1, none⟩ = some (.int .i16 sz) := hX.cell 1
        have x2 : w3.cell? ⟨w.heap.size, 2, none⟩ = some (.int .i16 per) := hX.cell 2
        have lX := hX.lt
        go_wp2_with fail
        refine Calls.mono (h4 _ hw3) ?_
        rintro e w4 ⟨v4, rfl, hO4, hb4⟩
        go_wp2
        refine bodyPost_ret (v := .tuple #[v4, .int .i64 0]) (by simp [results, Tryd.results35, go_sem]) rfl ⟨_, by rw [hv.out], by rw [hv.out]; exact hO4.lower hw3.size, hw3.trans hb4⟩
end Go.Proofs.YtbmompanhigmnaaDoor
