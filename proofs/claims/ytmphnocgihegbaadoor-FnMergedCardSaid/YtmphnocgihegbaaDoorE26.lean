/-
  Contracts of the functions that add an entry: the program's.
-/
import Derived.Test.YtmphnocgihegbaaDoorE25
set_option linter.unusedVariables false
set_option linter.unusedSimpArgs false
set_option maxRecDepth 100000
namespace Go.Proofs.YtmphnocgihegbaaDoor
open Go.RowKit
set_option maxHeartbeats 4000000 in
theorem impl_AddEntry (xs : List Ent) (x : Ent) (hx : x.nm.size ≤ 9223372036854775807) (A : Option Addr) (cap : Nat) (w : World) (hC : CatArg w A cap xs) (hG : Glob w) :
    Calls Tryd.prog 36 #[.slice A xs.length cap, .agg #[.string x.nm, .int .i64 x.see, .int .i64 x.br]] w fun e w' => ∃ v, e = .returned (.tuple #[v, .int .i64 (addF xs x).2]) ∧ Ow encEnt 49 w' w.heap.size v (addF xs x).1 ∧ Ext w w' := by
  cases hc : catB xs with
  | false =>
    have hv := hd (show addF xs x = ([], 1) by unfold addF; rw [hc]; rfl)
    go_enter Tryd.func36, Tryd.ntmps36
    go_wp2_with fail
    refine Calls.mono (impl_isCatalogue xs A cap _ (hC.rd.ext (by ((repeat (first | with_reducible exact Ext.refl _ | with_reducible exact hw | with_reducible exact hb9 | with_reducible exact hb8 | with_reducible exact hb7 | with_reducible exact hb6 | with_reducible exact hb5 | with_reducible exact hb4 | with_reducible exact hb3 | with_reducible exact hb2 | with_reducible exact hb1 | with_reducible refine Ext.alloc ?_ _ | with_reducible refine Ext.drew ?_ | ((with_reducible refine Ext.set ?_ ?_ _); focus (dsimp only; omega)) | with_reducible refine Ext.trans ?_ hb9 | with_reducible refine Ext.trans ?_ hb8 | with_reducible refine Ext.trans ?_ hb7 | with_reducible refine Ext.trans ?_ hb6 | with_reducible refine Ext.trans ?_ hb5 | with_reducible refine Ext.trans ?_ hb4 | with_reducible refine Ext.trans ?_ hb3 | with_reducible refine Ext.trans ?_ hb2 | with_reducible refine Ext.trans ?_ hb1 | with_reducible refine Ext.trans ?_ hw))))) hC.cap hC.ok (hG.ext (by ((repeat (first | with_reducible exact Ext.refl _ | with_reducible exact hw | with_reducible exact hb9 | with_reducible exact hb8 | with_reducible exact hb7 | with_reducible exact hb6 | with_reducible exact hb5 | with_reducible exact hb4 | with_reducible exact hb3 | with_reducible exact hb2 | with_reducible exact hb1 | with_reducible refine Ext.alloc ?_ _ | with_reducible refine Ext.drew ?_ | ((with_reducible refine Ext.set ?_ ?_ _); focus (dsimp only; omega)) | with_reducible refine Ext.trans ?_ hb9 | with_reducible refine Ext.trans ?_ hb8 | with_reducible refine Ext.trans ?_ hb7 | with_reducible refine Ext.trans ?_ hb6 | with_reducible refine Ext.trans ?_ hb5 | with_reducible refine Ext.trans ?_ hb4 | with_reducible refine Ext.trans ?_ hb3 | with_reducible refine Ext.trans ?_ hb2 | with_reducible refine Ext.trans ?_ hb1 | with_reducible refine Ext.trans ?_ hw)))))) ?_
    rintro e w1 ⟨rfl, hb1⟩
    rw [hc]
    have hw1 : Ext w w1 := by ((repeat (first | with_reducible exact Ext.refl _ | with_reducible exact hw | with_reducible exact hb9 | with_reducible exact hb8 | with_reducible exact hb7 | with_reducible exact hb6 | with_reducible exact hb5 | with_reducible exact hb4 | with_reducible exact hb3 | with_reducible exact hb2 | with_reducible exact hb1 | with_reducible refine Ext.alloc ?_ _ | with_reducible refine Ext.drew ?_ | ((with_reducible refine Ext.set ?_ ?_ _); focus (dsimp only; omega)) | with_reducible refine Ext.trans ?_ hb9 | with_reducible refine Ext.trans ?_ hb8 | with_reducible refine Ext.trans ?_ hb7 | with_reducible refine Ext.trans ?_ hb6 | with_reducible refine Ext.trans ?_ hb5 | with_reducible refine Ext.trans ?_ hb4 | with_reducible refine Ext.trans ?_ hb3 | with_reducible refine Ext.trans ?_ hb2 | with_reducible refine Ext.trans ?_ hb1 | with_reducible refine Ext.trans ?_ hw)))
    go_wp2
    refine bodyPost_ret (v := .tuple #[.slice none 0 0, .int .i64 1]) (by simp [results, Tryd.results36, go_sem]) rfl ⟨_, by rw [hv.out], ?_, hw1⟩
    rw [hv.out]
    exact Ow.nil _ _ _ _
  | true =>
    have hlen := cat_len hc
    by_cases h40 : xs.length = 40
    · have hv := hd (show addF xs x = ([], 3) by unfold addF; rw [hc, if_pos rfl, if_pos h40])
      have hq : ((xs.length : Int) == 40) = true := by simp; omega
      clear h40
      go_enter Tryd.func36, Tryd.ntmps36
      go_wp2_with fail
      refine Calls.mono (impl_isCatalogue xs A cap _ (hC.rd.ext (by ((repeat (first | with_reducible exact Ext.refl _ | with_reducible exact hw | with_reducible exact hb9 | with_reducible exact hb8 | with_reducible exact hb7 | with_reducible exact hb6 | with_reducible exact hb5 | with_reducible exact hb4 | with_reducible exact hb3 | with_reducible exact hb2 | with_reducible exact hb1 | with_reducible refine Ext.alloc ?_ _ | with_reducible refine Ext.drew ?_ | ((with_reducible refine Ext.set ?_ ?_ _); focus (dsimp only; omega)) | with_reducible refine Ext.trans ?_ hb9 | with_reducible refine Ext.trans ?_ hb8 | with_reducible refine Ext.trans ?_ hb7 | with_reducible refine Ext.trans ?_ hb6 | with_reducible refine Ext.trans ?_ hb5 | with_reducible refine Ext.trans ?_ hb4 | with_reducible refine Ext.trans ?_ hb3 | with_reducible refine Ext.trans ?_ hb2 | with_reducible refine Ext.trans ?_ hb1 | with_reducible refine Ext.trans ?_ hw))))) hC.cap hC.ok (hG.ext (by ((repeat (first | with_reducible exact Ext.refl _ | with_reducible exact hw | with_reducible exact hb9 | with_reducible exact hb8 | with_reducible exact hb7 | with_reducible exact hb6 | with_reducible exact hb5 | with_reducible exact hb4 | with_reducible exact hb3 | with_reducible exact hb2 | with_reducible exact hb1 | with_reducible refine Ext.alloc ?_ _ | with_reducible refine Ext.drew ?_ | ((with_reducible refine Ext.set ?_ ?_ _); focus (dsimp only; omega)) | with_reducible refine Ext.trans ?_ hb9 | with_reducible refine Ext.trans ?_ hb8 | with_reducible refine Ext.trans ?_ hb7 | with_reducible refine Ext.trans ?_ hb6 | with_reducible refine Ext.trans ?_ hb5 | with_reducible refine Ext.trans ?_ hb4 | with_reducible refine Ext.trans ?_ hb3 | with_reducible refine Ext.trans ?_ hb2 | with_reducible refine Ext.trans ?_ hb1 | with_reducible refine Ext.trans ?_ hw)))))) ?_
      rintro e w1 ⟨rfl, hb1⟩
      rw [hc]
      have hw1 : Ext w w1 := by ((repeat (first | with_reducible exact Ext.refl _ | with_reducible exact hw | with_reducible exact hb9 | with_reducible exact hb8 | with_reducible exact hb7 | with_reducible exact hb6 | with_reducible exact hb5 | with_reducible exact hb4 | with_reducible exact hb3 | with_reducible exact hb2 | with_reducible exact hb1 | with_reducible refine Ext.alloc ?_ _ | with_reducible refine Ext.drew ?_ | ((with_reducible refine Ext.set ?_ ?_ _); focus (dsimp only; omega)) | with_reducible refine Ext.trans ?_ hb9 | with_reducible refine Ext.trans ?_ hb8 | with_reducible refine Ext.trans ?_ hb7 | with_reducible refine Ext.trans ?_ hb6 | with_reducible refine Ext.trans ?_ hb5 | with_reducible refine Ext.trans ?_ hb4 | with_reducible refine Ext.trans ?_ hb3 | with_reducible refine Ext.trans ?_ hb2 | with_reducible refine Ext.trans ?_ hb1 | with_reducible refine Ext.trans ?_ hw)))
      go_wp2
      refine bodyPost_ret (v := .tuple #[.slice none 0 0, .int .i64 3]) (by simp [results, Tryd.results36, go_sem]) rfl ⟨_, by rw [hv.out], ?_, hw1⟩
      rw [hv.out]
      exact Ow.nil _ _ _ _
    · have hq : ((xs.length : Int) == 40) = false := by simp; omega
      have hv := hd (show addF xs x = madeF (xs ++ [x]) by unfold addF; rw [hc, if_pos rfl, if_neg h40])
      have hokx : ∀ y ∈ xs ++ [x], y.nm.size ≤ 9223372036854775807 := fun y hy => by
        rcases List.mem_append.1 hy with h | h
        · exact hC.ok y h
        · rw [List.mem_singleton.1 h]; exact hx
      have hl9 : (xs ++ [x]).length ≤ 1048576 := by rw [List.length_append, List.length_singleton]; omega
      go_enter Tryd.func36, Tryd.ntmps36
      go_wp2_with fail
      refine Calls.mono (impl_isCatalogue xs A cap _ (hC.rd.ext (by ((repeat (first | with_reducible exact Ext.refl _ | with_reducible exact hw | with_reducible exact hb9 | with_reducible exact hb8 | with_reducible exact hb7 | with_reducible exact hb6 | with_reducible exact hb5 | with_reducible exact hb4 | with_reducible exact hb3 | with_reducible exact hb2 | with_reducible exact hb1 | with_reducible refine Ext.alloc ?_ _ | with_reducible refine Ext.drew ?_ | ((with_reducible refine Ext.set ?_ ?_ _); focus (dsimp only; omega)) | with_reducible refine Ext.trans ?_ hb9 | with_reducible refine Ext.trans ?_ hb8 | with_reducible refine Ext.trans ?_ hb7 | with_reducible refine Ext.trans ?_ hb6 | with_reducible refine Ext.trans ?_ hb5 | with_reducible refine Ext.trans ?_ hb4 | with_reducible refine Ext.trans ?_ hb3 | with_reducible refine Ext.trans ?_ hb2 | with_reducible refine Ext.trans ?_ hb1 | with_reducible refine Ext.trans ?_ hw))))) hC.cap hC.ok (hG.ext (by ((repeat (first | with_reducible exact Ext.refl _ | with_reducible exact hw | with_reducible exact hb9 | with_reducible exact hb8 | with_reducible exact hb7 | with_reducible exact hb6 | with_reducible exact hb5 | with_reducible exact hb4 | with_reducible exact hb3 | with_reducible exact hb2 | with_reducible exact hb1 | with_reducible refine Ext.alloc ?_ _ | with_reducible refine Ext.drew ?_ | ((with_reducible refine Ext.set ?_ ?_ _); focus (dsimp only; omega)) | with_reducible refine Ext.trans ?_ hb9 | with_reducible refine Ext.trans ?_ hb8 | with_reducible refine Ext.trans ?_ hb7 | with_reducible refine Ext.trans ?_ hb6 | with_reducible refine Ext.trans ?_ hb5 | with_reducible refine Ext.trans ?_ hb4 | with_reducible refine Ext.trans ?_ hb3 | with_reducible refine Ext.trans ?_ hb2 | with_reducible refine Ext.trans ?_ hb1 | with_reducible refine Ext.trans ?_ hw)))))) ?_
      rintro e w1 ⟨rfl, hb1⟩
      rw [hc]
      have hw1 : Ext w w1 := by ((repeat (first | with_reducible exact Ext.refl _ | with_reducible exact hw | with_reducible exact hb9 | with_reducible exact hb8 | with_reducible exact hb7 | with_reducible exact hb6 | with_reducible exact hb5 | with_reducible exact hb4 | with_reducible exact hb3 | with_reducible exact hb2 | with_reducible exact hb1 | with_reducible refine Ext.alloc ?_ _ | with_reducible refine Ext.drew ?_ | ((with_reducible refine Ext.set ?_ ?_ _); focus (dsimp only; omega)) | with_reducible refine Ext.trans ?_ hb9 | with_reducible refine Ext.trans ?_ hb8 | with_reducible refine Ext.trans ?_ hb7 | with_reducible refine Ext.trans ?_ hb6 | with_reducible refine Ext.trans ?_ hb5 | with_reducible refine Ext.trans ?_ hb4 | with_reducible refine Ext.trans ?_ hb3 | with_reducible refine Ext.trans ?_ hb2 | with_reducible refine Ext.trans ?_ hb1 | with_reducible refine Ext.trans ?_ hw)))
      have c0 : w1.cell? ⟨w.heap.size, 0, none⟩ = some (.string x.nm) := hb1.cell (by go_simp)
      have c1 : w1.cell? ⟨w.heap.size, 1, none⟩ = some (.int .i64 x.see) := hb1.cell (by go_simp)
      have c2 : w1.cell? ⟨w.heap.size, 2, none⟩ = some (.int .i64 x.br) := hb1.cell (by go_simp)
      have cb : w.heap.size < w1.heap.size := Nat.lt_of_lt_of_le (by simp) hb1.size
      clear hb1
      cases A with
      | none =>
        have hxn : xs = [] := by
          cases xs with
          | nil => rfl
          | cons y r =>
            obtain ⟨b, off, h, _⟩ := hC.rd 0 (by simp)
            simp at h
        subst hxn
        go_wp2
        refine wp_region_any (by kernel_rfl) ?_
        change wpAny _ _ _ _ _ _ _ (World.drew _)
        refine intro_world (fun W0 hW => ?_)
        have e0 : Ext w1 W0 := by rw [hW]; exact (Ext.refl _).drew
        have hw0 : Ext w W0 := hw1.trans e0
        clear hW
        have c0 := e0.cell c0
        have c1 := e0.cell c1
        have c2 := e0.cell c2
        have cb := Nat.lt_of_lt_of_le cb e0.size
        have c00 := c0
        have c10 := c1
        have c20 := c2
        have cb0 := cb
        have hE0 : Ext W0 W0 := Ext.refl _
        refine wpAny_take (i := 1) (v := ?_) rfl (by kernel_rfl) (by kernel_rfl) (by kernel_rfl) (fun _ _ _ h => h) (Or.inl ⟨by rfl, ?_⟩) ?_
        rotate_left
        · (intro W9; go_simp; try with_reducible rfl)
        refine wpAny_ready (rs := [0, 3]) (by kernel_rfl) (by simp) ?_
        refine AllReady.cons rfl (fun K hK => ?_) ?_
        · go_simp
          refine hK _ _ ?_
          clear hK K
          refine intro_world (fun W1 hW => ?_)
          have e1 : Ext W0 W1 := by rw [hW]; exact (Ext.refl _).alloc _
          have hL : Ow encEnt 49 W1 W0.heap.size (.slice (some ⟨W0.heap.size, 0, none⟩) 0 0) [] := by rw [hW]; exact Ow.made0 rfl (Nat.le_refl _)
          have sz1 : W0.heap.size < W1.heap.size := by rw [hW]; simp
          clear hW
          have hE1 := hE0.trans e1
          have c0 := e1.cell c0
          have c1 := e1.cell c1
          have c2 := e1.cell c2
          have cb := Nat.lt_of_lt_of_le cb e1.size
          refine wpAny_ready (rs := [2, 3]) (by kernel_rfl) (by simp) ?_
          refine AllReady.cons rfl (fun K hK => ?_) ?_
          · go_simp
            refine hK _ _ ?_
            clear hK K
            have hC := hL
            refine wpAny_ready (rs := [3]) (by kernel_rfl) (by simp) ?_
            refine AllReady.cons rfl (fun K hK => ?_) ?_
            · go_simp
              refine hK _ _ ?_
              clear hK K
              refine wpAny_ready (rs := [4]) (by kernel_rfl) (by simp) ?_
              refine AllReady.cons rfl (fun K hK => ?_) ?_
              · go_simp
                refine hK _ _ ?_
                clear hK K
                refine intro_world (fun W2 hW => ?_)
                have e2 : Ext W1 W2 := by rw [hW]; exact (Ext.refl _).alloc _
                have hX : Ow encEnt 49 W2 W1.heap.size (.slice (some ⟨W1.heap.size, 0, none⟩) 1 1) [x] := by rw [hW]; exact Ow.made encEnt _ _ [x] _ (Nat.le_refl _) (by simp) rfl
                have sz2 : W1.heap.size < W2.heap.size := by rw [hW]; simp
                clear hW
                have hL := hL.ext e2
                have hC := hC.ext e2
                have hE2 := hE1.trans e2
                have c0 := e2.cell c0
                have c1 := e2.cell c1
                have c2 := e2.cell c2
                have cb := Nat.lt_of_lt_of_le cb e2.size
                refine wpAny_ready (rs := [5]) (by kernel_rfl) (by simp) ?_
                refine AllReady.cons rfl (fun K hK => ?_) ?_
                · refine step_addAll (w0 := W0) encEnt (by rfl) _ _ 27 (.agg #[.string ⟨#[]⟩, .int .i64 0, .int .i64 0]) 32 (by rfl) Tryd.underlying27 info_ent (by rfl) [x] _ 1 (by rfl) (by rfl) hX.rdA (hC.lower (base' := W0.heap.size) hE0.size) (hE2.size) (Nat.le_refl _) hE2 (by simp <;> omega) (by simp <;> omega) ?_
                  intro v18 W3 hO18 hE3 hg
                  refine hK _ _ ?_
                  clear hK K hg hX hC c0 c1 c2 cb
                  refine wpAny_ready (rs := [6]) (by kernel_rfl) (by simp) ?_
                  refine AllReady.cons rfl (fun K hK => ?_) ?_
                  rotate_left
                  · exact AllReady.nil
                  go_simp
                  refine hK _ _ ?_
                  clear hK K
                  refine wpAny_done (by kernel_rfl) ?_ _
                  have hwz : Ext w W3 := hw0.trans hE3
                  have hO9 := hO18.lower (base' := w.heap.size) hw0.size
                  obtain ⟨A9, c9, rfl, hC9⟩ := CatArg.ofOw hO18 hl9 hokx
                  clear hO18
                  have hic := impl_isCatalogue (([] : List Ent) ++ [x]) _ _ _ hC9.rd hC9.cap hC9.ok (hG.ext hwz)
                  generalize ([] : List Ent) ++ [x] = ys at hic hO9 hv hl9 hC9
                  cases hm : catB ys with
                  | false =>
                    have hv2 := hd (hv.out.trans (show madeF ys = ([], 4) by unfold madeF; rw [hm]; rfl))
                    rw [hm] at hic
                    clear hO9 hv
                    go_wp2_with fail
                    refine Calls.mono hic ?_
                    rintro e w9 ⟨rfl, hb9⟩
                    go_wp2
                    refine bodyPost_ret (v := .tuple #[.slice none 0 0, .int .i64 4]) (by simp [results, Tryd.results36, go_sem]) rfl ⟨_, by rw [hv2.out], ?_, hwz.trans hb9⟩
                    rw [hv2.out]
                    exact Ow.nil _ _ _ _
                  | true =>
                    have hv2 := hd (hv.out.trans (show madeF ys = (ys, 0) by unfold madeF; rw [hm]; rfl))
                    rw [hm] at hic
                    clear hv
                    go_wp2_with fail
                    refine Calls.mono hic ?_
                    rintro e w9 ⟨rfl, hb9⟩
                    go_wp2
                    refine bodyPost_ret (v := .tuple #[.slice A9 ys.length c9, .int .i64 0]) (by simp [results, Tryd.results36, go_sem]) rfl ⟨_, by rw [hv2.out], ?_, hwz.trans hb9⟩
                    rw [hv2.out]
                    exact hO9.ext hb9
                exact AllReady.nil
              exact AllReady.nil
            exact AllReady.nil
          refine AllReady.cons rfl (fun K hK => ?_) ?_
          · go_simp
            refine hK _ _ ?_
            clear hK K
            refine wpAny_ready (rs := [2, 4]) (by kernel_rfl) (by simp) ?_
            refine AllReady.cons rfl (fun K hK => ?_) ?_
            · go_simp
              refine hK _ _ ?_
              clear hK K
              have hC := hL
              refine wpAny_ready (rs := [4]) (by kernel_rfl) (by simp) ?_
              refine AllReady.cons rfl (fun K hK => ?_) ?_
              · go_simp
                refine hK _ _ ?_
                clear hK K
                refine intro_world (fun W2 hW => ?_)
                have e2 : Ext W1 W2 := by rw [hW]; exact (Ext.refl _).alloc _
                have hX : Ow encEnt 49 W2 W1.heap.size (.slice (some ⟨W1.heap.size, 0, none⟩) 1 1) [x] := by rw [hW]; exact Ow.made encEnt _ _ [x] _ (Nat.le_refl _) (by simp) rfl
                have sz2 : W1.heap.size < W2.heap.size := by rw [hW]; simp
                clear hW
                have hL := hL.ext e2
                have hC := hC.ext e2
                have hE2 := hE1.trans e2
                have c0 := e2.cell c0
                have c1 := e2.cell c1
                have c2 := e2.cell c2
                have cb := Nat.lt_of_lt_of_le cb e2.size
                refine wpAny_ready (rs := [5]) (by kernel_rfl) (by simp) ?_
                refine AllReady.cons rfl (fun K hK => ?_) ?_
                · refine step_addAll (w0 := W0) encEnt (by rfl) _ _ 27 (.agg #[.string ⟨#[]⟩, .int .i64 0, .int .i64 0]) 32 (by rfl) Tryd.underlying27 info_ent (by rfl) [x] _ 1 (by rfl) (by rfl) hX.rdA (hC.lower (base' := W0.heap.size) hE0.size) (hE2.size) (Nat.le_refl _) hE2 (by simp <;> omega) (by simp <;> omega) ?_
                  intro v18 W3 hO18 hE3 hg
                  refine hK _ _ ?_
                  clear hK K hg hX hC c0 c1 c2 cb
                  refine wpAny_ready (rs := [6]) (by kernel_rfl) (by simp) ?_
                  refine AllReady.cons rfl (fun K hK => ?_) ?_
                  rotate_left
                  · exact AllReady.nil
                  go_simp
                  refine hK _ _ ?_
                  clear hK K
                  refine wpAny_done (by kernel_rfl) ?_ _
                  have hwz : Ext w W3 := hw0.trans hE3
                  have hO9 := hO18.lower (base' := w.heap.size) hw0.size
                  obtain ⟨A9, c9, rfl, hC9⟩ := CatArg.ofOw hO18 hl9 hokx
                  clear hO18
                  have hic := impl_isCatalogue (([] : List Ent) ++ [x]) _ _ _ hC9.rd hC9.cap hC9.ok (hG.ext hwz)
                  generalize ([] : List Ent) ++ [x] = ys at hic hO9 hv hl9 hC9
                  cases hm : catB ys with
                  | false =>
                    have hv2 := hd (hv.out.trans (show madeF ys = ([], 4) by unfold madeF; rw [hm]; rfl))
                    rw [hm] at hic
                    clear hO9 hv
                    go_wp2_with fail
                    refine Calls.mono hic ?_
                    rintro e w9 ⟨rfl, hb9⟩
                    go_wp2
                    refine bodyPost_ret (v := .tuple #[.slice none 0 0, .int .i64 4]) (by simp [results, Tryd.results36, go_sem]) rfl ⟨_, by rw [hv2.out], ?_, hwz.trans hb9⟩
                    rw [hv2.out]
                    exact Ow.nil _ _ _ _
                  | true =>
                    have hv2 := hd (hv.out.trans (show madeF ys = (ys, 0) by unfold madeF; rw [hm]; rfl))
                    rw [hm] at hic
                    clear hv
                    go_wp2_with fail
                    refine Calls.mono hic ?_
                    rintro e w9 ⟨rfl, hb9⟩
                    go_wp2
                    refine bodyPost_ret (v := .tuple #[.slice A9 ys.length c9, .int .i64 0]) (by simp [results, Tryd.results36, go_sem]) rfl ⟨_, by rw [hv2.out], ?_, hwz.trans hb9⟩
                    rw [hv2.out]
                    exact hO9.ext hb9
                exact AllReady.nil
              exact AllReady.nil
            refine AllReady.cons rfl (fun K hK => ?_) ?_
            · go_simp
              refine hK _ _ ?_
              clear hK K
              refine intro_world (fun W2 hW => ?_)
              have e2 : Ext W1 W2 := by rw [hW]; exact (Ext.refl _).alloc _
              have hX : Ow encEnt 49 W2 W1.heap.size (.slice (some ⟨W1.heap.size, 0, none⟩) 1 1) [x] := by rw [hW]; exact Ow.made encEnt _ _ [x] _ (Nat.le_refl _) (by simp) rfl
              have sz2 : W1.heap.size < W2.heap.size := by rw [hW]; simp
              clear hW
              have hL := hL.ext e2
              have hE2 := hE1.trans e2
              have c0 := e2.cell c0
              have c1 := e2.cell c1
              have c2 := e2.cell c2
              have cb := Nat.lt_of_lt_of_le cb e2.size
              refine wpAny_ready (rs := [2]) (by kernel_rfl) (by simp) ?_
              refine AllReady.cons rfl (fun K hK => ?_) ?_
              · go_simp
                refine hK _ _ ?_
                clear hK K
                have hC := hL
                refine wpAny_ready (rs := [5]) (by kernel_rfl) (by simp) ?_
                refine AllReady.cons rfl (fun K hK => ?_) ?_
                · refine step_addAll (w0 := W0) encEnt (by rfl) _ _ 27 (.agg #[.string ⟨#[]⟩, .int .i64 0, .int .i64 0]) 32 (by rfl) Tryd.underlying27 info_ent (by rfl) [x] _ 1 (by rfl) (by rfl) hX.rdA (hC.lower (base' := W0.heap.size) hE0.size) (hE2.size) (Nat.le_refl _) hE2 (by simp <;> omega) (by simp <;> omega) ?_
                  intro v18 W3 hO18 hE3 hg
                  refine hK _ _ ?_
                  clear hK K hg hX hC c0 c1 c2 cb
                  refine wpAny_ready (rs := [6]) (by kernel_rfl) (by simp) ?_
                  refine AllReady.cons rfl (fun K hK => ?_) ?_
                  rotate_left
                  · exact AllReady.nil
                  go_simp
                  refine hK _ _ ?_
                  clear hK K
                  refine wpAny_done (by kernel_rfl) ?_ _
                  have hwz : Ext w W3 := hw0.trans hE3
                  have hO9 := hO18.lower (base' := w.heap.size) hw0.size
                  obtain ⟨A9, c9, rfl, hC9⟩ := CatArg.ofOw hO18 hl9 hokx
                  clear hO18
                  have hic := impl_isCatalogue (([] : List Ent) ++ [x]) _ _ _ hC9.rd hC9.cap hC9.ok (hG.ext hwz)
                  generalize ([] : List Ent) ++ [x] = ys at hic hO9 hv hl9 hC9
                  cases hm : catB ys with
                  | false =>
                    have hv2 := hd (hv.out.trans (show madeF ys = ([], 4) by unfold madeF; rw [hm]; rfl))
                    rw [hm] at hic
                    clear hO9 hv
                    go_wp2_with fail
                    refine Calls.mono hic ?_
                    rintro e w9 ⟨rfl, hb9⟩
                    go_wp2
                    refine bodyPost_ret (v := .tuple #[.slice none 0 0, .int .i64 4]) (by simp [results, Tryd.results36, go_sem]) rfl ⟨_, by rw [hv2.out], ?_, hwz.trans hb9⟩
                    rw [hv2.out]
                    exact Ow.nil _ _ _ _
                  | true =>
                    have hv2 := hd (hv.out.trans (show madeF ys = (ys, 0) by unfold madeF; rw [hm]; rfl))
                    rw [hm] at hic
                    clear hv
                    go_wp2_with fail
                    refine Calls.mono hic ?_
                    rintro e w9 ⟨rfl, hb9⟩
                    go_wp2
                    refine bodyPost_ret (v := .tuple #[.slice A9 ys.length c9, .int .i64 0]) (by simp [results, Tryd.results36, go_sem]) rfl ⟨_, by rw [hv2.out], ?_, hwz.trans hb9⟩
                    rw [hv2.out]
                    exact hO9.ext hb9
                exact AllReady.nil
              exact AllReady.nil
            exact AllReady.nil
          exact AllReady.nil
        refine AllReady.cons rfl (fun K hK => ?_) ?_
        · go_simp
          refine hK _ _ ?_
          clear hK K
          refine wpAny_ready (rs := [0, 4]) (by kernel_rfl) (by simp) ?_
          refine AllReady.cons rfl (fun K hK => ?_) ?_
          · go_simp
            refine hK _ _ ?_
            clear hK K
            refine intro_world (fun W1 hW => ?_)
            have e1 : Ext W0 W1 := by rw [hW]; exact (Ext.refl _).alloc _
            have hL : Ow encEnt 49 W1 W0.heap.size (.slice (some ⟨W0.heap.size, 0, none⟩) 0 0) [] := by rw [hW]; exact Ow.made0 rfl (Nat.le_refl _)
            have sz1 : W0.heap.size < W1.heap.size := by rw [hW]; simp
            clear hW
            have hE1 := hE0.trans e1
            have c0 := e1.cell c0
            have c1 := e1.cell c1
            have c2 := e1.cell c2
            have cb := Nat.lt_of_lt_of_le cb e1.size
            refine wpAny_ready (rs := [2, 4]) (by kernel_rfl) (by simp) ?_
            refine AllReady.cons rfl (fun K hK => ?_) ?_
            · go_simp
              refine hK _ _ ?_
              clear hK K
              have hC := hL
              refine wpAny_ready (rs := [4]) (by kernel_rfl) (by simp) ?_
              refine AllReady.cons rfl (fun K hK => ?_) ?_
              · go_simp
                refine hK _ _ ?_
                clear hK K
                refine intro_world (fun W2 hW => ?_)
                have e2 : Ext W1 W2 := by rw [hW]; exact (Ext.refl _).alloc _
                have hX : Ow encEnt 49 W2 W1.heap.size (.slice (some ⟨W1.heap.size, 0, none⟩) 1 1) [x] := by rw [hW]; exact Ow.made encEnt _ _ [x] _ (Nat.le_refl _) (by simp) rfl
                have sz2 : W1.heap.size < W2.heap.size := by rw [hW]; simp
                clear hW
                have hL := hL.ext e2
                have hC := hC.ext e2
                have hE2 := hE1.trans e2
                have c0 := e2.cell c0
                have c1 := e2.cell c1
                have c2 := e2.cell c2
                have cb := Nat.lt_of_lt_of_le cb e2.size
                refine wpAny_ready (rs := [5]) (by kernel_rfl) (by simp) ?_
                refine AllReady.cons rfl (fun K hK => ?_) ?_
                · refine step_addAll (w0 := W0) encEnt (by rfl) _ _ 27 (.agg #[.string ⟨#[]⟩, .int .i64 0, .int .i64 0]) 32 (by rfl) Tryd.underlying27 info_ent (by rfl) [x] _ 1 (by rfl) (by rfl) hX.rdA (hC.lower (base' := W0.heap.size) hE0.size) (hE2.size) (Nat.le_refl _) hE2 (by simp <;> omega) (by simp <;> omega) ?_
                  intro v18 W3 hO18 hE3 hg
                  refine hK _ _ ?_
                  clear hK K hg hX hC c0 c1 c2 cb
                  refine wpAny_ready (rs := [6]) (by kernel_rfl) (by simp) ?_
                  refine AllReady.cons rfl (fun K hK => ?_) ?_
                  rotate_left
                  · exact AllReady.nil
                  go_simp
                  refine hK _ _ ?_
                  clear hK K
                  refine wpAny_done (by kernel_rfl) ?_ _
                  have hwz : Ext w W3 := hw0.trans hE3
                  have hO9 := hO18.lower (base' := w.heap.size) hw0.size
                  obtain ⟨A9, c9, rfl, hC9⟩ := CatArg.ofOw hO18 hl9 hokx
                  clear hO18
                  have hic := impl_isCatalogue (([] : List Ent) ++ [x]) _ _ _ hC9.rd hC9.cap hC9.ok (hG.ext hwz)
                  generalize ([] : List Ent) ++ [x] = ys at hic hO9 hv hl9 hC9
                  cases hm : catB ys with
                  | false =>
                    have hv2 := hd (hv.out.trans (show madeF ys = ([], 4) by unfold madeF; rw [hm]; rfl))
                    rw [hm] at hic
                    clear hO9 hv
                    go_wp2_with fail
                    refine Calls.mono hic ?_
                    rintro e w9 ⟨rfl, hb9⟩
                    go_wp2
                    refine bodyPost_ret (v := .tuple #[.slice none 0 0, .int .i64 4]) (by simp [results, Tryd.results36, go_sem]) rfl ⟨_, by rw [hv2.out], ?_, hwz.trans hb9⟩
                    rw [hv2.out]
                    exact Ow.nil _ _ _ _
                  | true =>
                    have hv2 := hd (hv.out.trans (show madeF ys = (ys, 0) by unfold madeF; rw [hm]; rfl))
                    rw [hm] at hic
                    clear hv
                    go_wp2_with fail
                    refine Calls.mono hic ?_
                    rintro e w9 ⟨rfl, hb9⟩
                    go_wp2
                    refine bodyPost_ret (v := .tuple #[.slice A9 ys.length c9, .int .i64 0]) (by simp [results, Tryd.results36, go_sem]) rfl ⟨_, by rw [hv2.out], ?_, hwz.trans hb9⟩
                    rw [hv2.out]
                    exact hO9.ext hb9
                exact AllReady.nil
              exact AllReady.nil
            refine AllReady.cons rfl (fun K hK => ?_) ?_
            · go_simp
              refine hK _ _ ?_
              clear hK K
              refine intro_world (fun W2 hW => ?_)
              have e2 : Ext W1 W2 := by rw [hW]; exact (Ext.refl _).alloc _
              have hX : Ow encEnt 49 W2 W1.heap.size (.slice (some ⟨W1.heap.size, 0, none⟩) 1 1) [x] := by rw [hW]; exact Ow.made encEnt _ _ [x] _ (Nat.le_refl _) (by simp) rfl
              have sz2 : W1.heap.size < W2.heap.size := by rw [hW]; simp
              clear hW
              have hL := hL.ext e2
              have hE2 := hE1.trans e2
              have c0 := e2.cell c0
              have c1 := e2.cell c1
              have c2 := e2.cell c2
              have cb := Nat.lt_of_lt_of_le cb e2.size
              refine wpAny_ready (rs := [2]) (by kernel_rfl) (by simp) ?_
              refine AllReady.cons rfl (fun K hK => ?_) ?_
              · go_simp
                refine hK _ _ ?_
                clear hK K
                have hC := hL
                refine wpAny_ready (rs := [5]) (by kernel_rfl) (by simp) ?_
                refine AllReady.cons rfl (fun K hK => ?_) ?_
                · refine step_addAll (w0 := W0) encEnt (by rfl) _ _ 27 (.agg #[.string ⟨#[]⟩, .int .i64 0, .int .i64 0]) 32 (by rfl) Tryd.underlying27 info_ent (by rfl) [x] _ 1 (by rfl) (by rfl) hX.rdA (hC.lower (base' := W0.heap.size) hE0.size) (hE2.size) (Nat.le_refl _) hE2 (by simp <;> omega) (by simp <;> omega) ?_
                  intro v18 W3 hO18 hE3 hg
                  refine hK _ _ ?_
                  clear hK K hg hX hC c0 c1 c2 cb
                  refine wpAny_ready (rs := [6]) (by kernel_rfl) (by simp) ?_
                  refine AllReady.cons rfl (fun K hK => ?_) ?_
                  rotate_left
                  · exact AllReady.nil
                  go_simp
                  refine hK _ _ ?_
                  clear hK K
                  refine wpAny_done (by kernel_rfl) ?_ _
                  have hwz : Ext w W3 := hw0.trans hE3
                  have hO9 := hO18.lower (base' := w.heap.size) hw0.size
                  obtain ⟨A9, c9, rfl, hC9⟩ := CatArg.ofOw hO18 hl9 hokx
                  clear hO18
                  have hic := impl_isCatalogue (([] : List Ent) ++ [x]) _ _ _ hC9.rd hC9.cap hC9.ok (hG.ext hwz)
                  generalize ([] : List Ent) ++ [x] = ys at hic hO9 hv hl9 hC9
                  cases hm : catB ys with
                  | false =>
                    have hv2 := hd (hv.out.trans (show madeF ys = ([], 4) by unfold madeF; rw [hm]; rfl))
                    rw [hm] at hic
                    clear hO9 hv
                    go_wp2_with fail
                    refine Calls.mono hic ?_
                    rintro e w9 ⟨rfl, hb9⟩
                    go_wp2
                    refine bodyPost_ret (v := .tuple #[.slice none 0 0, .int .i64 4]) (by simp [results, Tryd.results36, go_sem]) rfl ⟨_, by rw [hv2.out], ?_, hwz.trans hb9⟩
                    rw [hv2.out]
                    exact Ow.nil _ _ _ _
                  | true =>
                    have hv2 := hd (hv.out.trans (show madeF ys = (ys, 0) by unfold madeF; rw [hm]; rfl))
                    rw [hm] at hic
                    clear hv
                    go_wp2_with fail
                    refine Calls.mono hic ?_
                    rintro e w9 ⟨rfl, hb9⟩
                    go_wp2
                    refine bodyPost_ret (v := .tuple #[.slice A9 ys.length c9, .int .i64 0]) (by simp [results, Tryd.results36, go_sem]) rfl ⟨_, by rw [hv2.out], ?_, hwz.trans hb9⟩
                    rw [hv2.out]
                    exact hO9.ext hb9
                exact AllReady.nil
              exact AllReady.nil
            exact AllReady.nil
          refine AllReady.cons rfl (fun K hK => ?_) ?_
          · go_simp
            refine hK _ _ ?_
            clear hK K
            refine intro_world (fun W1 hW => ?_)
            have e1 : Ext W0 W1 := by rw [hW]; exact (Ext.refl _).alloc _
            have hX : Ow encEnt 49 W1 W0.heap.size (.slice (some ⟨W0.heap.size, 0, none⟩) 1 1) [x] := by rw [hW]; exact Ow.made encEnt _ _ [x] _ (Nat.le_refl _) (by simp) rfl
            have sz1 : W0.heap.size < W1.heap.size := by rw [hW]; simp
            clear hW
            have hE1 := hE0.trans e1
            have c0 := e1.cell c0
            have c1 := e1.cell c1
            have c2 := e1.cell c2
            have cb := Nat.lt_of_lt_of_le cb e1.size
            refine wpAny_ready (rs := [0]) (by kernel_rfl) (by simp) ?_
            refine AllReady.cons rfl (fun K hK => ?_) ?_
            · go_simp
              refine hK _ _ ?_
              clear hK K
              refine intro_world (fun W2 hW => ?_)
              have e2 : Ext W1 W2 := by rw [hW]; exact (Ext.refl _).alloc _
              have hL : Ow encEnt 49 W2 W1.heap.size (.slice (some ⟨W1.heap.size, 0, none⟩) 0 0) [] := by rw [hW]; exact Ow.made0 rfl (Nat.le_refl _)
              have sz2 : W1.heap.size < W2.heap.size := by rw [hW]; simp
              clear hW
              have hX := hX.ext e2
              have hE2 := hE1.trans e2
              have c0 := e2.cell c0
              have c1 := e2.cell c1
              have c2 := e2.cell c2
              have cb := Nat.lt_of_lt_of_le cb e2.size
              refine wpAny_ready (rs := [2]) (by kernel_rfl) (by simp) ?_
              refine AllReady.cons rfl (fun K hK => ?_) ?_
              · go_simp
                refine hK _ _ ?_
                clear hK K
                have hC := hL
                refine wpAny_ready (rs := [5]) (by kernel_rfl) (by simp) ?_
                refine AllReady.cons rfl (fun K hK => ?_) ?_
                · refine step_addAll (w0 := W0) encEnt (by rfl) _ _ 27 (.agg #[.string ⟨#[]⟩, .int .i64 0, .int .i64 0]) 32 (by rfl) Tryd.underlying27 info_ent (by rfl) [x] _ 1 (by rfl) (by rfl) hX.rdA (hC.lower (base' := W0.heap.size) hE1.size) (hE2.size) (Nat.le_refl _) hE2 (by simp <;> omega) (by simp <;> omega) ?_
                  intro v18 W3 hO18 hE3 hg
                  refine hK _ _ ?_
                  clear hK K hg hX hC c0 c1 c2 cb
                  refine wpAny_ready (rs := [6]) (by kernel_rfl) (by simp) ?_
                  refine AllReady.cons rfl (fun K hK => ?_) ?_
                  rotate_left
                  · exact AllReady.nil
                  go_simp
                  refine hK _ _ ?_
                  clear hK K
                  refine wpAny_done (by kernel_rfl) ?_ _
                  have hwz : Ext w W3 := hw0.trans hE3
                  have hO9 := hO18.lower (base' := w.heap.size) hw0.size
                  obtain ⟨A9, c9, rfl, hC9⟩ := CatArg.ofOw hO18 hl9 hokx
                  clear hO18
                  have hic := impl_isCatalogue (([] : List Ent) ++ [x]) _ _ _ hC9.rd hC9.cap hC9.ok (hG.ext hwz)
                  generalize ([] : List Ent) ++ [x] = ys at hic hO9 hv hl9 hC9
                  cases hm : catB ys with
                  | false =>
                    have hv2 := hd (hv.out.trans (show madeF ys = ([], 4) by unfold madeF; rw [hm]; rfl))
                    rw [hm] at hic
                    clear hO9 hv
                    go_wp2_with fail
                    refine Calls.mono hic ?_
                    rintro e w9 ⟨rfl, hb9⟩
                    go_wp2
                    refine bodyPost_ret (v := .tuple #[.slice none 0 0, .int .i64 4]) (by simp [results, Tryd.results36, go_sem]) rfl ⟨_, by rw [hv2.out], ?_, hwz.trans hb9⟩
                    rw [hv2.out]
                    exact Ow.nil _ _ _ _
                  | true =>
                    have hv2 := hd (hv.out.trans (show madeF ys = (ys, 0) by unfold madeF; rw [hm]; rfl))
                    rw [hm] at hic
                    clear hv
                    go_wp2_with fail
                    refine Calls.mono hic ?_
                    rintro e w9 ⟨rfl, hb9⟩
                    go_wp2
                    refine bodyPost_ret (v := .tuple #[.slice A9 ys.length c9, .int .i64 0]) (by simp [results, Tryd.results36, go_sem]) rfl ⟨_, by rw [hv2.out], ?_, hwz.trans hb9⟩
                    rw [hv2.out]
                    exact hO9.ext hb9
                exact AllReady.nil
              exact AllReady.nil
            exact AllReady.nil
          exact AllReady.nil
        exact AllReady.nil
      | some B =>
        have hArg : ∀ W, Ext w W → Rd encEnt W (some B) xs := fun W h => hC.rd.ext h
        go_wp2
        refine wp_region_any (by kernel_rfl) ?_
        change wpAny _ _ _ _ _ _ _ (World.drew _)
        refine intro_world (fun W0 hW => ?_)
        have e0 : Ext w1 W0 := by rw [hW]; exact (Ext.refl _).drew
        have hw0 : Ext w W0 := hw1.trans e0
        clear hW
        have c0 := e0.cell c0
        have c1 := e0.cell c1
        have c2 := e0.cell c2
        have cb := Nat.lt_of_lt_of_le cb e0.size
        have c00 := c0
        have c10 := c1
        have c20 := c2
        have cb0 := cb
        have hE0 : Ext W0 W0 := Ext.refl _
        refine wpAny_take (i := 1) (v := ?_) rfl (by kernel_rfl) (by kernel_rfl) (by kernel_rfl) (fun _ _ _ h => h) (Or.inl ⟨by rfl, ?_⟩) ?_
        rotate_left
        · (intro W9; go_simp; try with_reducible rfl)
        have hArg : ∀ W, Ext W0 W → Rd encEnt W (some B) xs := fun W h => hArg W (hw0.trans h)
        refine wpAny_ready (rs := [0, 3]) (by kernel_rfl) (by simp) ?_
        refine AllReady.cons rfl (fun K hK => ?_) ?_
        · go_simp
          refine hK _ _ ?_
          clear hK K
          refine intro_world (fun W1 hW => ?_)
          have e1 : Ext W0 W1 := by rw [hW]; exact (Ext.refl _).alloc _
          have hL : Ow encEnt 49 W1 W0.heap.size (.slice (some ⟨W0.heap.size, 0, none⟩) 0 0) [] := by rw [hW]; exact Ow.made0 rfl (Nat.le_refl _)
          have sz1 : W0.heap.size < W1.heap.size := by rw [hW]; simp
          clear hW
          have hE1 := hE0.trans e1
          have c0 := e1.cell c0
          have c1 := e1.cell c1
          have c2 := e1.cell c2
          have cb := Nat.lt_of_lt_of_le cb e1.size
          refine wpAny_ready (rs := [2, 3]) (by kernel_rfl) (by simp) ?_
          refine AllReady.cons rfl (fun K hK => ?_) ?_
          · refine step_addAll (w0 := W0) encEnt (by rfl) _ _ 27 (.agg #[.string ⟨#[]⟩, .int .i64 0, .int .i64 0]) 32 (by rfl) Tryd.underlying27 info_ent (by rfl) xs _ cap (by rfl) (by rfl) (hArg W1 hE1) hL (by omega) (by omega) hE1 (by simp <;> omega) (by simp <;> omega) ?_
            intro v15 W2 hC hE2 hg
            refine hK _ _ ?_
            clear hK K
            have hC : Ow encEnt 49 W2 _ v15 xs := hC
            have c0 := hE2.cell c00
            have c1 := hE2.cell c10
            have c2 := hE2.cell c20
            have cb := Nat.lt_of_lt_of_le cb0 hE2.size
            clear hg hL
            refine wpAny_ready (rs := [3]) (by kernel_rfl) (by simp) ?_
            refine AllReady.cons rfl (fun K hK => ?_) ?_
            · go_simp
              refine hK _ _ ?_
              clear hK K
              refine wpAny_ready (rs := [4]) (by kernel_rfl) (by simp) ?_
              refine AllReady.cons rfl (fun K hK => ?_) ?_
              · go_simp
                refine hK _ _ ?_
                clear hK K
                refine intro_world (fun W3 hW => ?_)
                have e3 : Ext W2 W3 := by rw [hW]; exact (Ext.refl _).alloc _
                have hX : Ow encEnt 49 W3 W2.heap.size (.slice (some ⟨W2.heap.size, 0, none⟩) 1 1) [x] := by rw [hW]; exact Ow.made encEnt _ _ [x] _ (Nat.le_refl _) (by simp) rfl
                have sz3 : W2.heap.size < W3.heap.size := by rw [hW]; simp
                clear hW
                have hC := hC.ext e3
                have hE3 := hE2.trans e3
                have c0 := e3.cell c0
                have c1 := e3.cell c1
                have c2 := e3.cell c2
                have cb := Nat.lt_of_lt_of_le cb e3.size
                refine wpAny_ready (rs := [5]) (by kernel_rfl) (by simp) ?_
                refine AllReady.cons rfl (fun K hK => ?_) ?_
                · refine step_addAll (w0 := W0) encEnt (by rfl) _ _ 27 (.agg #[.string ⟨#[]⟩, .int .i64 0, .int .i64 0]) 32 (by rfl) Tryd.underlying27 info_ent (by rfl) [x] _ 1 (by rfl) (by rfl) hX.rdA (hC.lower (base' := W0.heap.size) hE0.size) (hE3.size) (Nat.le_refl _) hE3 (by simp <;> omega) (by simp <;> omega) ?_
                  intro v18 W4 hO18 hE4 hg
                  refine hK _ _ ?_
                  clear hK K hg hX hC c0 c1 c2 cb
                  refine wpAny_ready (rs := [6]) (by kernel_rfl) (by simp) ?_
                  refine AllReady.cons rfl (fun K hK => ?_) ?_
                  rotate_left
                  · exact AllReady.nil
                  go_simp
                  refine hK _ _ ?_
                  clear hK K
                  refine wpAny_done (by kernel_rfl) ?_ _
                  have hwz : Ext w W4 := hw0.trans hE4
                  have hO9 := hO18.lower (base' := w.heap.size) hw0.size
                  obtain ⟨A9, c9, rfl, hC9⟩ := CatArg.ofOw hO18 hl9 hokx
                  clear hO18
                  have hic := impl_isCatalogue (xs ++ [x]) _ _ _ hC9.rd hC9.cap hC9.ok (hG.ext hwz)
                  generalize xs ++ [x] = ys at hic hO9 hv hl9 hC9
                  cases hm : catB ys with
                  | false =>
                    have hv2 := hd (hv.out.trans (show madeF ys = ([], 4) by unfold madeF; rw [hm]; rfl))
                    rw [hm] at hic
                    clear hO9 hv
                    go_wp2_with fail
                    refine Calls.mono hic ?_
                    rintro e w9 ⟨rfl, hb9⟩
                    go_wp2
                    refine bodyPost_ret (v := .tuple #[.slice none 0 0, .int .i64 4]) (by simp [results, Tryd.results36, go_sem]) rfl ⟨_, by rw [hv2.out], ?_, hwz.trans hb9⟩
                    rw [hv2.out]
                    exact Ow.nil _ _ _ _
                  | true =>
                    have hv2 := hd (hv.out.trans (show madeF ys = (ys, 0) by unfold madeF; rw [hm]; rfl))
                    rw [hm] at hic
                    clear hv
                    go_wp2_with fail
                    refine Calls.mono hic ?_
                    rintro e w9 ⟨rfl, hb9⟩
                    go_wp2
                    refine bodyPost_ret (v := .tuple #[.slice A9 ys.length c9, .int .i64 0]) (by simp [results, Tryd.results36, go_sem]) rfl ⟨_, by rw [hv2.out], ?_, hwz.trans hb9⟩
                    rw [hv2.out]
                    exact hO9.ext hb9
                exact AllReady.nil
              exact AllReady.nil
            exact AllReady.nil
          refine AllReady.cons rfl (fun K hK => ?_) ?_
          · go_simp
            refine hK _ _ ?_
            clear hK K
            refine wpAny_ready (rs := [2, 4]) (by kernel_rfl) (by simp) ?_
            refine AllReady.cons rfl (fun K hK => ?_) ?_
            · refine step_addAll (w0 := W0) encEnt (by rfl) _ _ 27 (.agg #[.string ⟨#[]⟩, .int .i64 0, .int .i64 0]) 32 (by rfl) Tryd.underlying27 info_ent (by rfl) xs _ cap (by rfl) (by rfl) (hArg W1 hE1) hL (by omega) (by omega) hE1 (by simp <;> omega) (by simp <;> omega) ?_
              intro v15 W2 hC hE2 hg
              refine hK _ _ ?_
              clear hK K
              have hC : Ow encEnt 49 W2 _ v15 xs := hC
              have c0 := hE2.cell c00
              have c1 := hE2.cell c10
              have c2 := hE2.cell c20
              have cb := Nat.lt_of_lt_of_le cb0 hE2.size
              clear hg hL
              refine wpAny_ready (rs := [4]) (by kernel_rfl) (by simp) ?_
              refine AllReady.cons rfl (fun K hK => ?_) ?_
              · go_simp
                refine hK _ _ ?_
                clear hK K
                refine intro_world (fun W3 hW => ?_)
                have e3 : Ext W2 W3 := by rw [hW]; exact (Ext.refl _).alloc _
                have hX : Ow encEnt 49 W3 W2.heap.size (.slice (some ⟨W2.heap.size, 0, none⟩) 1 1) [x] := by rw [hW]; exact Ow.made encEnt _ _ [x] _ (Nat.le_refl _) (by simp) rfl
                have sz3 : W2.heap.size < W3.heap.size := by rw [hW]; simp
                clear hW
                have hC := hC.ext e3
                have hE3 := hE2.trans e3
                have c0 := e3.cell c0
                have c1 := e3.cell c1
                have c2 := e3.cell c2
                have cb := Nat.lt_of_lt_of_le cb e3.size
                refine wpAny_ready (rs := [5]) (by kernel_rfl) (by simp) ?_
                refine AllReady.cons rfl (fun K hK => ?_) ?_
                · refine step_addAll (w0 := W0) encEnt (by rfl) _ _ 27 (.agg #[.string ⟨#[]⟩, .int .i64 0, .int .i64 0]) 32 (by rfl) Tryd.underlying27 info_ent (by rfl) [x] _ 1 (by rfl) (by rfl) hX.rdA (hC.lower (base' := W0.heap.size) hE0.size) (hE3.size) (Nat.le_refl _) hE3 (by simp <;> omega) (by simp <;> omega) ?_
                  intro v18 W4 hO18 hE4 hg
                  refine hK _ _ ?_
                  clear hK K hg hX hC c0 c1 c2 cb
                  refine wpAny_ready (rs := [6]) (by kernel_rfl) (by simp) ?_
                  refine AllReady.cons rfl (fun K hK => ?_) ?_
                  rotate_left
                  · exact AllReady.nil
                  go_simp
                  refine hK _ _ ?_
                  clear hK K
                  refine wpAny_done (by kernel_rfl) ?_ _
                  have hwz : Ext w W4 := hw0.trans hE4
                  have hO9 := hO18.lower (base' := w.heap.size) hw0.size
                  obtain ⟨A9, c9, rfl, hC9⟩ := CatArg.ofOw hO18 hl9 hokx
                  clear hO18
                  have hic := impl_isCatalogue (xs ++ [x]) _ _ _ hC9.rd hC9.cap hC9.ok (hG.ext hwz)
                  generalize xs ++ [x] = ys at hic hO9 hv hl9 hC9
                  cases hm : catB ys with
                  | false =>
                    have hv2 := hd (hv.out.trans (show madeF ys = ([], 4) by unfold madeF; rw [hm]; rfl))
                    rw [hm] at hic
                    clear hO9 hv
                    go_wp2_with fail
                    refine Calls.mono hic ?_
                    rintro e w9 ⟨rfl, hb9⟩
                    go_wp2
                    refine bodyPost_ret (v := .tuple #[.slice none 0 0, .int .i64 4]) (by simp [results, Tryd.results36, go_sem]) rfl ⟨_, by rw [hv2.out], ?_, hwz.trans hb9⟩
                    rw [hv2.out]
                    exact Ow.nil _ _ _ _
                  | true =>
                    have hv2 := hd (hv.out.trans (show madeF ys = (ys, 0) by unfold madeF; rw [hm]; rfl))
                    rw [hm] at hic
                    clear hv
                    go_wp2_with fail
                    refine Calls.mono hic ?_
                    rintro e w9 ⟨rfl, hb9⟩
                    go_wp2
                    refine bodyPost_ret (v := .tuple #[.slice A9 ys.length c9, .int .i64 0]) (by simp [results, Tryd.results36, go_sem]) rfl ⟨_, by rw [hv2.out], ?_, hwz.trans hb9⟩
                    rw [hv2.out]
                    exact hO9.ext hb9
                exact AllReady.nil
              exact AllReady.nil
            refine AllReady.cons rfl (fun K hK => ?_) ?_
            · go_simp
              refine hK _ _ ?_
              clear hK K
              refine intro_world (fun W2 hW => ?_)
              have e2 : Ext W1 W2 := by rw [hW]; exact (Ext.refl _).alloc _
              have hX : Ow encEnt 49 W2 W1.heap.size (.slice (some ⟨W1.heap.size, 0, none⟩) 1 1) [x] := by rw [hW]; exact Ow.made encEnt _ _ [x] _ (Nat.le_refl _) (by simp) rfl
              have sz2 : W1.heap.size < W2.heap.size := by rw [hW]; simp
              clear hW
              have hL := hL.ext e2
              have hE2 := hE1.trans e2
              have c0 := e2.cell c0
              have c1 := e2.cell c1
              have c2 := e2.cell c2
              have cb := Nat.lt_of_lt_of_le cb e2.size
              refine wpAny_ready (rs := [2]) (by kernel_rfl) (by simp) ?_
              refine AllReady.cons rfl (fun K hK => ?_) ?_
              · have ap : Apart (.slice (some ⟨W1.heap.size, 0, none⟩) 1 1) (.slice (some ⟨W0.heap.size, 0, none⟩) 0 0) := .inr (by simp only [Value.ownBlock]; intro h; simp only [Option.some.injEq] at h; have := sz1; omega)
                refine step_addAll (w0 := W0) encEnt (by rfl) _ _ 27 (.agg #[.string ⟨#[]⟩, .int .i64 0, .int .i64 0]) 32 (by rfl) Tryd.underlying27 info_ent (by rfl) xs _ cap (by rfl) (by rfl) (hArg W2 hE2) hL (by omega) (by omega) hE2 (by simp <;> omega) (by simp <;> omega) ?_
                intro v15 W3 hC hE3 hg
                refine hK _ _ ?_
                clear hK K
                have hC : Ow encEnt 49 W3 _ v15 xs := hC
                have hX := hX.apart hg ap
                clear ap
                have c0 := hE3.cell c00
                have c1 := hE3.cell c10
                have c2 := hE3.cell c20
                have cb := Nat.lt_of_lt_of_le cb0 hE3.size
                clear hg hL
                refine wpAny_ready (rs := [5]) (by kernel_rfl) (by simp) ?_
                refine AllReady.cons rfl (fun K hK => ?_) ?_
                · refine step_addAll (w0 := W0) encEnt (by rfl) _ _ 27 (.agg #[.string ⟨#[]⟩, .int .i64 0, .int .i64 0]) 32 (by rfl) Tryd.underlying27 info_ent (by rfl) [x] _ 1 (by rfl) (by rfl) hX.rdA (hC.lower (base' := W0.heap.size) hE0.size) (hE3.size) (Nat.le_refl _) hE3 (by simp <;> omega) (by simp <;> omega) ?_
                  intro v18 W4 hO18 hE4 hg
                  refine hK _ _ ?_
                  clear hK K hg hX hC c0 c1 c2 cb
                  refine wpAny_ready (rs := [6]) (by kernel_rfl) (by simp) ?_
                  refine AllReady.cons rfl (fun K hK => ?_) ?_
                  rotate_left
                  · exact AllReady.nil
                  go_simp
                  refine hK _ _ ?_
                  clear hK K
                  refine wpAny_done (by kernel_rfl) ?_ _
                  have hwz : Ext w W4 := hw0.trans hE4
                  have hO9 := hO18.lower (base' := w.heap.size) hw0.size
                  obtain ⟨A9, c9, rfl, hC9⟩ := CatArg.ofOw hO18 hl9 hokx
                  clear hO18
                  have hic := impl_isCatalogue (xs ++ [x]) _ _ _ hC9.rd hC9.cap hC9.ok (hG.ext hwz)
                  generalize xs ++ [x] = ys at hic hO9 hv hl9 hC9
                  cases hm : catB ys with
                  | false =>
                    have hv2 := hd (hv.out.trans (show madeF ys = ([], 4) by unfold madeF; rw [hm]; rfl))
                    rw [hm] at hic
                    clear hO9 hv
                    go_wp2_with fail
                    refine Calls.mono hic ?_
                    rintro e w9 ⟨rfl, hb9⟩
                    go_wp2
                    refine bodyPost_ret (v := .tuple #[.slice none 0 0, .int .i64 4]) (by simp [results, Tryd.results36, go_sem]) rfl ⟨_, by rw [hv2.out], ?_, hwz.trans hb9⟩
                    rw [hv2.out]
                    exact Ow.nil _ _ _ _
                  | true =>
                    have hv2 := hd (hv.out.trans (show madeF ys = (ys, 0) by unfold madeF; rw [hm]; rfl))
                    rw [hm] at hic
                    clear hv
                    go_wp2_with fail
                    refine Calls.mono hic ?_
                    rintro e w9 ⟨rfl, hb9⟩
                    go_wp2
                    refine bodyPost_ret (v := .tuple #[.slice A9 ys.length c9, .int .i64 0]) (by simp [results, Tryd.results36, go_sem]) rfl ⟨_, by rw [hv2.out], ?_, hwz.trans hb9⟩
                    rw [hv2.out]
                    exact hO9.ext hb9
                exact AllReady.nil
              exact AllReady.nil
            exact AllReady.nil
          exact AllReady.nil
        refine AllReady.cons rfl (fun K hK => ?_) ?_
        · go_simp
          refine hK _ _ ?_
          clear hK K
          refine wpAny_ready (rs := [0, 4]) (by kernel_rfl) (by simp) ?_
          refine AllReady.cons rfl (fun K hK => ?_) ?_
          · go_simp
            refine hK _ _ ?_
            clear hK K
            refine intro_world (fun W1 hW => ?_)
            have e1 : Ext W0 W1 := by rw [hW]; exact (Ext.refl _).alloc _
            have hL : Ow encEnt 49 W1 W0.heap.size (.slice (some ⟨W0.heap.size, 0, none⟩) 0 0) [] := by rw [hW]; exact Ow.made0 rfl (Nat.le_refl _)
            have sz1 : W0.heap.size < W1.heap.size := by rw [hW]; simp
            clear hW
            have hE1 := hE0.trans e1
            have c0 := e1.cell c0
            have c1 := e1.cell c1
            have c2 := e1.cell c2
            have cb := Nat.lt_of_lt_of_le cb e1.size
            refine wpAny_ready (rs := [2, 4]) (by kernel_rfl) (by simp) ?_
            refine AllReady.cons rfl (fun K hK => ?_) ?_
            · refine step_addAll (w0 := W0) encEnt (by rfl) _ _ 27 (.agg #[.string ⟨#[]⟩, .int .i64 0, .int .i64 0]) 32 (by rfl) Tryd.underlying27 info_ent (by rfl) xs _ cap (by rfl) (by rfl) (hArg W1 hE1) hL (by omega) (by omega) hE1 (by simp <;> omega) (by simp <;> omega) ?_
              intro v15 W2 hC hE2 hg
              refine hK _ _ ?_
              clear hK K
              have hC : Ow encEnt 49 W2 _ v15 xs := hC
              have c0 := hE2.cell c00
              have c1 := hE2.cell c10
              have c2 := hE2.cell c20
              have cb := Nat.lt_of_lt_of_le cb0 hE2.size
              clear hg hL
              refine wpAny_ready (rs := [4]) (by kernel_rfl) (by simp) ?_
              refine AllReady.cons rfl (fun K hK => ?_) ?_
              · go_simp
                refine hK _ _ ?_
                clear hK K
                refine intro_world (fun W3 hW => ?_)
                have e3 : Ext W2 W3 := by rw [hW]; exact (Ext.refl _).alloc _
                have hX : Ow encEnt 49 W3 W2.heap.size (.slice (some ⟨W2.heap.size, 0, none⟩) 1 1) [x] := by rw [hW]; exact Ow.made encEnt _ _ [x] _ (Nat.le_refl _) (by simp) rfl
                have sz3 : W2.heap.size < W3.heap.size := by rw [hW]; simp
                clear hW
                have hC := hC.ext e3
                have hE3 := hE2.trans e3
                have c0 := e3.cell c0
                have c1 := e3.cell c1
                have c2 := e3.cell c2
                have cb := Nat.lt_of_lt_of_le cb e3.size
                refine wpAny_ready (rs := [5]) (by kernel_rfl) (by simp) ?_
                refine AllReady.cons rfl (fun K hK => ?_) ?_
                · refine step_addAll (w0 := W0) encEnt (by rfl) _ _ 27 (.agg #[.string ⟨#[]⟩, .int .i64 0, .int .i64 0]) 32 (by rfl) Tryd.underlying27 info_ent (by rfl) [x] _ 1 (by rfl) (by rfl) hX.rdA (hC.lower (base' := W0.heap.size) hE0.size) (hE3.size) (Nat.le_refl _) hE3 (by simp <;> omega) (by simp <;> omega) ?_
                  intro v18 W4 hO18 hE4 hg
                  refine hK _ _ ?_
                  clear hK K hg hX hC c0 c1 c2 cb
                  refine wpAny_ready (rs := [6]) (by kernel_rfl) (by simp) ?_
                  refine AllReady.cons rfl (fun K hK => ?_) ?_
                  rotate_left
                  · exact AllReady.nil
                  go_simp
                  refine hK _ _ ?_
                  clear hK K
                  refine wpAny_done (by kernel_rfl) ?_ _
                  have hwz : Ext w W4 := hw0.trans hE4
                  have hO9 := hO18.lower (base' := w.heap.size) hw0.size
                  obtain ⟨A9, c9, rfl, hC9⟩ := CatArg.ofOw hO18 hl9 hokx
                  clear hO18
                  have hic := impl_isCatalogue (xs ++ [x]) _ _ _ hC9.rd hC9.cap hC9.ok (hG.ext hwz)
                  generalize xs ++ [x] = ys at hic hO9 hv hl9 hC9
                  cases hm : catB ys with
                  | false =>
                    have hv2 := hd (hv.out.trans (show madeF ys = ([], 4) by unfold madeF; rw [hm]; rfl))
                    rw [hm] at hic
                    clear hO9 hv
                    go_wp2_with fail
                    refine Calls.mono hic ?_
                    rintro e w9 ⟨rfl, hb9⟩
                    go_wp2
                    refine bodyPost_ret (v := .tuple #[.slice none 0 0, .int .i64 4]) (by simp [results, Tryd.results36, go_sem]) rfl ⟨_, by rw [hv2.out], ?_, hwz.trans hb9⟩
                    rw [hv2.out]
                    exact Ow.nil _ _ _ _
                  | true =>
                    have hv2 := hd (hv.out.trans (show madeF ys = (ys, 0) by unfold madeF; rw [hm]; rfl))
                    rw [hm] at hic
                    clear hv
                    go_wp2_with fail
                    refine Calls.mono hic ?_
                    rintro e w9 ⟨rfl, hb9⟩
                    go_wp2
                    refine bodyPost_ret (v := .tuple #[.slice A9 ys.length c9, .int .i64 0]) (by simp [results, Tryd.results36, go_sem]) rfl ⟨_, by rw [hv2.out], ?_, hwz.trans hb9⟩
                    rw [hv2.out]
                    exact hO9.ext hb9
                exact AllReady.nil
              exact AllReady.nil
            refine AllReady.cons rfl (fun K hK => ?_) ?_
            · go_simp
              refine hK _ _ ?_
              clear hK K
              refine intro_world (fun W2 hW => ?_)
              have e2 : Ext W1 W2 := by rw [hW]; exact (Ext.refl _).alloc _
              have hX : Ow encEnt 49 W2 W1.heap.size (.slice (some ⟨W1.heap.size, 0, none⟩) 1 1) [x] := by rw [hW]; exact Ow.made encEnt _ _ [x] _ (Nat.le_refl _) (by simp) rfl
              have sz2 : W1.heap.size < W2.heap.size := by rw [hW]; simp
              clear hW
              have hL := hL.ext e2
              have hE2 := hE1.trans e2
              have c0 := e2.cell c0
              have c1 := e2.cell c1
              have c2 := e2.cell c2
              have cb := Nat.lt_of_lt_of_le cb e2.size
              refine wpAny_ready (rs := [2]) (by kernel_rfl) (by simp) ?_
              refine AllReady.cons rfl (fun K hK => ?_) ?_
              · have ap : Apart (.slice (some ⟨W1.heap.size, 0, none⟩) 1 1) (.slice (some ⟨W0.heap.size, 0, none⟩) 0 0) := .inr (by simp only [Value.ownBlock]; intro h; simp only [Option.some.injEq] at h; have := sz1; omega)
                refine step_addAll (w0 := W0) encEnt (by rfl) _ _ 27 (.agg #[.string ⟨#[]⟩, .int .i64 0, .int .i64 0]) 32 (by rfl) Tryd.underlying27 info_ent (by rfl) xs _ cap (by rfl) (by rfl) (hArg W2 hE2) hL (by omega) (by omega) hE2 (by simp <;> omega) (by simp <;> omega) ?_
                intro v15 W3 hC hE3 hg
                refine hK _ _ ?_
                clear hK K
                have hC : Ow encEnt 49 W3 _ v15 xs := hC
                have hX := hX.apart hg ap
                clear ap
                have c0 := hE3.cell c00
                have c1 := hE3.cell c10
                have c2 := hE3.cell c20
                have cb := Nat.lt_of_lt_of_le cb0 hE3.size
                clear hg hL
                refine wpAny_ready (rs := [5]) (by kernel_rfl) (by simp) ?_
                refine AllReady.cons rfl (fun K hK => ?_) ?_
                · refine step_addAll (w0 := W0) encEnt (by rfl) _ _ 27 (.agg #[.string ⟨#[]⟩, .int .i64 0, .int .i64 0]) 32 (by rfl) Tryd.underlying27 info_ent (by rfl) [x] _ 1 (by rfl) (by rfl) hX.rdA (hC.lower (base' := W0.heap.size) hE0.size) (hE3.size) (Nat.le_refl _) hE3 (by simp <;> omega) (by simp <;> omega) ?_
                  intro v18 W4 hO18 hE4 hg
                  refine hK _ _ ?_
                  clear hK K hg hX hC c0 c1 c2 cb
                  refine wpAny_ready (rs := [6]) (by kernel_rfl) (by simp) ?_
                  refine AllReady.cons rfl (fun K hK => ?_) ?_
                  rotate_left
                  · exact AllReady.nil
                  go_simp
                  refine hK _ _ ?_
                  clear hK K
                  refine wpAny_done (by kernel_rfl) ?_ _
                  have hwz : Ext w W4 := hw0.trans hE4
                  have hO9 := hO18.lower (base' := w.heap.size) hw0.size
                  obtain ⟨A9, c9, rfl, hC9⟩ := CatArg.ofOw hO18 hl9 hokx
                  clear hO18
                  have hic := impl_isCatalogue (xs ++ [x]) _ _ _ hC9.rd hC9.cap hC9.ok (hG.ext hwz)
                  generalize xs ++ [x] = ys at hic hO9 hv hl9 hC9
                  cases hm : catB ys with
                  | false =>
                    have hv2 := hd (hv.out.trans (show madeF ys = ([], 4) by unfold madeF; rw [hm]; rfl))
                    rw [hm] at hic
                    clear hO9 hv
                    go_wp2_with fail
                    refine Calls.mono hic ?_
                    rintro e w9 ⟨rfl, hb9⟩
                    go_wp2
                    refine bodyPost_ret (v := .tuple #[.slice none 0 0, .int .i64 4]) (by simp [results, Tryd.results36, go_sem]) rfl ⟨_, by rw [hv2.out], ?_, hwz.trans hb9⟩
                    rw [hv2.out]
                    exact Ow.nil _ _ _ _
                  | true =>
                    have hv2 := hd (hv.out.trans (show madeF ys = (ys, 0) by unfold madeF; rw [hm]; rfl))
                    rw [hm] at hic
                    clear hv
                    go_wp2_with fail
                    refine Calls.mono hic ?_
                    rintro e w9 ⟨rfl, hb9⟩
                    go_wp2
                    refine bodyPost_ret (v := .tuple #[.slice A9 ys.length c9, .int .i64 0]) (by simp [results, Tryd.results36, go_sem]) rfl ⟨_, by rw [hv2.out], ?_, hwz.trans hb9⟩
                    rw [hv2.out]
                    exact hO9.ext hb9
                exact AllReady.nil
              exact AllReady.nil
            exact AllReady.nil
          refine AllReady.cons rfl (fun K hK => ?_) ?_
          · go_simp
            refine hK _ _ ?_
            clear hK K
            refine intro_world (fun W1 hW => ?_)
            have e1 : Ext W0 W1 := by rw [hW]; exact (Ext.refl _).alloc _
            have hX : Ow encEnt 49 W1 W0.heap.size (.slice (some ⟨W0.heap.size, 0, none⟩) 1 1) [x] := by rw [hW]; exact Ow.made encEnt _ _ [x] _ (Nat.le_refl _) (by simp) rfl
            have sz1 : W0.heap.size < W1.heap.size := by rw [hW]; simp
            clear hW
            have hE1 := hE0.trans e1
            have c0 := e1.cell c0
            have c1 := e1.cell c1
            have c2 := e1.cell c2
            have cb := Nat.lt_of_lt_of_le cb e1.size
            refine wpAny_ready (rs := [0]) (by kernel_rfl) (by simp) ?_
            refine AllReady.cons rfl (fun K hK => ?_) ?_
            · go_simp
              refine hK _ _ ?_
              clear hK K
              refine intro_world (fun W2 hW => ?_)
              have e2 : Ext W1 W2 := by rw [hW]; exact (Ext.refl _).alloc _
              have hL : Ow encEnt 49 W2 W1.heap.size (.slice (some ⟨W1.heap.size, 0, none⟩) 0 0) [] := by rw [hW]; exact Ow.made0 rfl (Nat.le_refl _)
              have sz2 : W1.heap.size < W2.heap.size := by rw [hW]; simp
              clear hW
              have hX := hX.ext e2
              have hE2 := hE1.trans e2
              have c0 := e2.cell c0
              have c1 := e2.cell c1
              have c2 := e2.cell c2
              have cb := Nat.lt_of_lt_of_le cb e2.size
              refine wpAny_ready (rs := [2]) (by kernel_rfl) (by simp) ?_
              refine AllReady.cons rfl (fun K hK => ?_) ?_
              · have ap : Apart (.slice (some ⟨W0.heap.size, 0, none⟩) 1 1) (.slice (some ⟨W1.heap.size, 0, none⟩) 0 0) := .inr (by simp only [Value.ownBlock]; intro h; simp only [Option.some.injEq] at h; have := sz1; omega)
                refine step_addAll (w0 := W0) encEnt (by rfl) _ _ 27 (.agg #[.string ⟨#[]⟩, .int .i64 0, .int .i64 0]) 32 (by rfl) Tryd.underlying27 info_ent (by rfl) xs _ cap (by rfl) (by rfl) (hArg W2 hE2) hL (by omega) (by omega) hE2 (by simp <;> omega) (by simp <;> omega) ?_
                intro v15 W3 hC hE3 hg
                refine hK _ _ ?_
                clear hK K
                have hC : Ow encEnt 49 W3 _ v15 xs := hC
                have hX := hX.apart hg ap
                clear ap
                have c0 := hE3.cell c00
                have c1 := hE3.cell c10
                have c2 := hE3.cell c20
                have cb := Nat.lt_of_lt_of_le cb0 hE3.size
                clear hg hL
                refine wpAny_ready (rs := [5]) (by kernel_rfl) (by simp) ?_
                refine AllReady.cons rfl (fun K hK => ?_) ?_
                · refine step_addAll (w0 := W0) encEnt (by rfl) _ _ 27 (.agg #[.string ⟨#[]⟩, .int .i64 0, .int .i64 0]) 32 (by rfl) Tryd.underlying27 info_ent (by rfl) [x] _ 1 (by rfl) (by rfl) hX.rdA (hC.lower (base' := W0.heap.size) hE1.size) (hE3.size) (Nat.le_refl _) hE3 (by simp <;> omega) (by simp <;> omega) ?_
                  intro v18 W4 hO18 hE4 hg
                  refine hK _ _ ?_
                  clear hK K hg hX hC c0 c1 c2 cb
                  refine wpAny_ready (rs := [6]) (by kernel_rfl) (by simp) ?_
                  refine AllReady.cons rfl (fun K hK => ?_) ?_
                  rotate_left
                  · exact AllReady.nil
                  go_simp
                  refine hK _ _ ?_
                  clear hK K
                  refine wpAny_done (by kernel_rfl) ?_ _
                  have hwz : Ext w W4 := hw0.trans hE4
                  have hO9 := hO18.lower (base' := w.heap.size) hw0.size
                  obtain ⟨A9, c9, rfl, hC9⟩ := CatArg.ofOw hO18 hl9 hokx
                  clear hO18
                  have hic := impl_isCatalogue (xs ++ [x]) _ _ _ hC9.rd hC9.cap hC9.ok (hG.ext hwz)
                  generalize xs ++ [x] = ys at hic hO9 hv hl9 hC9
                  cases hm : catB ys with
                  | false =>
                    have hv2 := hd (hv.out.trans (show madeF ys = ([], 4) by unfold madeF; rw [hm]; rfl))
                    rw [hm] at hic
                    clear hO9 hv
                    go_wp2_with fail
                    refine Calls.mono hic ?_
                    rintro e w9 ⟨rfl, hb9⟩
                    go_wp2
                    refine bodyPost_ret (v := .tuple #[.slice none 0 0, .int .i64 4]) (by simp [results, Tryd.results36, go_sem]) rfl ⟨_, by rw [hv2.out], ?_, hwz.trans hb9⟩
                    rw [hv2.out]
                    exact Ow.nil _ _ _ _
                  | true =>
                    have hv2 := hd (hv.out.trans (show madeF ys = (ys, 0) by unfold madeF; rw [hm]; rfl))
                    rw [hm] at hic
                    clear hv
                    go_wp2_with fail
                    refine Calls.mono hic ?_
                    rintro e w9 ⟨rfl, hb9⟩
                    go_wp2
                    refine bodyPost_ret (v := .tuple #[.slice A9 ys.length c9, .int .i64 0]) (by simp [results, Tryd.results36, go_sem]) rfl ⟨_, by rw [hv2.out], ?_, hwz.trans hb9⟩
                    rw [hv2.out]
                    exact hO9.ext hb9
                exact AllReady.nil
              exact AllReady.nil
            exact AllReady.nil
          exact AllReady.nil
        exact AllReady.nil
