/-
  Contracts of the functions that add an entry.
-/
import Derived.Test.YtoibmelbjblfhaaDoorE15
import Derived.Test.YtoibmelbjblfhaaDoorM3
set_option linter.unusedVariables false
set_option linter.unusedSimpArgs false
set_option maxRecDepth 100000
namespace Go.Proofs.YtoibmelbjblfhaaDoor
open Go.RowKit
theorem intro_world {R : World → Prop} {W : World} (h : ∀ W', W' = W → R W') : R W := h W rfl
section
variable {α : Type} {w0 : World} {xs : List α} {T : TypeId} {base : Nat} {v : Value}
theorem step_addAll {P : Program} {ops : Array Oper} {o : Oper} {a : Act} {K : Act → World → Prop} {Q : Exit → Act → World → Prop} {E : Prop} (e : Enc α) {W : World} (hgd : o.guard = none) (s y : Operand) (t : TypeId) (z : Value) (bytes : Nat)
    (ho : o.op = .call { callee := .builtin .append, args := #[s, y], argTypes := #[t, t] })
    (ht : P.underlying t = some (.slice T)) (hinfo : (P.info? T).map (fun i => (i.zero, i.size, i.bytes)) = some (some z, e.sz, bytes)) (hz : z.cells.size = e.sz)
    (ys : List α) (B : Addr) (c : Nat) (hs : a.eval s = v) (hy : a.eval y = .slice (some B) ys.length c) (HR : Rd e W (some B) ys) (HO : Ow e T W base v xs) (hbase : base ≤ W.heap.size) (hw0 : w0.heap.size ≤ base) (HE : Ext w0 W)
    (hl : (xs.length + ys.length) * bytes ≤ 140737488355328) (hl2 : xs.length + ys.length ≤ 9223372036854775807)
    (h : ∀ v1 w1, Ow e T w1 base v1 (xs ++ ys) → Ext w0 w1 → W.grownBy w1 v.ownBlock → K (a.put o.dst v1) w1) :
    if Region.wanted o (yielded ops a.tmps) = true then Oper.wp P o a W K Q else E := by
  obtain ⟨i, hi, hz0, hz1, hz2⟩ := info_parts hinfo
  have hw : Region.wanted o (yielded ops a.tmps) = true := by simp [Region.wanted, hgd]
  rw [if_pos hw]
  obtain ⟨v', w', hr, h2, h3, h4, h5⟩ := run_append_own_at (P := P) W base t o.type T i z e.sz bytes ht hi hz0 hz1 hz2 hz e.pos v xs.length (e.all xs) HO B ys.length c (e.all ys) (by rw [e.all_length]) HR.news (e.all_one ys) (by unfold maxLen; omega) hl hbase
  unfold Oper.wp execOp
  simp only [ho, resolve, invoke, builtin, Sem.run_bind, Sem.run_pure, Result.andThen_ok, List.map_toArray, List.map_cons, List.map_nil, hs, hy, hr]
  refine h v' w' (by rw [Ow, List.length_append, e.all_append]; exact h2) ?_ h3
  exact HE.trans' h3 (fun k hk => by have := (HO.lt k hk).1; omega)
end
def addF (xs : List Ent) (x : Ent) : List Ent × Int := if catB xs = true then (if xs.length = 40 then ([], 3) else madeF (xs ++ [x])) else ([], 1)
set_option maxHeartbeats 1000000 in
theorem spec_AddEntry (xs : List Ent) (x : Ent) (hx : x.nm.size ≤ 9223372036854775807) (A : Option Addr) (cap : Nat) (w : World) (hC : CatArg w A cap xs) :
    Calls Tryd.prog 30 #[.slice A xs.length cap, .agg #[.string x.nm, .int .i64 x.see, .int .i64 x.br]] w fun e w' => ∃ v, e = .returned (.tuple #[v, .int .i64 (addF xs x).2]) ∧ Ow encEnt 43 w' w.heap.size v (addF xs x).1 ∧ Ext w w' := by
  cases hc : catB xs with
  | false =>
    have hv := hd (show addF xs x = ([], 1) by unfold addF; rw [hc]; rfl)
    go_enter Tryd.func30, Tryd.ntmps30
    go_wp2_with fail
    refine Calls.mono (spec_l05Ok xs A cap _ (hC.ext (by ((repeat (first | with_reducible exact Ext.refl _ | with_reducible exact hw | with_reducible exact hb9 | with_reducible exact hb8 | with_reducible exact hb7 | with_reducible exact hb6 | with_reducible exact hb5 | with_reducible exact hb4 | with_reducible exact hb3 | with_reducible exact hb2 | with_reducible exact hb1 | with_reducible refine Ext.alloc ?_ _ | with_reducible refine Ext.drew ?_ | ((with_reducible refine Ext.set ?_ ?_ _); focus (dsimp only; omega)) | with_reducible refine Ext.trans ?_ hb9 | with_reducible refine Ext.trans ?_ hb8 | with_reducible refine Ext.trans ?_ hb7 | with_reducible refine Ext.trans ?_ hb6 | with_reducible refine Ext.trans ?_ hb5 | with_reducible refine Ext.trans ?_ hb4 | with_reducible refine Ext.trans ?_ hb3 | with_reducible refine Ext.trans ?_ hb2 | with_reducible refine Ext.trans ?_ hb1 | with_reducible refine Ext.trans ?_ hw))))).rd hC.ok hC.len) ?_
    rintro e w1 ⟨rfl, hb1⟩
    rw [hc]
    have hw1 : Ext w w1 := by ((repeat (first | with_reducible exact Ext.refl _ | with_reducible exact hw | with_reducible exact hb9 | with_reducible exact hb8 | with_reducible exact hb7 | with_reducible exact hb6 | with_reducible exact hb5 | with_reducible exact hb4 | with_reducible exact hb3 | with_reducible exact hb2 | with_reducible exact hb1 | with_reducible refine Ext.alloc ?_ _ | with_reducible refine Ext.drew ?_ | ((with_reducible refine Ext.set ?_ ?_ _); focus (dsimp only; omega)) | with_reducible refine Ext.trans ?_ hb9 | with_reducible refine Ext.trans ?_ hb8 | with_reducible refine Ext.trans ?_ hb7 | with_reducible refine Ext.trans ?_ hb6 | with_reducible refine Ext.trans ?_ hb5 | with_reducible refine Ext.trans ?_ hb4 | with_reducible refine Ext.trans ?_ hb3 | with_reducible refine Ext.trans ?_ hb2 | with_reducible refine Ext.trans ?_ hb1 | with_reducible refine Ext.trans ?_ hw)))
    go_wp2
    refine bodyPost_ret (v := .tuple #[_, .int .i64 1]) (by simp [results, Tryd.results30, go_sem]; rfl) rfl ⟨_, by rw [hv.out], ?_, hw1.alloc _⟩
    rw [hv.out]
    exact Ow.made0 rfl hw1.size
  | true =>
    have hlen := cat_len hc
    by_cases h40 : xs.length = 40
    · have hv := hd (show addF xs x = ([], 3) by unfold addF; rw [hc, if_pos rfl, if_pos h40])
      have hq : ((xs.length : Int) == 40) = true := by simp; omega
      clear h40
      go_enter Tryd.func30, Tryd.ntmps30
      go_wp2_with fail
      refine Calls.mono (spec_l05Ok xs A cap _ (hC.ext (by ((repeat (first | with_reducible exact Ext.refl _ | with_reducible exact hw | with_reducible exact hb9 | with_reducible exact hb8 | with_reducible exact hb7 | with_reducible exact hb6 | with_reducible exact hb5 | with_reducible exact hb4 | with_reducible exact hb3 | with_reducible exact hb2 | with_reducible exact hb1 | with_reducible refine Ext.alloc ?_ _ | with_reducible refine Ext.drew ?_ | ((with_reducible refine Ext.set ?_ ?_ _); focus (dsimp only; omega)) | with_reducible refine Ext.trans ?_ hb9 | with_reducible refine Ext.trans ?_ hb8 | with_reducible refine Ext.trans ?_ hb7 | with_reducible refine Ext.trans ?_ hb6 | with_reducible refine Ext.trans ?_ hb5 | with_reducible refine Ext.trans ?_ hb4 | with_reducible refine Ext.trans ?_ hb3 | with_reducible refine Ext.trans ?_ hb2 | with_reducible refine Ext.trans ?_ hb1 | with_reducible refine Ext.trans ?_ hw))))).rd hC.ok hC.len) ?_
      rintro e w1 ⟨rfl, hb1⟩
      rw [hc]
      have hw1 : Ext w w1 := by ((repeat (first | with_reducible exact Ext.refl _ | with_reducible exact hw | with_reducible exact hb9 | with_reducible exact hb8 | with_reducible exact hb7 | with_reducible exact hb6 | with_reducible exact hb5 | with_reducible exact hb4 | with_reducible exact hb3 | with_reducible exact hb2 | with_reducible exact hb1 | with_reducible refine Ext.alloc ?_ _ | with_reducible refine Ext.drew ?_ | ((with_reducible refine Ext.set ?_ ?_ _); focus (dsimp only; omega)) | with_reducible refine Ext.trans ?_ hb9 | with_reducible refine Ext.trans ?_ hb8 | with_reducible refine Ext.trans ?_ hb7 | with_reducible refine Ext.trans ?_ hb6 | with_reducible refine Ext.trans ?_ hb5 | with_reducible refine Ext.trans ?_ hb4 | with_reducible refine Ext.trans ?_ hb3 | with_reducible refine Ext.trans ?_ hb2 | with_reducible refine Ext.trans ?_ hb1 | with_reducible refine Ext.trans ?_ hw)))
      go_wp2
      refine bodyPost_ret (v := .tuple #[_, .int .i64 3]) (by simp [results, Tryd.results30, go_sem]; rfl) rfl ⟨_, by rw [hv.out], ?_, hw1.alloc _⟩
      rw [hv.out]
      exact Ow.made0 rfl hw1.size
    · have hq : ((xs.length : Int) == 40) = false := by simp; omega
      have hv := hd (show addF xs x = madeF (xs ++ [x]) by unfold addF; rw [hc, if_pos rfl, if_neg h40])
      have hokx : ∀ y ∈ xs ++ [x], y.nm.size ≤ 9223372036854775807 := fun y hy => by
        rcases List.mem_append.1 hy with h | h
        · exact hC.ok y h
        · rw [List.mem_singleton.1 h]; exact hx
      have hl9 : (xs ++ [x]).length ≤ 1048576 := by rw [List.length_append, List.length_singleton]; omega
      go_enter Tryd.func30, Tryd.ntmps30
      go_wp2_with fail
      refine Calls.mono (spec_l05Ok xs A cap _ (hC.ext (by ((repeat (first | with_reducible exact Ext.refl _ | with_reducible exact hw | with_reducible exact hb9 | with_reducible exact hb8 | with_reducible exact hb7 | with_reducible exact hb6 | with_reducible exact hb5 | with_reducible exact hb4 | with_reducible exact hb3 | with_reducible exact hb2 | with_reducible exact hb1 | with_reducible refine Ext.alloc ?_ _ | with_reducible refine Ext.drew ?_ | ((with_reducible refine Ext.set ?_ ?_ _); focus (dsimp only; omega)) | with_reducible refine Ext.trans ?_ hb9 | with_reducible refine Ext.trans ?_ hb8 | with_reducible refine Ext.trans ?_ hb7 | with_reducible refine Ext.trans ?_ hb6 | with_reducible refine Ext.trans ?_ hb5 | with_reducible refine Ext.trans ?_ hb4 | with_reducible refine Ext.trans ?_ hb3 | with_reducible refine Ext.trans ?_ hb2 | with_reducible refine Ext.trans ?_ hb1 | with_reducible refine Ext.trans ?_ hw))))).rd hC.ok hC.len) ?_
      rintro e w1 ⟨rfl, hb1⟩
      rw [hc]
      have hw1 : Ext w w1 := by ((repeat (first | with_reducible exact Ext.refl _ | with_reducible exact hw | with_reducible exact hb9 | with_reducible exact hb8 | with_reducible exact hb7 | with_reducible exact hb6 | with_reducible exact hb5 | with_reducible exact hb4 | with_reducible exact hb3 | with_reducible exact hb2 | with_reducible exact hb1 | with_reducible refine Ext.alloc ?_ _ | with_reducible refine Ext.drew ?_ | ((with_reducible refine Ext.set ?_ ?_ _); focus (dsimp only; omega)) | with_reducible refine Ext.trans ?_ hb9 | with_reducible refine Ext.trans ?_ hb8 | with_reducible refine Ext.trans ?_ hb7 | with_reducible refine Ext.trans ?_ hb6 | with_reducible refine Ext.trans ?_ hb5 | with_reducible refine Ext.trans ?_ hb4 | with_reducible refine Ext.trans ?_ hb3 | with_reducible refine Ext.trans ?_ hb2 | with_reducible refine Ext.trans ?_ hb1 | with_reducible refine Ext.trans ?_ hw)))
      have c0 : w1.cell? ⟨w.heap.size, 0, none⟩ = some (.string x.nm) := hb1.cell (by go_simp)
      have c1 : w1.cell? ⟨w.heap.size, 1, none⟩ = some (.int .i64 x.see) := hb1.cell (by go_simp)
      have c2 : w1.cell? ⟨w.heap.size, 2, none⟩ = some (.int .i64 x.br) := hb1.cell (by go_simp)
      have cb : w.heap.size < w1.heap.size := Nat.lt_of_lt_of_le (by simp) hb1.size
      clear hb1
      go_wp2
      refine wp_region_any (by kernel_rfl) ?_
      change wpAny _ _ _ _ _ _ _ (World.drew _)
      refine intro_world (fun W0 hW => ?_)
      have e0 : Ext w1 W0 := by rw [hW]; exact (Ext.refl _).drew
      have hw0 : Ext w W0 := hw1.trans e0
      clear hW
      have c0 := e0.cell c0
      have c1 := e0.cell c1
      have c2 := e0.cell c2
      have cb := Nat.lt_of_lt_of_le cb e0.size
      have hE0 : Ext W0 W0 := Ext.refl _
      have hArg : ∀ W, Ext W0 W → CatArg W A cap xs := fun W h => hC.ext (hw0.trans h)
      have hmade := fun W v hO hb => spec_l05Made (xs ++ [x]) v W0.heap.size W hO hb hl9 hokx
      refine wpAny_take (i := 0) (v := ?_) rfl (by kernel_rfl) (by kernel_rfl) (by kernel_rfl) (fun _ _ _ h => h) (Or.inl ⟨by rfl, ?_⟩) ?_
      rotate_left
      · (intro W9; go_simp; try with_reducible rfl)
      refine wpAny_ready (rs := [1, 2]) (by kernel_rfl) (by simp) ?_
      refine AllReady.cons rfl (fun K hK => ?_) ?_
      · go_simp
        go_wp2_with fail
        refine Calls.mono (spec_l05Copy xs _ cap _ (hArg W0 hE0)) ?_
        rintro e W1 ⟨v15, rfl, hC, e1⟩
        go_wp2_with fail
        have hE1 := hE0.trans e1
        have sz1 := e1.size
        have c0 := e1.cell c0
        have c1 := e1.cell c1
        have c2 := e1.cell c2
        have cb := Nat.lt_of_lt_of_le cb e1.size
        refine wpAny_ready (rs := [2]) (by kernel_rfl) (by simp) ?_
        refine AllReady.cons rfl (fun K hK => ?_) ?_
        · go_simp
          refine hK _ _ ?_
          clear hK K
          refine wpAny_ready (rs := [3]) (by kernel_rfl) (by simp) ?_
          refine AllReady.cons rfl (fun K hK => ?_) ?_
          · go_simp
            refine hK _ _ ?_
            clear hK K
            refine intro_world (fun W2 hW => ?_)
            have e2 : Ext W1 W2 := by rw [hW]; exact (Ext.refl _).alloc _
            have hX : Ow encEnt 43 W2 W1.heap.size (.slice (some ⟨W1.heap.size, 0, none⟩) 1 1) [x] := by rw [hW]; exact Ow.made encEnt _ _ [x] _ (Nat.le_refl _) (by simp) rfl
            have sz2 : W1.heap.size < W2.heap.size := by rw [hW]; simp
            clear hW
            have hC := hC.ext e2
            have hE2 := hE1.trans e2
            have c0 := e2.cell c0
            have c1 := e2.cell c1
            have c2 := e2.cell c2
            have cb := Nat.lt_of_lt_of_le cb e2.size
            refine wpAny_ready (rs := [4]) (by kernel_rfl) (by simp) ?_
            refine AllReady.cons rfl (fun K hK => ?_) ?_
            · refine step_addAll (w0 := W0) encEnt (by rfl) _ _ 26 (.agg #[.string ⟨#[]⟩, .int .i64 0, .int .i64 0]) 32 (by rfl) Tryd.underlying26 info_ent (by rfl) [x] _ 1 (by rfl) (by rfl) hX.rdA (hC.lower (base' := W0.heap.size) hE0.size) (hE2.size) (Nat.le_refl _) hE2 (by simp <;> omega) (by simp <;> omega) ?_
              intro v18 W3 hO18 hE3 hg
              refine hK _ _ ?_
              clear hK K hg hX hC c0 c1 c2 cb
              refine wpAny_ready (rs := [5]) (by kernel_rfl) (by simp) ?_
              refine AllReady.cons rfl (fun K hK => ?_) ?_
              · go_simp
                go_wp2_with fail
                refine Calls.mono (hmade W3 v18 hO18 hE3.size) ?_
                rintro e W4 ⟨v19, rfl, hO19, e4⟩
                go_wp2_with fail
                have hE4 := hE3.trans e4
                refine wpAny_take (i := 6) (v := ?_) rfl (by kernel_rfl) (by kernel_rfl) (by kernel_rfl) (fun _ _ _ h => h) (Or.inl ⟨by rfl, ?_⟩) ?_
                rotate_left
                · (intro W9; go_simp; try with_reducible rfl)
                refine wpAny_take (i := 7) (v := ?_) rfl (by kernel_rfl) (by kernel_rfl) (by kernel_rfl) (fun _ _ _ h => h) (Or.inl ⟨by rfl, ?_⟩) ?_
                rotate_left
                · (intro W9; go_simp; try with_reducible rfl)
                refine wpAny_ready (rs := [8]) (by kernel_rfl) (by simp) ?_
                refine AllReady.cons rfl (fun K hK => ?_) ?_
                rotate_left
                · exact AllReady.nil
                go_simp
                refine hK _ _ ?_
                clear hK K
                refine wpAny_ready (rs := [9]) (by kernel_rfl) (by simp) ?_
                refine AllReady.cons rfl (fun K hK => ?_) ?_
                rotate_left
                · exact AllReady.nil
                go_simp
                refine hK _ _ ?_
                clear hK K
                refine wpAny_done (by kernel_rfl) ?_ _
                have hwz : Ext w W4 := hw0.trans hE4
                have hO9 := hO19.lower (base' := w.heap.size) hw0.size
                rw [← hv.out] at hO9
                clear hO19 hO18
                rw [← hv.out]
                go_wp2
                exact bodyPost_ret (v := .tuple #[v19, .int .i64 (addF xs x).2]) (by simp [results, Tryd.results30, go_sem]) rfl ⟨_, rfl, hO9, hwz⟩
              exact AllReady.nil
            exact AllReady.nil
          exact AllReady.nil
        exact AllReady.nil
      refine AllReady.cons rfl (fun K hK => ?_) ?_
      · go_simp
        refine hK _ _ ?_
        clear hK K
        refine wpAny_ready (rs := [1, 3]) (by kernel_rfl) (by simp) ?_
        refine AllReady.cons rfl (fun K hK => ?_) ?_
        · go_simp
          go_wp2_with fail
          refine Calls.mono (spec_l05Copy xs _ cap _ (hArg W0 hE0)) ?_
          rintro e W1 ⟨v15, rfl, hC, e1⟩
          go_wp2_with fail
          have hE1 := hE0.trans e1
          have sz1 := e1.size
          have c0 := e1.cell c0
          have c1 := e1.cell c1
          have c2 := e1.cell c2
          have cb := Nat.lt_of_lt_of_le cb e1.size
          refine wpAny_ready (rs := [3]) (by kernel_rfl) (by simp) ?_
          refine AllReady.cons rfl (fun K hK => ?_) ?_
          · go_simp
            refine hK _ _ ?_
            clear hK K
            refine intro_world (fun W2 hW => ?_)
            have e2 : Ext W1 W2 := by rw [hW]; exact (Ext.refl _).alloc _
            have hX : Ow encEnt 43 W2 W1.heap.size (.slice (some ⟨W1.heap.size, 0, none⟩) 1 1) [x] := by rw [hW]; exact Ow.made encEnt _ _ [x] _ (Nat.le_refl _) (by simp) rfl
            have sz2 : W1.heap.size < W2.heap.size := by rw [hW]; simp
            clear hW
            have hC := hC.ext e2
            have hE2 := hE1.trans e2
            have c0 := e2.cell c0
            have c1 := e2.cell c1
            have c2 := e2.cell c2
            have cb := Nat.lt_of_lt_of_le cb e2.size
            refine wpAny_ready (rs := [4]) (by kernel_rfl) (by simp) ?_
            refine AllReady.cons rfl (fun K hK => ?_) ?_
            · refine step_addAll (w0 := W0) encEnt (by rfl) _ _ 26 (.agg #[.string ⟨#[]⟩, .int .i64 0, .int .i64 0]) 32 (by rfl) Tryd.underlying26 info_ent (by rfl) [x] _ 1 (by rfl) (by rfl) hX.rdA (hC.lower (base' := W0.heap.size) hE0.size) (hE2.size) (Nat.le_refl _) hE2 (by simp <;> omega) (by simp <;> omega) ?_
              intro v18 W3 hO18 hE3 hg
              refine hK _ _ ?_
              clear hK K hg hX hC c0 c1 c2 cb
              refine wpAny_ready (rs := [5]) (by kernel_rfl) (by simp) ?_
              refine AllReady.cons rfl (fun K hK => ?_) ?_
              · go_simp
                go_wp2_with fail
                refine Calls.mono (hmade W3 v18 hO18 hE3.size) ?_
                rintro e W4 ⟨v19, rfl, hO19, e4⟩
                go_wp2_with fail
                have hE4 := hE3.trans e4
                refine wpAny_take (i := 6) (v := ?_) rfl (by kernel_rfl) (by kernel_rfl) (by kernel_rfl) (fun _ _ _ h => h) (Or.inl ⟨by rfl, ?_⟩) ?_
                rotate_left
                · (intro W9; go_simp; try with_reducible rfl)
                refine wpAny_take (i := 7) (v := ?_) rfl (by kernel_rfl) (by kernel_rfl) (by kernel_rfl) (fun _ _ _ h => h) (Or.inl ⟨by rfl, ?_⟩) ?_
                rotate_left
                · (intro W9; go_simp; try with_reducible rfl)
                refine wpAny_ready (rs := [8]) (by kernel_rfl) (by simp) ?_
                refine AllReady.cons rfl (fun K hK => ?_) ?_
                rotate_left
                · exact AllReady.nil
                go_simp
                refine hK _ _ ?_
                clear hK K
                refine wpAny_ready (rs := [9]) (by kernel_rfl) (by simp) ?_
                refine AllReady.cons rfl (fun K hK => ?_) ?_
                rotate_left
                · exact AllReady.nil
                go_simp
                refine hK _ _ ?_
                clear hK K
                refine wpAny_done (by kernel_rfl) ?_ _
                have hwz : Ext w W4 := hw0.trans hE4
                have hO9 := hO19.lower (base' := w.heap.size) hw0.size
                rw [← hv.out] at hO9
                clear hO19 hO18
                rw [← hv.out]
                go_wp2
                exact bodyPost_ret (v := .tuple #[v19, .int .i64 (addF xs x).2]) (by simp [results, Tryd.results30, go_sem]) rfl ⟨_, rfl, hO9, hwz⟩
              exact AllReady.nil
            exact AllReady.nil
          exact AllReady.nil
        refine AllReady.cons rfl (fun K hK => ?_) ?_
        · go_simp
          refine hK _ _ ?_
          clear hK K
          refine intro_world (fun W1 hW => ?_)
          have e1 : Ext W0 W1 := by rw [hW]; exact (Ext.refl _).alloc _
          have hX : Ow encEnt 43 W1 W0.heap.size (.slice (some ⟨W0.heap.size, 0, none⟩) 1 1) [x] := by rw [hW]; exact Ow.made encEnt _ _ [x] _ (Nat.le_refl _) (by simp) rfl
          have sz1 : W0.heap.size < W1.heap.size := by rw [hW]; simp
          clear hW
          have hE1 := hE0.trans e1
          have c0 := e1.cell c0
          have c1 := e1.cell c1
          have c2 := e1.cell c2
          have cb := Nat.lt_of_lt_of_le cb e1.size
          refine wpAny_ready (rs := [1]) (by kernel_rfl) (by simp) ?_
          refine AllReady.cons rfl (fun K hK => ?_) ?_
          · go_simp
            go_wp2_with fail
            refine Calls.mono (spec_l05Copy xs _ cap _ (hArg W1 hE1)) ?_
            rintro e W2 ⟨v15, rfl, hC, e2⟩
            go_wp2_with fail
            have hE2 := hE1.trans e2
            have sz2 := e2.size
            have hX := hX.ext e2
            have c0 := e2.cell c0
            have c1 := e2.cell c1
            have c2 := e2.cell c2
            have cb := Nat.lt_of_lt_of_le cb e2.size
            refine wpAny_ready (rs := [4]) (by kernel_rfl) (by simp) ?_
            refine AllReady.cons rfl (fun K hK => ?_) ?_
            · refine step_addAll (w0 := W0) encEnt (by rfl) _ _ 26 (.agg #[.string ⟨#[]⟩, .int .i64 0, .int .i64 0]) 32 (by rfl) Tryd.underlying26 info_ent (by rfl) [x] _ 1 (by rfl) (by rfl) hX.rdA (hC.lower (base' := W0.heap.size) hE1.size) (hE2.size) (Nat.le_refl _) hE2 (by simp <;> omega) (by simp <;> omega) ?_
              intro v18 W3 hO18 hE3 hg
              refine hK _ _ ?_
              clear hK K hg hX hC c0 c1 c2 cb
              refine wpAny_ready (rs := [5]) (by kernel_rfl) (by simp) ?_
              refine AllReady.cons rfl (fun K hK => ?_) ?_
              · go_simp
                go_wp2_with fail
                refine Calls.mono (hmade W3 v18 hO18 hE3.size) ?_
                rintro e W4 ⟨v19, rfl, hO19, e4⟩
                go_wp2_with fail
                have hE4 := hE3.trans e4
                refine wpAny_take (i := 6) (v := ?_) rfl (by kernel_rfl) (by kernel_rfl) (by kernel_rfl) (fun _ _ _ h => h) (Or.inl ⟨by rfl, ?_⟩) ?_
                rotate_left
                · (intro W9; go_simp; try with_reducible rfl)
                refine wpAny_take (i := 7) (v := ?_) rfl (by kernel_rfl) (by kernel_rfl) (by kernel_rfl) (fun _ _ _ h => h) (Or.inl ⟨by rfl, ?_⟩) ?_
                rotate_left
                · (intro W9; go_simp; try with_reducible rfl)
                refine wpAny_ready (rs := [8]) (by kernel_rfl) (by simp) ?_
                refine AllReady.cons rfl (fun K hK => ?_) ?_
                rotate_left
                · exact AllReady.nil
                go_simp
                refine hK _ _ ?_
                clear hK K
                refine wpAny_ready (rs := [9]) (by kernel_rfl) (by simp) ?_
                refine AllReady.cons rfl (fun K hK => ?_) ?_
                rotate_left
                · exact AllReady.nil
                go_simp
                refine hK _ _ ?_
                clear hK K
                refine wpAny_done (by kernel_rfl) ?_ _
                have hwz : Ext w W4 := hw0.trans hE4
                have hO9 := hO19.lower (base' := w.heap.size) hw0.size
                rw [← hv.out] at hO9
                clear hO19 hO18
                rw [← hv.out]
                go_wp2
                exact bodyPost_ret (v := .tuple #[v19, .int .i64 (addF xs x).2]) (by simp [results, Tryd.results30, go_sem]) rfl ⟨_, rfl, hO9, hwz⟩
              exact AllReady.nil
            exact AllReady.nil
          exact AllReady.nil
        exact AllReady.nil
      exact AllReady.nil
