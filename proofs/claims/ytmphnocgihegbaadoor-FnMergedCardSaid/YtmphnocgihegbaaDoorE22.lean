/-
  Contracts of the functions that tell what is narrower, and what an entry means.
-/
import Derived.Test.YtmphnocgihegbaaDoorE21
import Derived.Test.YtmphnocgihegbaaDoorM3
set_option linter.unusedVariables false
set_option linter.unusedSimpArgs false
set_option maxRecDepth 100000
namespace Go.Proofs.YtmphnocgihegbaaDoor
open Go.RowKit
set_option maxHeartbeats 2000000 in
theorem impl_narrower (xs : List Ent) (A : Option Addr) (cap : Nat) (i : Int) (w : World) (hR : Rd encEnt w A xs) (hcat : catB xs = true) (h0 : 0 ≤ i) (h1 : i < xs.length) :
    Calls Tryd.prog 57 #[.slice A xs.length cap, .int .i64 i] w fun e w' => ∃ v, e = .returned v ∧ Ow encI64 2 w' w.heap.size v (pickI (narB xs (firstF xs i)) xs.length) ∧ Ext w w' := by
  have hx := @ExtOf.cell
  have hlen := cat_len hcat
  have hpf := fun W hR => impl_preferred xs A cap i W hR h0 h1 (by omega)
  generalize firstF xs i = p at hpf
  go_enter Tryd.func57, Tryd.ntmps57
  go_wp2
  go_loopg [11, 5] xs.length (fun g i v wr => ∃ k : Nat, g = xs.length - k ∧ k ≤ xs.length ∧ i = .int .i64 k ∧ Ext w wr ∧ Ow encI64 2 wr w.heap.size v (pickI (narB xs p) k))
  case atStart => exact ⟨0, by omega, by omega, rfl, by ((repeat (first | with_reducible exact Ext.refl _ | with_reducible exact hw | with_reducible exact hb9 | with_reducible exact hb8 | with_reducible exact hb7 | with_reducible exact hb6 | with_reducible exact hb5 | with_reducible exact hb4 | with_reducible exact hb3 | with_reducible exact hb2 | with_reducible exact hb1 | with_reducible refine Ext.alloc ?_ _ | with_reducible refine Ext.drew ?_ | ((with_reducible refine Ext.set ?_ ?_ _); focus (dsimp only; omega)) | with_reducible refine Ext.trans ?_ hb9 | with_reducible refine Ext.trans ?_ hb8 | with_reducible refine Ext.trans ?_ hb7 | with_reducible refine Ext.trans ?_ hb6 | with_reducible refine Ext.trans ?_ hb5 | with_reducible refine Ext.trans ?_ hb4 | with_reducible refine Ext.trans ?_ hb3 | with_reducible refine Ext.trans ?_ hb2 | with_reducible refine Ext.trans ?_ hb1 | with_reducible refine Ext.trans ?_ hw))), by rw [pickI_zero]; exact Ow.made0 rfl (Nat.le_refl _)⟩
  case round =>
    obtain ⟨k, hg, hk, rfl, hw, hO⟩ := hrel
    by_cases hkl : k < xs.length
    · obtain ⟨b, off, hA, hlt, _⟩ := hR k hkl
      subst hA
      obtain ⟨m0, m1, m2, m3⟩ := (hR.ext hw).ent k hkl
      have hkk := getBang xs k hkl
      have hpl := pickI_len (narB xs p) k
      by_cases q : xs[k].see = -1
      · have hst := fun W => impl_pathUp xs (some ⟨b, off, none⟩) cap k W
        have hpu := fun W (hW : Ext w W) => hst W (hR.ext hW) hcat (by omega) (by omega)
        have hpf2 := fun W (hW : Ext w W) => hpf W (hR.ext hW)
        have hnb := hd (show narB xs p k = hasI ((pathL xs k).drop 1) p by unfold narB; rw [hkk, q]; rfl)
        have hcons := pathL_cons (xs := xs) (k : Int) (by omega) (by omega) (by rw [Int.toNat_natCast, hkk]; exact q)
        have hpos : 0 < (pathL xs k).length := by rw [hcons]; simp
        have hpl2 := pathL_len xs k
        clear hcons hst hpf
        generalize pathL xs k = is at hpu hnb hpos hpl2
        have hsh : ∀ W v base, Ow encI64 2 W base v is → ∃ g c2, v = .slice (some ⟨g, 0, none⟩) is.length c2 ∧ is.length ≤ c2 ∧ (is.length : Int) ≤ (c2 : Int) ∧ (1 : Int) ≤ (c2 : Int) ∧ 1 ≤ c2 ∧ Rd encI64 W (some ⟨g, 0, none⟩) is := by
          intro W v base hO
          rcases hO.shape with ⟨_, h⟩ | ⟨g, c2, rfl, _, _⟩
          · subst h
            simp at hpos
          · obtain ⟨A', c', e1, e2, e3⟩ := hO.slice
            simp only [Value.slice.injEq] at e1
            obtain ⟨rfl, _, rfl⟩ := e1
            exact ⟨g, c2, rfl, e2, by omega, by omega, by omega, e3⟩
        have hi1 : (1 : Int) ≤ (is.length : Int) := by omega
        have hi2 : 1 ≤ is.length := hpos
        go_wp2
        have hws := hw.size
        have hwx : Ext w (wr.alloc (.cells #[.string xs[k].nm, .int .i64 (-1), .int .i64 xs[k].br] 49)) := hw.alloc _
        have c1 : (wr.alloc (.cells #[.string xs[k].nm, .int .i64 (-1), .int .i64 xs[k].br] 49)).cell? ⟨wr.heap.size, 1, none⟩ = some (.int .i64 (-1)) := by go_simp
        have hOx := hO.ext (show Ext wr (wr.alloc (.cells #[.string xs[k].nm, .int .i64 (-1), .int .i64 xs[k].br] 49)) from (Ext.refl _).alloc _)
        have hcb : wr.heap.size < (wr.alloc (.cells #[.string xs[k].nm, .int .i64 (-1), .int .i64 xs[k].br] 49)).heap.size := by simp
        generalize wr.alloc (.cells #[.string xs[k].nm, .int .i64 (-1), .int .i64 xs[k].br] 49) = W0 at hwx c1 hOx hcb ⊢
        clear hw hO m0 m1 m2 m3
        refine wp_region_any (by kernel_rfl) ?_
        change wpAny _ _ _ _ _ _ _ (World.drew _)
        refine wpAny_take (i := 0) (v := ?_) rfl (by kernel_rfl) (by kernel_rfl) (by kernel_rfl) (fun _ _ _ h => h) (Or.inl ⟨by rfl, ?_⟩) ?_
        rotate_left
        · (intro W9; go_simp; try with_reducible rfl)
        refine wpAny_ready (rs := [1]) (by kernel_rfl) (by simp) ?_
        refine AllReady.cons rfl (fun K hK => ?_) ?_
        rotate_left
        · exact AllReady.nil
        go_simp
        refine hK _ _ ?_
        clear hK K
        refine wpAny_take (i := 2) (v := ?_) rfl (by kernel_rfl) (by kernel_rfl) (by kernel_rfl) (fun _ _ _ h => h) (Or.inl ⟨by rfl, ?_⟩) ?_
        rotate_left
        · (intro W9; go_simp; try with_reducible rfl)
        refine wpAny_take (i := 3) (v := ?_) rfl (by kernel_rfl) (by kernel_rfl) (by kernel_rfl) (fun _ _ _ h => h) (Or.inl ⟨by rfl, ?_⟩) ?_
        rotate_left
        · (intro W9; go_simp; try with_reducible rfl)
        refine wpAny_take (i := 4) (v := ?_) rfl (by kernel_rfl) (by kernel_rfl) (by kernel_rfl) (fun _ _ _ h => h) (Or.inl ⟨by rfl, ?_⟩) ?_
        rotate_left
        · (intro W9; go_simp; try with_reducible rfl)
        refine wpAny_take (i := 5) (v := ?_) rfl (by kernel_rfl) (by kernel_rfl) (by kernel_rfl) (fun _ _ _ h => h) (Or.inl ⟨by rfl, ?_⟩) ?_
        rotate_left
        · (intro W9; go_simp; try with_reducible rfl)
        refine wpAny_take (i := 8) (v := ?_) rfl (by kernel_rfl) (by kernel_rfl) (by kernel_rfl) (fun _ _ _ h => h) (Or.inl ⟨by rfl, ?_⟩) ?_
        rotate_left
        · (intro W9; go_simp; try with_reducible rfl)
        refine wpAny_take (i := 9) (v := ?_) rfl (by kernel_rfl) (by kernel_rfl) (by kernel_rfl) (fun _ _ _ h => h) (Or.inl ⟨by rfl, ?_⟩) ?_
        rotate_left
        · (intro W9; go_simp; try with_reducible rfl)
        refine wpAny_ready (rs := [6]) (by kernel_rfl) (by simp) ?_
        refine AllReady.cons rfl (fun K hK => ?_) ?_
        rotate_left
        · exact AllReady.nil
        go_simp
        go_wp2_with fail
        refine Calls.mono (hpu _ (Ext.drew hwx)) ?_
        rintro e w5 ⟨v5, rfl, hO5, hb5⟩
        obtain ⟨g5, c5, rfl, hle5, hi3, hi4, hi5, hR5⟩ := hsh _ _ _ hO5
        clear hO5
        go_wp2_with fail
        by_cases hc5 : c5 = 1
        · have hd1 : is.drop 1 = [] := List.drop_eq_nil_of_le (by omega)
          subst hc5
          refine wpAny_take (i := 7) (v := ?_) rfl (by kernel_rfl) (by kernel_rfl) (by kernel_rfl) (fun _ _ _ h => h) (Or.inl ⟨by rfl, ?_⟩) ?_
          rotate_left
          · (intro W9; go_simp; try with_reducible rfl)
          refine wpAny_ready (rs := [10]) (by kernel_rfl) (by simp) ?_
          refine AllReady.cons rfl (fun K hK => ?_) ?_
          rotate_left
          · exact AllReady.nil
          go_simp
          go_wp2_with fail
          refine Calls.mono (hpf2 _ ((Ext.drew hwx).trans hb5)) ?_
          rintro e w6 ⟨rfl, hb6⟩
          go_wp2_with fail
          refine wpAny_ready (rs := [11]) (by kernel_rfl) (by simp) ?_
          refine AllReady.cons rfl (fun K hK => ?_) ?_
          rotate_left
          · exact AllReady.nil
          go_simp
          go_wp2_with fail
          refine Calls.mono (slices_Contains_i64 (is.drop 1) _ _ _ p _ ?_ ?_ ?_) ?_
          · rw [List.length_drop]; try omega
          · rw [hd1]; exact Rd.nil _ _ _
          · omega
          rintro e w7 ⟨rfl, hb7⟩
          have hw7 : Ext w w7 := (((Ext.drew hwx).trans hb5).trans hb6).trans hb7
          have hO7 := hOx.ext (((Ext.drew (Ext.refl _)).trans hb5).trans (hb6.trans hb7))
          cases q3 : hasI (is.drop 1) p with
          | true =>
            rw [hd1] at q3
            cases q3
          | false =>
            have hp := hd (pickI_miss (narB xs p) k (hnb.out.trans q3))
            clear q3
            go_wp2_with fail
            refine wpAny_take (i := 12) (v := ?_) rfl (by kernel_rfl) (by kernel_rfl) (by kernel_rfl) (fun _ _ _ h => h) (Or.inl ⟨by rfl, ?_⟩) ?_
            rotate_left
            · (intro W9; go_simp; try with_reducible rfl)
            refine wpAny_done (by kernel_rfl) ?_ _
            go_wp2
            go_roundg (xs.length - (k + 1))
            case rel => exact ⟨k + 1, rfl, hkl, rfl, hw7, by rw [hp.out]; exact hO7⟩
            case measure => omega
        · refine wpAny_take (i := 7) (v := ?_) rfl (by kernel_rfl) (by kernel_rfl) (by kernel_rfl) (fun _ _ _ h => h) (Or.inl ⟨by rfl, ?_⟩) ?_
          rotate_left
          · (intro W9; go_simp; try with_reducible rfl)
          refine wpAny_ready (rs := [10]) (by kernel_rfl) (by simp) ?_
          refine AllReady.cons rfl (fun K hK => ?_) ?_
          rotate_left
          · exact AllReady.nil
          go_simp
          go_wp2_with fail
          refine Calls.mono (hpf2 _ ((Ext.drew hwx).trans hb5)) ?_
          rintro e w6 ⟨rfl, hb6⟩
          go_wp2_with fail
          refine wpAny_ready (rs := [11]) (by kernel_rfl) (by simp) ?_
          refine AllReady.cons rfl (fun K hK => ?_) ?_
          rotate_left
          · exact AllReady.nil
          go_simp
          go_wp2_with fail
          refine Calls.mono (slices_Contains_i64 (is.drop 1) _ _ _ p _ ?_ ?_ ?_) ?_
          · rw [List.length_drop]; try omega
          · exact (hR5.ext hb6).dropI
          · omega
          rintro e w7 ⟨rfl, hb7⟩
          have hw7 : Ext w w7 := (((Ext.drew hwx).trans hb5).trans hb6).trans hb7
          have hO7 := hOx.ext (((Ext.drew (Ext.refl _)).trans hb5).trans (hb6.trans hb7))
          cases q3 : hasI (is.drop 1) p with
          | true =>
            have hp := hd (pickI_hit (narB xs p) k (hnb.out.trans q3))
            clear q3
            go_wp2_with fail
            refine wpAny_take (i := 12) (v := ?_) rfl (by kernel_rfl) (by kernel_rfl) (by kernel_rfl) (fun _ _ _ h => h) (Or.inl ⟨by rfl, ?_⟩) ?_
            rotate_left
            · (intro W9; go_simp; try with_reducible rfl)
            refine wpAny_done (by kernel_rfl) ?_ _
            go_wp2_with (at_builtin; refine wpList_push2 (w0 := w) (base := w.heap.size) (xs := pickI (narB xs p) k) encI64 (by rfl) _ _ 24 (.int .i64 0) 8 (by rfl) Tryd.underlying24 info_i64 (by rfl) ((k : Int)) (by rfl) (by rfl) (by simp) (hO7) ((hw7 : Ext w _).size) (Nat.le_refl _) (hw7) (by omega) (by omega) ?_)
            intro v8 w8 hO8 hb8 hg8 _
            go_wp2
            go_roundg (xs.length - (k + 1))
            case rel => exact ⟨k + 1, rfl, hkl, rfl, hb8, by rw [hp.out]; exact hO8⟩
            case measure => omega
          | false =>
            have hp := hd (pickI_miss (narB xs p) k (hnb.out.trans q3))
            clear q3
            go_wp2_with fail
            refine wpAny_take (i := 12) (v := ?_) rfl (by kernel_rfl) (by kernel_rfl) (by kernel_rfl) (fun _ _ _ h => h) (Or.inl ⟨by rfl, ?_⟩) ?_
            rotate_left
            · (intro W9; go_simp; try with_reducible rfl)
            refine wpAny_done (by kernel_rfl) ?_ _
            go_wp2
            go_roundg (xs.length - (k + 1))
            case rel => exact ⟨k + 1, rfl, hkl, rfl, hw7, by rw [hp.out]; exact hO7⟩
            case measure => omega
      · have hnb := hd (pickI_miss (narB xs p) k (by unfold narB; rw [hkk]; simp [q]))
        go_wp2
        refine wp_region_ext (by kernel_rfl) (by kernel_rfl) ?_
        repeat (first | go_big_quiet_step (fail) | quiet_step (fail))
        refine wpQuiet_nil ?_
        intro w4 hq4
        have hb4 := ext_of_class hq4
        clear hq4
        obtain ⟨hc4, hf4, hz4⟩ := bcell3 hb4
        try simp at hz4
        have hws := hw.size
        have hw4 : Ext w w4 := by ((repeat (first | with_reducible exact Ext.refl _ | with_reducible exact hw | with_reducible exact hb9 | with_reducible exact hb8 | with_reducible exact hb7 | with_reducible exact hb6 | with_reducible exact hb5 | with_reducible exact hb4 | with_reducible exact hb3 | with_reducible exact hb2 | with_reducible exact hb1 | with_reducible refine Ext.alloc ?_ _ | with_reducible refine Ext.drew ?_ | ((with_reducible refine Ext.set ?_ ?_ _); focus (dsimp only; omega)) | with_reducible refine Ext.trans ?_ hb9 | with_reducible refine Ext.trans ?_ hb8 | with_reducible refine Ext.trans ?_ hb7 | with_reducible refine Ext.trans ?_ hb6 | with_reducible refine Ext.trans ?_ hb5 | with_reducible refine Ext.trans ?_ hb4 | with_reducible refine Ext.trans ?_ hb3 | with_reducible refine Ext.trans ?_ hb2 | with_reducible refine Ext.trans ?_ hb1 | with_reducible refine Ext.trans ?_ hw)))
        have hO4 := hO.ext (show Ext wr w4 by ((repeat (first | with_reducible exact Ext.refl _ | with_reducible exact hw | with_reducible exact hb9 | with_reducible exact hb8 | with_reducible exact hb7 | with_reducible exact hb6 | with_reducible exact hb5 | with_reducible exact hb4 | with_reducible exact hb3 | with_reducible exact hb2 | with_reducible exact hb1 | with_reducible refine Ext.alloc ?_ _ | with_reducible refine Ext.drew ?_ | ((with_reducible refine Ext.set ?_ ?_ _); focus (dsimp only; omega)) | with_reducible refine Ext.trans ?_ hb9 | with_reducible refine Ext.trans ?_ hb8 | with_reducible refine Ext.trans ?_ hb7 | with_reducible refine Ext.trans ?_ hb6 | with_reducible refine Ext.trans ?_ hb5 | with_reducible refine Ext.trans ?_ hb4 | with_reducible refine Ext.trans ?_ hb3 | with_reducible refine Ext.trans ?_ hb2 | with_reducible refine Ext.trans ?_ hb1 | with_reducible refine Ext.trans ?_ hw))))
        clear hc4 hf4 hx hb4
        go_wp2
        go_roundg (xs.length - (k + 1))
        case rel => exact ⟨k + 1, rfl, hkl, rfl, hw4, by rw [hnb.out]; exact hO4⟩
        case measure => omega
    · obtain rfl : k = xs.length := by omega
      go_wp2
      go_ret
      exact ⟨_, rfl, hO, hw⟩
set_option maxHeartbeats 400000 in
theorem impl_NarrowerOf (xs : List Ent) (A : Option Addr) (cap : Nat) (i : Int) (w : World) (hC : CatArg w A cap xs) (hG : Glob w) :
    Calls Tryd.prog 22 #[.slice A xs.length cap, .int .i64 i] w fun e w' => ∃ v, e = .returned (.tuple #[v, .int .i64 (narF xs i).2]) ∧ Ow encI64 2 w' w.heap.size v (narF xs i).1 ∧ Ext w w' := by
  by_cases hz : atsF xs [i] = 0
  · obtain ⟨hc, h0, h1⟩ := atsF_one hz
    have hv := hd (show narF xs i = (pickI (narB xs (firstF xs i)) xs.length, 0) by unfold narF; rw [if_pos hz])
    go_enter Tryd.func22, Tryd.ntmps22
    go_wp2_with fail
    refine Calls.mono (impl_checkEntries xs A cap [i] _ 1 _ (hC.ext (by ((repeat (first | with_reducible exact Ext.refl _ | with_reducible exact hw | with_reducible exact hb9 | with_reducible exact hb8 | with_reducible exact hb7 | with_reducible exact hb6 | with_reducible exact hb5 | with_reducible exact hb4 | with_reducible exact hb3 | with_reducible exact hb2 | with_reducible exact hb1 | with_reducible refine Ext.alloc ?_ _ | with_reducible refine Ext.drew ?_ | ((with_reducible refine Ext.set ?_ ?_ _); focus (dsimp only; omega)) | with_reducible refine Ext.trans ?_ hb9 | with_reducible refine Ext.trans ?_ hb8 | with_reducible refine Ext.trans ?_ hb7 | with_reducible refine Ext.trans ?_ hb6 | with_reducible refine Ext.trans ?_ hb5 | with_reducible refine Ext.trans ?_ hb4 | with_reducible refine Ext.trans ?_ hb3 | with_reducible refine Ext.trans ?_ hb2 | with_reducible refine Ext.trans ?_ hb1 | with_reducible refine Ext.trans ?_ hw))))) Rd.lit1 (by simp) (hG.ext (by ((repeat (first | with_reducible exact Ext.refl _ | with_reducible exact hw | with_reducible exact hb9 | with_reducible exact hb8 | with_reducible exact hb7 | with_reducible exact hb6 | with_reducible exact hb5 | with_reducible exact hb4 | with_reducible exact hb3 | with_reducible exact hb2 | with_reducible exact hb1 | with_reducible refine Ext.alloc ?_ _ | with_reducible refine Ext.drew ?_ | ((with_reducible refine Ext.set ?_ ?_ _); focus (dsimp only; omega)) | with_reducible refine Ext.trans ?_ hb9 | with_reducible refine Ext.trans ?_ hb8 | with_reducible refine Ext.trans ?_ hb7 | with_reducible refine Ext.trans ?_ hb6 | with_reducible refine Ext.trans ?_ hb5 | with_reducible refine Ext.trans ?_ hb4 | with_reducible refine Ext.trans ?_ hb3 | with_reducible refine Ext.trans ?_ hb2 | with_reducible refine Ext.trans ?_ hb1 | with_reducible refine Ext.trans ?_ hw)))))) ?_
    rintro e w1 ⟨rfl, hb1⟩
    rw [hz]
    have hw1 : Ext w w1 := by ((repeat (first | with_reducible exact Ext.refl _ | with_reducible exact hw | with_reducible exact hb9 | with_reducible exact hb8 | with_reducible exact hb7 | with_reducible exact hb6 | with_reducible exact hb5 | with_reducible exact hb4 | with_reducible exact hb3 | with_reducible exact hb2 | with_reducible exact hb1 | with_reducible refine Ext.alloc ?_ _ | with_reducible refine Ext.drew ?_ | ((with_reducible refine Ext.set ?_ ?_ _); focus (dsimp only; omega)) | with_reducible refine Ext.trans ?_ hb9 | with_reducible refine Ext.trans ?_ hb8 | with_reducible refine Ext.trans ?_ hb7 | with_reducible refine Ext.trans ?_ hb6 | with_reducible refine Ext.trans ?_ hb5 | with_reducible refine Ext.trans ?_ hb4 | with_reducible refine Ext.trans ?_ hb3 | with_reducible refine Ext.trans ?_ hb2 | with_reducible refine Ext.trans ?_ hb1 | with_reducible refine Ext.trans ?_ hw)))
    clear hb1
    go_wp2_with fail
    refine Calls.mono (impl_narrower xs A cap i _ (hC.rd.ext hw1) hc h0 h1) ?_
    rintro e w2 ⟨v2, rfl, hO2, hb2⟩
    have hO3 := hO2.lower (base' := w.heap.size) hw1.size
    go_wp2
    refine bodyPost_ret (v := .tuple #[v2, .int .i64 0]) (by simp [results, Tryd.results22, go_sem]) rfl ⟨_, by rw [hv.out], ?_, hw1.trans hb2⟩
    rw [hv.out]
    exact hO3
  · have hv := hd (show narF xs i = ([], atsF xs [i]) by unfold narF; rw [if_neg hz])
    have hz2 : (atsF xs [i] != 0) = true := by simp [hz]
    go_enter Tryd.func22, Tryd.ntmps22
    go_wp2_with fail
    refine Calls.mono (impl_checkEntries xs A cap [i] _ 1 _ (hC.ext (by ((repeat (first | with_reducible exact Ext.refl _ | with_reducible exact hw | with_reducible exact hb9 | with_reducible exact hb8 | with_reducible exact hb7 | with_reducible exact hb6 | with_reducible exact hb5 | with_reducible exact hb4 | with_reducible exact hb3 | with_reducible exact hb2 | with_reducible exact hb1 | with_reducible refine Ext.alloc ?_ _ | with_reducible refine Ext.drew ?_ | ((with_reducible refine Ext.set ?_ ?_ _); focus (dsimp only; omega)) | with_reducible refine Ext.trans ?_ hb9 | with_reducible refine Ext.trans ?_ hb8 | with_reducible refine Ext.trans ?_ hb7 | with_reducible refine Ext.trans ?_ hb6 | with_reducible refine Ext.trans ?_ hb5 | with_reducible refine Ext.trans ?_ hb4 | with_reducible refine Ext.trans ?_ hb3 | with_reducible refine Ext.trans ?_ hb2 | with_reducible refine Ext.trans ?_ hb1 | with_reducible refine Ext.trans ?_ hw))))) Rd.lit1 (by simp) (hG.ext (by ((repeat (first | with_reducible exact Ext.refl _ | with_reducible exact hw | with_reducible exact hb9 | with_reducible exact hb8 | with_reducible exact hb7 | with_reducible exact hb6 | with_reducible exact hb5 | with_reducible exact hb4 | with_reducible exact hb3 | with_reducible exact hb2 | with_reducible exact hb1 | with_reducible refine Ext.alloc ?_ _ | with_reducible refine Ext.drew ?_ | ((with_reducible refine Ext.set ?_ ?_ _); focus (dsimp only; omega)) | with_reducible refine Ext.trans ?_ hb9 | with_reducible refine Ext.trans ?_ hb8 | with_reducible refine Ext.trans ?_ hb7 | with_reducible refine Ext.trans ?_ hb6 | with_reducible refine Ext.trans ?_ hb5 | with_reducible refine Ext.trans ?_ hb4 | with_reducible refine Ext.trans ?_ hb3 | with_reducible refine Ext.trans ?_ hb2 | with_reducible refine Ext.trans ?_ hb1 | with_reducible refine Ext.trans ?_ hw)))))) ?_
    rintro e w1 ⟨rfl, hb1⟩
    go_wp2
    refine bodyPost_ret (v := .tuple #[.slice none 0 0, .int .i64 (atsF xs [i])]) (by simp [results, Tryd.results22, go_sem]) rfl ⟨_, by rw [hv.out], ?_, by ((repeat (first | with_reducible exact Ext.refl _ | with_reducible exact hw | with_reducible exact hb9 | with_reducible exact hb8 | with_reducible exact hb7 | with_reducible exact hb6 | with_reducible exact hb5 | with_reducible exact hb4 | with_reducible exact hb3 | with_reducible exact hb2 | with_reducible exact hb1 | with_reducible refine Ext.alloc ?_ _ | with_reducible refine Ext.drew ?_ | ((with_reducible refine Ext.set ?_ ?_ _); focus (dsimp only; omega)) | with_reducible refine Ext.trans ?_ hb9 | with_reducible refine Ext.trans ?_ hb8 | with_reducible refine Ext.trans ?_ hb7 | with_reducible refine Ext.trans ?_ hb6 | with_reducible refine Ext.trans ?_ hb5 | with_reducible refine Ext.trans ?_ hb4 | with_reducible refine Ext.trans ?_ hb3 | with_reducible refine Ext.trans ?_ hb2 | with_reducible refine Ext.trans ?_ hb1 | with_reducible refine Ext.trans ?_ hw)))⟩
    rw [hv.out]
    exact Ow.nil _ _ _ _

set_option maxHeartbeats 400000 in
theorem spec_NarrowerOf (xs : List Ent) (A : Option Addr) (cap : Nat) (i : Int) (w : World) (hC : CatArg w A cap xs) :
    Calls Tryd.prog 21 #[.slice A xs.length cap, .int .i64 i] w fun e w' => ∃ v, e = .returned (.tuple #[v, .int .i64 (narF xs i).2]) ∧ Ow encI64 2 w' w.heap.size v (narF xs i).1 ∧ Ext w w' := by
  by_cases hz : atsF xs [i] = 0
  · obtain ⟨hc, h0, h1⟩ := atsF_one hz
    have hv := hd (show narF xs i = (pickI (narB xs (firstF xs i)) xs.length, 0) by unfold narF; rw [if_pos hz])
    have hlen := cat_len hc
    go_enter Tryd.func21, Tryd.ntmps21
    go_wp2_with fail
    refine Calls.mono (spec_l05At xs A cap i _ hC) ?_
    rintro e w1 ⟨rfl, hb1⟩
    rw [hz]
    go_wp2_with fail
    refine Calls.mono (spec_l05First xs A cap i _ (hC.rd.ext hb1) h0 h1 hC.len) ?_
    rintro e w2 ⟨rfl, hb2⟩
    have hw2 := hb1.trans hb2
    clear hb1 hb2
    generalize firstF xs i = p at hv
    go_wp2
    go_loopg [9, 8] xs.length (fun g i v wr => ∃ k : Nat, g = xs.length - k ∧ k ≤ xs.length ∧ i = .int .i64 k ∧ Ext w wr ∧ Ow encI64 2 wr w.heap.size v (pickI (narB xs p) k))
    case atStart => exact ⟨0, by omega, by omega, rfl, hw2.alloc _, by rw [pickI_zero]; exact Ow.made0 rfl hw2.size⟩
    case round =>
      obtain ⟨k, hg, hk, rfl, hw, hO⟩ := hrel
      by_cases hkl : k < xs.length
      · have hpl := pickI_len (narB xs p) k
        cases q : narB xs p k with
        | true =>
          have hp := hd (pickI_hit (narB xs p) k q)
          go_wp2_with fail
          refine Calls.mono (spec_l05Below xs A cap k p _ (hC.rd.ext hw) hc hkl) ?_
          rintro e w3 ⟨rfl, hb3⟩
          rw [q]
          have hw3 := hw.trans hb3
          go_wp2_with (at_builtin; refine wpList_push2 (w0 := w) (base := w.heap.size) (xs := pickI (narB xs p) k) encI64 (by rfl) _ _ 24 (.int .i64 0) 8 (by rfl) Tryd.underlying24 info_i64 (by rfl) ((k : Int)) (by rfl) (by rfl) (by simp) (hO.ext hb3) ((hw3 : Ext w _).size) (Nat.le_refl _) (hw3) (by omega) (by omega) ?_)
          intro v4 w4 hO4 hb4 hg4 _
          go_wp2
          go_roundg (xs.length - (k + 1))
          case rel => exact ⟨k + 1, rfl, hkl, rfl, hb4, by rw [hp.out]; exact hO4⟩
          case measure => omega
        | false =>
          have hp := hd (pickI_miss (narB xs p) k q)
          go_wp2_with fail
          refine Calls.mono (spec_l05Below xs A cap k p _ (hC.rd.ext hw) hc hkl) ?_
          rintro e w3 ⟨rfl, hb3⟩
          rw [q]
          go_wp2
          go_roundg (xs.length - (k + 1))
          case rel => exact ⟨k + 1, rfl, hkl, rfl, hw.trans hb3, by rw [hp.out]; exact hO.ext hb3⟩
          case measure => omega
      · obtain rfl : k = xs.length := by omega
        go_wp2
        refine bodyPost_ret (v := .tuple #[_, .int .i64 0]) (by simp [results, Tryd.results21, go_sem]; rfl) rfl ⟨_, by rw [hv.out], ?_, hw⟩
        rw [hv.out]
        exact hO
  · have hv := hd (show narF xs i = ([], atsF xs [i]) by unfold narF; rw [if_neg hz])
    have hz2 : (atsF xs [i] != 0) = true := by simp [hz]
    go_enter Tryd.func21, Tryd.ntmps21
    go_wp2_with fail
    refine Calls.mono (spec_l05At xs A cap i _ hC) ?_
    rintro e w1 ⟨rfl, hb1⟩
    go_wp2
    refine bodyPost_ret (v := .tuple #[_, .int .i64 (atsF xs [i])]) (by simp [results, Tryd.results21, go_sem]; rfl) rfl ⟨_, by rw [hv.out], ?_, by ((repeat (first | with_reducible exact Ext.refl _ | with_reducible exact hw | with_reducible exact hb9 | with_reducible exact hb8 | with_reducible exact hb7 | with_reducible exact hb6 | with_reducible exact hb5 | with_reducible exact hb4 | with_reducible exact hb3 | with_reducible exact hb2 | with_reducible exact hb1 | with_reducible refine Ext.alloc ?_ _ | with_reducible refine Ext.drew ?_ | ((with_reducible refine Ext.set ?_ ?_ _); focus (dsimp only; omega)) | with_reducible refine Ext.trans ?_ hb9 | with_reducible refine Ext.trans ?_ hb8 | with_reducible refine Ext.trans ?_ hb7 | with_reducible refine Ext.trans ?_ hb6 | with_reducible refine Ext.trans ?_ hb5 | with_reducible refine Ext.trans ?_ hb4 | with_reducible refine Ext.trans ?_ hb3 | with_reducible refine Ext.trans ?_ hb2 | with_reducible refine Ext.trans ?_ hb1 | with_reducible refine Ext.trans ?_ hw)))⟩
    rw [hv.out]
    exact Ow.made0 rfl hb1.size
set_option maxHeartbeats 1000000 in
theorem spec_ExpandEntry (xs : List Ent) (A : Option Addr) (cap : Nat) (i : Int) (w : World) (hC : CatArg w A cap xs) :
    Calls Tryd.prog 23 #[.slice A xs.length cap, .int .i64 i] w fun e w' => ∃ v, e = .returned (.tuple #[v, .int .i64 (expF xs i).2]) ∧ Ow encI64 2 w' w.heap.size v (expF xs i).1 ∧ Ext w w' := by
  by_cases hz : atsF xs [i] = 0
  · obtain ⟨hc, h0, h1⟩ := atsF_one hz
    have hv := hd (show expF xs i = (pickI (expB xs (firstF xs i)) xs.length, 0) by unfold expF; rw [if_pos hz])
    have hlen := cat_len hc
    go_enter Tryd.func23, Tryd.ntmps23
    go_wp2_with fail
    refine Calls.mono (spec_l05At xs A cap i _ hC) ?_
    rintro e w1 ⟨rfl, hb1⟩
    rw [hz]
    go_wp2_with fail
    refine Calls.mono (spec_l05First xs A cap i _ (hC.rd.ext hb1) h0 h1 hC.len) ?_
    rintro e w2 ⟨rfl, hb2⟩
    have hw2 := hb1.trans hb2
    clear hb1 hb2
    generalize firstF xs i = p at hv
    go_wp2
    go_loopg [9, 8] xs.length (fun g i v wr => ∃ k : Nat, g = xs.length - k ∧ k ≤ xs.length ∧ i = .int .i64 k ∧ Ext w wr ∧ Ow encI64 2 wr w.heap.size v (pickI (expB xs p) k))
    case atStart => exact ⟨0, by omega, by omega, rfl, hw2.alloc _, by rw [pickI_zero]; exact Ow.made0 rfl hw2.size⟩
    case round =>
      obtain ⟨k, hg, hk, rfl, hw, hO⟩ := hrel
      by_cases hkl : k < xs.length
      · have hpl := pickI_len (expB xs p) k
        have hpl2 := pathL_len xs k
        have hq : expB xs p k = hasI (pathL xs k) p := rfl
        go_wp2_with fail
        refine Calls.mono (spec_l05Path xs A cap k _ (hC.rd.ext hw) hc (by omega) (by omega)) ?_
        rintro e w3 ⟨v3, rfl, hO3, hb3⟩
        obtain ⟨A3, c3, rfl, hle3, hR3⟩ := hO3.slice
        have hw3 := hw.trans hb3
        go_wp2_with fail
        refine Calls.mono (spec_l05In (pathL xs k) _ _ p _ hR3 (by omega)) ?_
        rintro e w4 ⟨rfl, hb4⟩
        rw [← hq]
        have hw4 := hw3.trans hb4
        have hO4 := (hO.ext hb3).ext hb4
        clear hO3 hR3 hq hw3 hb3 hb4 hO
        cases q : expB xs p k with
        | true =>
          have hp := hd (pickI_hit (expB xs p) k q)
          go_wp2_with (at_builtin; refine wpList_push2 (w0 := w) (base := w.heap.size) (xs := pickI (expB xs p) k) encI64 (by rfl) _ _ 24 (.int .i64 0) 8 (by rfl) Tryd.underlying24 info_i64 (by rfl) ((k : Int)) (by rfl) (by rfl) (by simp) (hO4) ((hw4 : Ext w _).size) (Nat.le_refl _) (hw4) (by omega) (by omega) ?_)
          intro v5 w5 hO5 hb5 hg5 _
          go_wp2
          go_roundg (xs.length - (k + 1))
          case rel => exact ⟨k + 1, rfl, hkl, rfl, hb5, by rw [hp.out]; exact hO5⟩
          case measure => omega
        | false =>
          have hp := hd (pickI_miss (expB xs p) k q)
          go_wp2
          go_roundg (xs.length - (k + 1))
          case rel => exact ⟨k + 1, rfl, hkl, rfl, hw4, by rw [hp.out]; exact hO4⟩
          case measure => omega
      · obtain rfl : k = xs.length := by omega
        go_wp2
        refine bodyPost_ret (v := .tuple #[_, .int .i64 0]) (by simp [results, Tryd.results23, go_sem]; rfl) rfl ⟨_, by rw [hv.out], ?_, hw⟩
        rw [hv.out]
        exact hO
  · have hv := hd (show expF xs i = ([], atsF xs [i]) by unfold expF; rw [if_neg hz])
    have hz2 : (atsF xs [i] != 0) = true := by simp [hz]
    go_enter Tryd.func23, Tryd.ntmps23
    go_wp2_with fail
    refine Calls.mono (spec_l05At xs A cap i _ hC) ?_
    rintro e w1 ⟨rfl, hb1⟩
    go_wp2
    refine bodyPost_ret (v := .tuple #[_, .int .i64 (atsF xs [i])]) (by simp [results, Tryd.results23, go_sem]; rfl) rfl ⟨_, by rw [hv.out], ?_, by ((repeat (first | with_reducible exact Ext.refl _ | with_reducible exact hw | with_reducible exact hb9 | with_reducible exact hb8 | with_reducible exact hb7 | with_reducible exact hb6 | with_reducible exact hb5 | with_reducible exact hb4 | with_reducible exact hb3 | with_reducible exact hb2 | with_reducible exact hb1 | with_reducible refine Ext.alloc ?_ _ | with_reducible refine Ext.drew ?_ | ((with_reducible refine Ext.set ?_ ?_ _); focus (dsimp only; omega)) | with_reducible refine Ext.trans ?_ hb9 | with_reducible refine Ext.trans ?_ hb8 | with_reducible refine Ext.trans ?_ hb7 | with_reducible refine Ext.trans ?_ hb6 | with_reducible refine Ext.trans ?_ hb5 | with_reducible refine Ext.trans ?_ hb4 | with_reducible refine Ext.trans ?_ hb3 | with_reducible refine Ext.trans ?_ hb2 | with_reducible refine Ext.trans ?_ hb1 | with_reducible refine Ext.trans ?_ hw)))⟩
    rw [hv.out]
    exact Ow.made0 rfl hb1.size
set_option maxHeartbeats 1000000 in
theorem impl_ExpandEntry (xs : List Ent) (A : Option Addr) (cap : Nat) (i : Int) (w : World) (hC : CatArg w A cap xs) (hG : Glob w) :
    Calls Tryd.prog 24 #[.slice A xs.length cap, .int .i64 i] w fun e w' => ∃ v, e = .returned (.tuple #[v, .int .i64 (expF xs i).2]) ∧ Ow encI64 2 w' w.heap.size v (expF xs i).1 ∧ Ext w w' := by
  by_cases hz : atsF xs [i] = 0
  · obtain ⟨hc, h0, h1⟩ := atsF_one hz
    have hv := hd (show expF xs i = (pickI (expB xs (firstF xs i)) xs.length, 0) by unfold expF; rw [if_pos hz])
    have hlen := cat_len hc
    have hS := cat_stands hc
    have himp := fun (k : Nat) (hk : k < xs.length) => expB_impl hc (firstF xs i) k hk
    have hnl := pickI_len (narB xs (firstF xs i)) xs.length
    go_enter Tryd.func24, Tryd.ntmps24
    go_wp2_with fail
    refine Calls.mono (impl_checkEntries xs A cap [i] _ 1 _ (hC.ext (by ((repeat (first | with_reducible exact Ext.refl _ | with_reducible exact hw | with_reducible exact hb9 | with_reducible exact hb8 | with_reducible exact hb7 | with_reducible exact hb6 | with_reducible exact hb5 | with_reducible exact hb4 | with_reducible exact hb3 | with_reducible exact hb2 | with_reducible exact hb1 | with_reducible refine Ext.alloc ?_ _ | with_reducible refine Ext.drew ?_ | ((with_reducible refine Ext.set ?_ ?_ _); focus (dsimp only; omega)) | with_reducible refine Ext.trans ?_ hb9 | with_reducible refine Ext.trans ?_ hb8 | with_reducible refine Ext.trans ?_ hb7 | with_reducible refine Ext.trans ?_ hb6 | with_reducible refine Ext.trans ?_ hb5 | with_reducible refine Ext.trans ?_ hb4 | with_reducible refine Ext.trans ?_ hb3 | with_reducible refine Ext.trans ?_ hb2 | with_reducible refine Ext.trans ?_ hb1 | with_reducible refine Ext.trans ?_ hw))))) Rd.lit1 (by simp) (hG.ext (by ((repeat (first | with_reducible exact Ext.refl _ | with_reducible exact hw | with_reducible exact hb9 | with_reducible exact hb8 | with_reducible exact hb7 | with_reducible exact hb6 | with_reducible exact hb5 | with_reducible exact hb4 | with_reducible exact hb3 | with_reducible exact hb2 | with_reducible exact hb1 | with_reducible refine Ext.alloc ?_ _ | with_reducible refine Ext.drew ?_ | ((with_reducible refine Ext.set ?_ ?_ _); focus (dsimp only; omega)) | with_reducible refine Ext.trans ?_ hb9 | with_reducible refine Ext.trans ?_ hb8 | with_reducible refine Ext.trans ?_ hb7 | with_reducible refine Ext.trans ?_ hb6 | with_reducible refine Ext.trans ?_ hb5 | with_reducible refine Ext.trans ?_ hb4 | with_reducible refine Ext.trans ?_ hb3 | with_reducible refine Ext.trans ?_ hb2 | with_reducible refine Ext.trans ?_ hb1 | with_reducible refine Ext.trans ?_ hw)))))) ?_
    rintro e w1 ⟨rfl, hb1⟩
    rw [hz]
    have hw1 : Ext w w1 := by ((repeat (first | with_reducible exact Ext.refl _ | with_reducible exact hw | with_reducible exact hb9 | with_reducible exact hb8 | with_reducible exact hb7 | with_reducible exact hb6 | with_reducible exact hb5 | with_reducible exact hb4 | with_reducible exact hb3 | with_reducible exact hb2 | with_reducible exact hb1 | with_reducible refine Ext.alloc ?_ _ | with_reducible refine Ext.drew ?_ | ((with_reducible refine Ext.set ?_ ?_ _); focus (dsimp only; omega)) | with_reducible refine Ext.trans ?_ hb9 | with_reducible refine Ext.trans ?_ hb8 | with_reducible refine Ext.trans ?_ hb7 | with_reducible refine Ext.trans ?_ hb6 | with_reducible refine Ext.trans ?_ hb5 | with_reducible refine Ext.trans ?_ hb4 | with_reducible refine Ext.trans ?_ hb3 | with_reducible refine Ext.trans ?_ hb2 | with_reducible refine Ext.trans ?_ hb1 | with_reducible refine Ext.trans ?_ hw)))
    clear hb1
    go_wp2_with fail
    refine Calls.mono (impl_narrower xs A cap i _ (hC.rd.ext hw1) hc h0 h1) ?_
    rintro e w2 ⟨v2, rfl, hO2, hb2⟩
    have hw2 := hw1.trans hb2
    have hO2' := hO2.lower (base' := w.heap.size) hw1.size
    clear hO2 hw1 hb2
    go_wp2_with fail
    refine Calls.mono (impl_preferred xs A cap i _ (hC.rd.ext hw2) h0 h1 hC.len) ?_
    rintro e w3 ⟨rfl, hb3⟩
    have hw3 := hw2.trans hb3
    have hO3 := hO2'.ext hb3
    clear hO2' hw2 hb3
    generalize firstF xs i = p at hv himp hO3 hnl
    generalize pickI (narB xs p) xs.length = ns at himp hO3 hnl
    go_wp2_with (at_builtin; refine wpList_push2 (w0 := w) (base := w.heap.size) (xs := ns) encI64 (by rfl) _ _ 24 (.int .i64 0) 8 (by rfl) Tryd.underlying24 info_i64 (by rfl) (p) (by rfl) (by rfl) (by simp) (hO3) ((hw3 : Ext w _).size) (Nat.le_refl _) (hw3) (by omega) (by omega) ?_)
    intro v4 w4 hO4 hb4 hg4 _
    obtain ⟨A4, c4, rfl, hle4, hR4⟩ := hO4.slice
    have hal : (ns ++ [p]).length ≤ 1048576 := by rw [List.length_append, List.length_singleton]; omega
    generalize ns ++ [p] = al at himp hO4 hle4 hR4 hal
    clear hO4 hO3 hg4
    go_wp2
    go_loopg [28, 8] xs.length (fun g i v wr => ∃ k : Nat, g = xs.length - k ∧ k ≤ xs.length ∧ i = .int .i64 k ∧ Ext w4 wr ∧ Ow encI64 2 wr w4.heap.size v (pickI (expB xs p) k))
    case atStart => exact ⟨0, by omega, by omega, rfl, (Ext.refl _).alloc _, by rw [pickI_zero]; exact Ow.made0 rfl (Nat.le_refl _)⟩
    case round =>
      obtain ⟨k, hg, hk, rfl, hw, hO⟩ := hrel
      have hwA := hb4.trans hw
      by_cases hkl : k < xs.length
      · have hpl := pickI_len (expB xs p) k
        have hq := himp k hkl
        have hfin := firstF_in hS (k : Int) (by omega) (by omega)
        go_wp2_with fail
        refine Calls.mono (impl_preferred xs A cap k _ (hC.rd.ext hwA) (by omega) (by omega) hC.len) ?_
        rintro e w5 ⟨rfl, hb5⟩
        generalize firstF xs k = f at hq hfin
        go_wp2_with fail
        refine Calls.mono (slices_Contains_i64 al _ _ _ f _ rfl ((hR4.ext hw).ext hb5) (by omega)) ?_
        rintro e w6 ⟨rfl, hb6⟩
        rw [hq]
        have hw6 := (hw.trans hb5).trans hb6
        have hO6 := (hO.ext hb5).ext hb6
        have hwB := hb4.trans hw6
        clear hq himp hb5 hb6 hO hw hwA
        cases q : expB xs p k with
        | true =>
          have hp := hd (pickI_hit (expB xs p) k q)
          go_wp2_with (at_builtin; refine wpList_push2 (w0 := w4) (base := w4.heap.size) (xs := pickI (expB xs p) k) encI64 (by rfl) _ _ 24 (.int .i64 0) 8 (by rfl) Tryd.underlying24 info_i64 (by rfl) ((k : Int)) (by rfl) (by rfl) (by simp) (hO6) ((hw6 : Ext w4 _).size) (Nat.le_refl _) (hw6) (by omega) (by omega) ?_)
          intro v7 w7 hO7 hb7 hg7 _
          go_wp2
          go_roundg (xs.length - (k + 1))
          case rel => exact ⟨k + 1, rfl, hkl, rfl, hb7, by rw [hp.out]; exact hO7⟩
          case measure => omega
        | false =>
          have hp := hd (pickI_miss (expB xs p) k q)
          go_wp2
          go_roundg (xs.length - (k + 1))
          case rel => exact ⟨k + 1, rfl, hkl, rfl, hw6, by rw [hp.out]; exact hO6⟩
          case measure => omega
      · obtain rfl : k = xs.length := by omega
        go_wp2
        refine bodyPost_ret (v := .tuple #[_, .int .i64 0]) (by simp [results, Tryd.results24, go_sem]; rfl) rfl ⟨_, by rw [hv.out], ?_, hwA⟩
        rw [hv.out]
        exact hO.lower hb4.size
  · have hv := hd (show expF xs i = ([], atsF xs [i]) by unfold expF; rw [if_neg hz])
    have hz2 : (atsF xs [i] != 0) = true := by simp [hz]
    go_enter Tryd.func24, Tryd.ntmps24
    go_wp2_with fail
    refine Calls.mono (impl_checkEntries xs A cap [i] _ 1 _ (hC.ext (by ((repeat (first | with_reducible exact Ext.refl _ | with_reducible exact hw | with_reducible exact hb9 | with_reducible exact hb8 | with_reducible exact hb7 | with_reducible exact hb6 | with_reducible exact hb5 | with_reducible exact hb4 | with_reducible exact hb3 | with_reducible exact hb2 | with_reducible exact hb1 | with_reducible refine Ext.alloc ?_ _ | with_reducible refine Ext.drew ?_ | ((with_reducible refine Ext.set ?_ ?_ _); focus (dsimp only; omega)) | with_reducible refine Ext.trans ?_ hb9 | with_reducible refine Ext.trans ?_ hb8 | with_reducible refine Ext.trans ?_ hb7 | with_reducible refine Ext.trans ?_ hb6 | with_reducible refine Ext.trans ?_ hb5 | with_reducible refine Ext.trans ?_ hb4 | with_reducible refine Ext.trans ?_ hb3 | with_reducible refine Ext.trans ?_ hb2 | with_reducible refine Ext.trans ?_ hb1 | with_reducible refine Ext.trans ?_ hw))))) Rd.lit1 (by simp) (hG.ext (by ((repeat (first | with_reducible exact Ext.refl _ | with_reducible exact hw | with_reducible exact hb9 | with_reducible exact hb8 | with_reducible exact hb7 | with_reducible exact hb6 | with_reducible exact hb5 | with_reducible exact hb4 | with_reducible exact hb3 | with_reducible exact hb2 | with_reducible exact hb1 | with_reducible refine Ext.alloc ?_ _ | with_reducible refine Ext.drew ?_ | ((with_reducible refine Ext.set ?_ ?_ _); focus (dsimp only; omega)) | with_reducible refine Ext.trans ?_ hb9 | with_reducible refine Ext.trans ?_ hb8 | with_reducible refine Ext.trans ?_ hb7 | with_reducible refine Ext.trans ?_ hb6 | with_reducible refine Ext.trans ?_ hb5 | with_reducible refine Ext.trans ?_ hb4 | with_reducible refine Ext.trans ?_ hb3 | with_reducible refine Ext.trans ?_ hb2 | with_reducible refine Ext.trans ?_ hb1 | with_reducible refine Ext.trans ?_ hw)))))) ?_
    rintro e w1 ⟨rfl, hb1⟩
    go_wp2
    refine bodyPost_ret (v := .tuple #[.slice none 0 0, .int .i64 (atsF xs [i])]) (by simp [results, Tryd.results24, go_sem]) rfl ⟨_, by rw [hv.out], ?_, by ((repeat (first | with_reducible exact Ext.refl _ | with_reducible exact hw | with_reducible exact hb9 | with_reducible exact hb8 | with_reducible exact hb7 | with_reducible exact hb6 | with_reducible exact hb5 | with_reducible exact hb4 | with_reducible exact hb3 | with_reducible exact hb2 | with_reducible exact hb1 | with_reducible refine Ext.alloc ?_ _ | with_reducible refine Ext.drew ?_ | ((with_reducible refine Ext.set ?_ ?_ _); focus (dsimp only; omega)) | with_reducible refine Ext.trans ?_ hb9 | with_reducible refine Ext.trans ?_ hb8 | with_reducible refine Ext.trans ?_ hb7 | with_reducible refine Ext.trans ?_ hb6 | with_reducible refine Ext.trans ?_ hb5 | with_reducible refine Ext.trans ?_ hb4 | with_reducible refine Ext.trans ?_ hb3 | with_reducible refine Ext.trans ?_ hb2 | with_reducible refine Ext.trans ?_ hb1 | with_reducible refine Ext.trans ?_ hw)))⟩
    rw [hv.out]
    exact Ow.nil _ _ _ _
