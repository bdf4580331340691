/-
  The contract of the program's function that reads a catalogue. (Under way: the second loop is open.)
-/
import Derived.Test.YtmphnocgihegbaaDoorE31
set_option linter.unusedVariables false
set_option linter.unusedSimpArgs false
set_option maxRecDepth 100000
namespace Go.Proofs.YtmphnocgihegbaaDoor
open Go.RowKit
theorem map_take_step {α β : Type} (f : α → β) (xs : List α) (k : Nat) (hk : k < xs.length) : (xs.map f).take (k + 1) = (xs.map f).take k ++ [f xs[k]] := by
  rw [List.take_succ_eq_append_getElem (by rw [List.length_map]; exact hk), List.getElem_map]
theorem linesF_len (s : ByteArray) (h : s.size ≤ 1048576) : (linesF s).1.length ≤ 1048577 ∧ ∀ l ∈ (linesF s).1, l.size ≤ 1048576 := by
  unfold linesF
  split
  · exact ⟨by simp, fun l hl => absurd hl (by simp)⟩
  · have h1 := bodyT_le s
    have h2 := splitC_le (bodyT s) 10
    exact ⟨by show (splitC 10 (bodyT s)).length ≤ _; omega, piece_le 10 1048576 _ (by omega)⟩
set_option maxHeartbeats 4000000 in
theorem impl_ReadCatalogue (text : ByteArray) (w : World) (hs : text.size ≤ 1048576) (hG : Glob w) :
    Calls Tryd.prog 19 #[.string text] w fun e w' => ∃ v, e = .returned (.tuple #[v, .int .i64 (readF text).2]) ∧ Ow encEnt 49 w' w.heap.size v (readF text).1 ∧ Ext w w' := by
  have hsame := read_same text
  obtain ⟨hll, hlz⟩ := linesF_len text hs
  go_enter Tryd.func19, Tryd.ntmps19
  go_wp2_with fail
  refine Calls.mono (impl_linesOf text _ hs hG) ?_
  rintro e w1 ⟨A, rfl, hR, hb1⟩
  have hw1 : Ext w w1 := by ((repeat (first | with_reducible exact Ext.refl _ | with_reducible exact hw | with_reducible exact hb9 | with_reducible exact hb8 | with_reducible exact hb7 | with_reducible exact hb6 | with_reducible exact hb5 | with_reducible exact hb4 | with_reducible exact hb3 | with_reducible exact hb2 | with_reducible exact hb1 | with_reducible refine Ext.alloc ?_ _ | with_reducible refine Ext.drew ?_ | ((with_reducible refine Ext.set ?_ ?_ _); focus (dsimp only; omega)) | with_reducible refine Ext.trans ?_ hb9 | with_reducible refine Ext.trans ?_ hb8 | with_reducible refine Ext.trans ?_ hb7 | with_reducible refine Ext.trans ?_ hb6 | with_reducible refine Ext.trans ?_ hb5 | with_reducible refine Ext.trans ?_ hb4 | with_reducible refine Ext.trans ?_ hb3 | with_reducible refine Ext.trans ?_ hb2 | with_reducible refine Ext.trans ?_ hb1 | with_reducible refine Ext.trans ?_ hw)))
  clear hb1
  have hll2 : ∃ ls ok, linesF text = (ls, ok) := ⟨_, _, rfl⟩
  obtain ⟨ls, ok, hL⟩ := hll2
  rw [hL] at hR hll hlz hsame ⊢
  simp only at hR hll hlz hsame ⊢
  cases ok with
  | false =>
    have hv := hd (show readF text = ([], 5) by unfold readF; rw [hsame.1]; rfl)
    clear hsame hL
    go_wp2
    refine bodyPost_ret (v := .tuple #[.slice none 0 0, .int .i64 5]) (by simp [results, Tryd.results19, go_sem]) rfl ⟨_, by rw [hv.out], ?_, hw1⟩
    rw [hv.out]
    exact Ow.nil _ _ _ _
  | true =>
    clear hL
    go_wp2
    go_loopg [33, 6] ls.length (fun g i v wr => ∃ k : Nat, g = ls.length - k ∧ k ≤ ls.length ∧ i = .int .i64 k ∧ Ext w1 wr ∧ Ow encStr 9 wr w1.heap.size v ((ls.map (cutL 59)).take k))
    case atStart => exact ⟨0, by omega, by omega, rfl, by ((repeat (first | with_reducible exact Ext.refl _ | with_reducible exact hw | with_reducible exact hb9 | with_reducible exact hb8 | with_reducible exact hb7 | with_reducible exact hb6 | with_reducible exact hb5 | with_reducible exact hb4 | with_reducible exact hb3 | with_reducible exact hb2 | with_reducible exact hb1 | with_reducible refine Ext.alloc ?_ _ | with_reducible refine Ext.drew ?_ | ((with_reducible refine Ext.set ?_ ?_ _); focus (dsimp only; omega)) | with_reducible refine Ext.trans ?_ hb9 | with_reducible refine Ext.trans ?_ hb8 | with_reducible refine Ext.trans ?_ hb7 | with_reducible refine Ext.trans ?_ hb6 | with_reducible refine Ext.trans ?_ hb5 | with_reducible refine Ext.trans ?_ hb4 | with_reducible refine Ext.trans ?_ hb3 | with_reducible refine Ext.trans ?_ hb2 | with_reducible refine Ext.trans ?_ hb1 | with_reducible refine Ext.trans ?_ hw))), Ow.made0 rfl (Nat.le_refl _)⟩
    case round =>
      obtain ⟨k, hg, hk, rfl, hb8, hO⟩ := hrel
      by_cases hkl : k < ls.length
      · have hstep := hd (map_take_step (cutL 59) ls k hkl)
        have hal : ((ls.map (cutL 59)).take k).length ≤ k := by rw [List.length_take]; omega
        obtain ⟨b, off, hA, hlt, _⟩ := hR k hkl
        subst hA
        have m0 := (hR.ext hb8).str k hkl
        have hz1 := hlz _ (List.getElem_mem hkl)
        go_wp2_with fail
        refine Calls.mono (strings_Cut1 ls[k] 59 _ hz1 ((hG.ext hw1).ext hb8)) ?_
        rintro e w2 ⟨rfl, hb2⟩
        have hO := hO.ext hb2
        have hb7 := hb8.trans hb2
        go_wp2_with (at_builtin; refine wpList_push2 (w0 := w1) (base := w1.heap.size) (xs := (ls.map (cutL 59)).take k) encStr (by rfl) _ _ 59 (.string ⟨#[]⟩) 16 (by rfl) Tryd.underlying59 info_str (by rfl) (cutL 59 ls[k]) (by rfl) (by rfl) (by simp) (hO.ext (by ((repeat (first | with_reducible exact Ext.refl _ | with_reducible exact hw | with_reducible exact hb9 | with_reducible exact hb8 | with_reducible exact hb7 | with_reducible exact hb6 | with_reducible exact hb5 | with_reducible exact hb4 | with_reducible exact hb3 | with_reducible exact hb2 | with_reducible exact hb1 | with_reducible refine Ext.alloc ?_ _ | with_reducible refine Ext.drew ?_ | ((with_reducible refine Ext.set ?_ ?_ _); focus (dsimp only; omega)) | with_reducible refine Ext.trans ?_ hb9 | with_reducible refine Ext.trans ?_ hb8 | with_reducible refine Ext.trans ?_ hb7 | with_reducible refine Ext.trans ?_ hb6 | with_reducible refine Ext.trans ?_ hb5 | with_reducible refine Ext.trans ?_ hb4 | with_reducible refine Ext.trans ?_ hb3 | with_reducible refine Ext.trans ?_ hb2 | with_reducible refine Ext.trans ?_ hb1 | with_reducible refine Ext.trans ?_ hw))))) ((by ((repeat (first | with_reducible exact Ext.refl _ | with_reducible exact hw | with_reducible exact hb9 | with_reducible exact hb8 | with_reducible exact hb7 | with_reducible exact hb6 | with_reducible exact hb5 | with_reducible exact hb4 | with_reducible exact hb3 | with_reducible exact hb2 | with_reducible exact hb1 | with_reducible refine Ext.alloc ?_ _ | with_reducible refine Ext.drew ?_ | ((with_reducible refine Ext.set ?_ ?_ _); focus (dsimp only; omega)) | with_reducible refine Ext.trans ?_ hb9 | with_reducible refine Ext.trans ?_ hb8 | with_reducible refine Ext.trans ?_ hb7 | with_reducible refine Ext.trans ?_ hb6 | with_reducible refine Ext.trans ?_ hb5 | with_reducible refine Ext.trans ?_ hb4 | with_reducible refine Ext.trans ?_ hb3 | with_reducible refine Ext.trans ?_ hb2 | with_reducible refine Ext.trans ?_ hb1 | with_reducible refine Ext.trans ?_ hw))) : Ext w1 _).size) (Nat.le_refl _) (by ((repeat (first | with_reducible exact Ext.refl _ | with_reducible exact hw | with_reducible exact hb9 | with_reducible exact hb8 | with_reducible exact hb7 | with_reducible exact hb6 | with_reducible exact hb5 | with_reducible exact hb4 | with_reducible exact hb3 | with_reducible exact hb2 | with_reducible exact hb1 | with_reducible refine Ext.alloc ?_ _ | with_reducible refine Ext.drew ?_ | ((with_reducible refine Ext.set ?_ ?_ _); focus (dsimp only; omega)) | with_reducible refine Ext.trans ?_ hb9 | with_reducible refine Ext.trans ?_ hb8 | with_reducible refine Ext.trans ?_ hb7 | with_reducible refine Ext.trans ?_ hb6 | with_reducible refine Ext.trans ?_ hb5 | with_reducible refine Ext.trans ?_ hb4 | with_reducible refine Ext.trans ?_ hb3 | with_reducible refine Ext.trans ?_ hb2 | with_reducible refine Ext.trans ?_ hb1 | with_reducible refine Ext.trans ?_ hw)))) (by omega) (by omega) ?_)
        intro v9 w9 hO9 hb9 hg9 _
        go_wp2
        go_roundg (ls.length - (k + 1))
        case rel => exact ⟨k + 1, rfl, hkl, rfl, hb9, by rw [hstep.out]; exact hO9⟩
        case measure => omega
      · obtain rfl : k = ls.length := by omega
        rw [List.take_of_length_le (by simp)] at hO
        obtain ⟨W, hW⟩ : ∃ W, W = wr := ⟨_, rfl⟩
        subst hW
        obtain ⟨BN, capN, rfl, hcapN, hRN⟩ := hO.slice
        clear hO
        have hNl : (ls.map (cutL 59)).length = ls.length := List.length_map _
        have hwW : Ext w W := hw1.trans hb8
        rw [hNl]
        go_wp2
        go_loopg [51, 12] ls.length (fun g i v wr => ∃ k : Nat, g = ls.length - k ∧ k ≤ ls.length ∧ i = .int .i64 k ∧ Ext W wr ∧ Ow encEnt 49 wr W.heap.size v ((listI ls).take k))
        case atStart => exact ⟨0, by omega, by omega, rfl, by ((repeat (first | with_reducible exact Ext.refl _ | with_reducible exact hw | with_reducible exact hb9 | with_reducible exact hb8 | with_reducible exact hb7 | with_reducible exact hb6 | with_reducible exact hb5 | with_reducible exact hb4 | with_reducible exact hb3 | with_reducible exact hb2 | with_reducible exact hb1 | with_reducible refine Ext.alloc ?_ _ | with_reducible refine Ext.drew ?_ | ((with_reducible refine Ext.set ?_ ?_ _); focus (dsimp only; omega)) | with_reducible refine Ext.trans ?_ hb9 | with_reducible refine Ext.trans ?_ hb8 | with_reducible refine Ext.trans ?_ hb7 | with_reducible refine Ext.trans ?_ hb6 | with_reducible refine Ext.trans ?_ hb5 | with_reducible refine Ext.trans ?_ hb4 | with_reducible refine Ext.trans ?_ hb3 | with_reducible refine Ext.trans ?_ hb2 | with_reducible refine Ext.trans ?_ hb1 | with_reducible refine Ext.trans ?_ hw))), Ow.made0 rfl (Nat.le_refl _)⟩
        case round =>
          obtain ⟨k, hg, hk, rfl, hb5, hO⟩ := hrel
          by_cases hkl : k < ls.length
          · have hstep := hd (show (listI ls).take (k + 1) = (listI ls).take k ++ [entI (ls.map (cutL 59)) ls[k]] from map_take_step (entI (ls.map (cutL 59))) ls k hkl)
            have hal : ((listI ls).take k).length ≤ k := by rw [List.length_take]; omega
            have hE : entI (ls.map (cutL 59)) ls[k] = ⟨cutL 59 ls[k], refI (ls.map (cutL 59)) ls[k] see3, refI (ls.map (cutL 59)) ls[k] below5⟩ := rfl
            have hkn : k < (ls.map (cutL 59)).length := by omega
            obtain ⟨b, off, hA, hlt, _⟩ := hR k hkl
            subst hA
            obtain ⟨b2, off2, hB, hlt2, _⟩ := hRN k hkn
            subst hB
            have m0 := (hR.ext (hb8.trans hb5)).str k hkl
            have n0 := (hRN.ext hb5).str k hkn
            rw [List.getElem_map] at n0
            have hz1 := hlz _ (List.getElem_mem hkl)
            have hz2 := cutR_le 59 ls[k]
            go_wp2_with fail
            refine Calls.mono (strings_Cut1 ls[k] 59 _ hz1 ((hG.ext hwW).ext (hb5.alloc _))) ?_
            rintro e w2 ⟨rfl, hb2⟩
            cases h1 : cutH 59 ls[k] with
            | false =>
              rw [show ∀ wd, refI (ls.map (cutL 59)) ls[k] wd = -1 from fun wd => by unfold refI; rw [h1, if_neg (by simp)]] at hE
              rw [show ∀ wd, refI (ls.map (cutL 59)) ls[k] wd = -1 from fun wd => by unfold refI; rw [h1, if_neg (by simp)]] at hE
              obtain ⟨hc0, hf0, hz0⟩ := bcell3 hb2
              have x0 : w2.cell? ⟨wr.heap.size, 0, none⟩ = some (.string (cutL 59 ls[k])) := hb2.cell (by go_simp)
              have x1 : w2.cell? ⟨wr.heap.size, 1, none⟩ = some (.int .i64 (-1)) := hb2.cell (by go_simp)
              have x2 : w2.cell? ⟨wr.heap.size, 2, none⟩ = some (.int .i64 (-1)) := hb2.cell (by go_simp)
              have f1 : w2.frozen? ⟨wr.heap.size, 1, none⟩ = false := (hf0 _ _ (by simp)).trans (by go_simp)
              have f2 : w2.frozen? ⟨wr.heap.size, 2, none⟩ = false := (hf0 _ _ (by simp)).trans (by go_simp)
              have xl : wr.heap.size < w2.heap.size := Nat.lt_of_lt_of_le (by simp) hb2.size
              have hxl := hb5.size
              have hb6 : Ext wr w2 := ((Ext.refl wr).alloc _).trans hb2
              have hb7 : Ext W w2 := hb5.trans hb6
              clear hb2 hc0 hf0 hz0
              have hE := hd hE
              go_wp2_with (at_builtin; refine wpList_push2 (w0 := W) (base := W.heap.size) (xs := (listI ls).take k) encEnt (by rfl) _ _ 27 (.agg #[.string ⟨#[]⟩, .int .i64 0, .int .i64 0]) 32 (by rfl) Tryd.underlying27 info_ent (by rfl) (⟨cutL 59 ls[k], -1, -1⟩) (by rfl) (by rfl) (by simp) (hO.ext (by ((repeat (first | with_reducible exact Ext.refl _ | with_reducible exact hw | with_reducible exact hb9 | with_reducible exact hb8 | with_reducible exact hb7 | with_reducible exact hb6 | with_reducible exact hb5 | with_reducible exact hb4 | with_reducible exact hb3 | with_reducible exact hb2 | with_reducible exact hb1 | with_reducible refine Ext.alloc ?_ _ | with_reducible refine Ext.drew ?_ | ((with_reducible refine Ext.set ?_ ?_ _); focus (dsimp only; omega)) | with_reducible refine Ext.trans ?_ hb9 | with_reducible refine Ext.trans ?_ hb8 | with_reducible refine Ext.trans ?_ hb7 | with_reducible refine Ext.trans ?_ hb6 | with_reducible refine Ext.trans ?_ hb5 | with_reducible refine Ext.trans ?_ hb4 | with_reducible refine Ext.trans ?_ hb3 | with_reducible refine Ext.trans ?_ hb2 | with_reducible refine Ext.trans ?_ hb1 | with_reducible refine Ext.trans ?_ hw))))) ((by ((repeat (first | with_reducible exact Ext.refl _ | with_reducible exact hw | with_reducible exact hb9 | with_reducible exact hb8 | with_reducible exact hb7 | with_reducible exact hb6 | with_reducible exact hb5 | with_reducible exact hb4 | with_reducible exact hb3 | with_reducible exact hb2 | with_reducible exact hb1 | with_reducible refine Ext.alloc ?_ _ | with_reducible refine Ext.drew ?_ | ((with_reducible refine Ext.set ?_ ?_ _); focus (dsimp only; omega)) | with_reducible refine Ext.trans ?_ hb9 | with_reducible refine Ext.trans ?_ hb8 | with_reducible refine Ext.trans ?_ hb7 | with_reducible refine Ext.trans ?_ hb6 | with_reducible refine Ext.trans ?_ hb5 | with_reducible refine Ext.trans ?_ hb4 | with_reducible refine Ext.trans ?_ hb3 | with_reducible refine Ext.trans ?_ hb2 | with_reducible refine Ext.trans ?_ hb1 | with_reducible refine Ext.trans ?_ hw))) : Ext W _).size) (Nat.le_refl _) (by ((repeat (first | with_reducible exact Ext.refl _ | with_reducible exact hw | with_reducible exact hb9 | with_reducible exact hb8 | with_reducible exact hb7 | with_reducible exact hb6 | with_reducible exact hb5 | with_reducible exact hb4 | with_reducible exact hb3 | with_reducible exact hb2 | with_reducible exact hb1 | with_reducible refine Ext.alloc ?_ _ | with_reducible refine Ext.drew ?_ | ((with_reducible refine Ext.set ?_ ?_ _); focus (dsimp only; omega)) | with_reducible refine Ext.trans ?_ hb9 | with_reducible refine Ext.trans ?_ hb8 | with_reducible refine Ext.trans ?_ hb7 | with_reducible refine Ext.trans ?_ hb6 | with_reducible refine Ext.trans ?_ hb5 | with_reducible refine Ext.trans ?_ hb4 | with_reducible refine Ext.trans ?_ hb3 | with_reducible refine Ext.trans ?_ hb2 | with_reducible refine Ext.trans ?_ hb1 | with_reducible refine Ext.trans ?_ hw)))) (by omega) (by omega) ?_)
              intro v9 w9 hO9 hb9 hg9 _
              go_wp2
              go_roundg (ls.length - (k + 1))
              case rel => exact ⟨k + 1, rfl, hkl, rfl, hb9, by rw [hstep.out, hE.out]; exact hO9⟩
              case measure => omega
            | true =>
              go_wp2_with fail
              refine Calls.mono (strings_Cut1 (cutR 59 ls[k]) 32 _ (by omega) ((hG.ext hwW).ext ((hb5.alloc _).trans hb2))) ?_
              rintro e w3 ⟨rfl, hb3⟩
              have hb23 := hb2.trans hb3
              clear hb2 hb3
              go_wp2_with fail
              refine Calls.mono (slices_Index_str (ls.map (cutL 59)) _ _ _ (cutR 32 (cutR 59 ls[k])) _ hNl.symm (hRN.ext ((hb5.alloc _).trans hb23)) (by omega)) ?_
              rintro e w4 ⟨rfl, hb4⟩
              have hb2 := hb23.trans hb4
              clear hb23 hb4
              obtain ⟨hc0, hf0, hz0⟩ := bcell3 hb2
              have x0 : w4.cell? ⟨wr.heap.size, 0, none⟩ = some (.string (cutL 59 ls[k])) := hb2.cell (by go_simp)
              have x1 : w4.cell? ⟨wr.heap.size, 1, none⟩ = some (.int .i64 (-1)) := hb2.cell (by go_simp)
              have x2 : w4.cell? ⟨wr.heap.size, 2, none⟩ = some (.int .i64 (-1)) := hb2.cell (by go_simp)
              have f1 : w4.frozen? ⟨wr.heap.size, 1, none⟩ = false := (hf0 _ _ (by simp)).trans (by go_simp)
              have f2 : w4.frozen? ⟨wr.heap.size, 2, none⟩ = false := (hf0 _ _ (by simp)).trans (by go_simp)
              have xl : wr.heap.size < w4.heap.size := Nat.lt_of_lt_of_le (by simp) hb2.size
              have hxl := hb5.size
              have hb6 : Ext wr w4 := ((Ext.refl wr).alloc _).trans hb2
              have hb7 : Ext W w4 := hb5.trans hb6
              clear hb2 hc0 hf0 hz0
              have L3 : see3.toList = [115, 101, 101] := by rw [Lib.toList_data]
              have L5 : below5.toList = [98, 101, 108, 111, 119] := by rw [Lib.toList_data]
              cases c1 : eqS (cutL 32 (cutR 59 ls[k])) see3 with
              | true =>
                have c2 : eqS (cutL 32 (cutR 59 ls[k])) below5 = false := by rw [eqS_eq c1]; exact Bool.eq_false_iff.2 (eqS_ne (by decide))
                have rsee3 : refI (ls.map (cutL 59)) ls[k] see3 = idxI (ls.map (cutL 59)) (cutR 32 (cutR 59 ls[k])) := if_pos ⟨h1, c1⟩
                have rbelow5 : refI (ls.map (cutL 59)) ls[k] below5 = -1 := if_neg (fun h => by rw [c2] at h; exact absurd h.2 (by simp))
                rw [rsee3, rbelow5] at hE
                have q1 : ((cutL 32 (cutR 59 ls[k])).toList == [115, 101, 101]) = true := by have q := c1; unfold eqS at q; rwa [L3] at q
                have hE := hd hE
                go_wp2_with (at_builtin; refine wpList_push2 (w0 := W) (base := W.heap.size) (xs := (listI ls).take k) encEnt (by rfl) _ _ 27 (.agg #[.string ⟨#[]⟩, .int .i64 0, .int .i64 0]) 32 (by rfl) Tryd.underlying27 info_ent (by rfl) (⟨cutL 59 ls[k], idxI (ls.map (cutL 59)) (cutR 32 (cutR 59 ls[k])), -1⟩) (by rfl) (by rfl) (by simp) (hO.ext (by ((repeat (first | with_reducible exact Ext.refl _ | with_reducible exact hw | with_reducible exact hb9 | with_reducible exact hb8 | with_reducible exact hb7 | with_reducible exact hb6 | with_reducible exact hb5 | with_reducible exact hb4 | with_reducible exact hb3 | with_reducible exact hb2 | with_reducible exact hb1 | with_reducible refine Ext.alloc ?_ _ | with_reducible refine Ext.drew ?_ | ((with_reducible refine Ext.set ?_ ?_ _); focus (dsimp only; omega)) | with_reducible refine Ext.trans ?_ hb9 | with_reducible refine Ext.trans ?_ hb8 | with_reducible refine Ext.trans ?_ hb7 | with_reducible refine Ext.trans ?_ hb6 | with_reducible refine Ext.trans ?_ hb5 | with_reducible refine Ext.trans ?_ hb4 | with_reducible refine Ext.trans ?_ hb3 | with_reducible refine Ext.trans ?_ hb2 | with_reducible refine Ext.trans ?_ hb1 | with_reducible refine Ext.trans ?_ hw))))) ((by ((repeat (first | with_reducible exact Ext.refl _ | with_reducible exact hw | with_reducible exact hb9 | with_reducible exact hb8 | with_reducible exact hb7 | with_reducible exact hb6 | with_reducible exact hb5 | with_reducible exact hb4 | with_reducible exact hb3 | with_reducible exact hb2 | with_reducible exact hb1 | with_reducible refine Ext.alloc ?_ _ | with_reducible refine Ext.drew ?_ | ((with_reducible refine Ext.set ?_ ?_ _); focus (dsimp only; omega)) | with_reducible refine Ext.trans ?_ hb9 | with_reducible refine Ext.trans ?_ hb8 | with_reducible refine Ext.trans ?_ hb7 | with_reducible refine Ext.trans ?_ hb6 | with_reducible refine Ext.trans ?_ hb5 | with_reducible refine Ext.trans ?_ hb4 | with_reducible refine Ext.trans ?_ hb3 | with_reducible refine Ext.trans ?_ hb2 | with_reducible refine Ext.trans ?_ hb1 | with_reducible refine Ext.trans ?_ hw))) : Ext W _).size) (Nat.le_refl _) (by ((repeat (first | with_reducible exact Ext.refl _ | with_reducible exact hw | with_reducible exact hb9 | with_reducible exact hb8 | with_reducible exact hb7 | with_reducible exact hb6 | with_reducible exact hb5 | with_reducible exact hb4 | with_reducible exact hb3 | with_reducible exact hb2 | with_reducible exact hb1 | with_reducible refine Ext.alloc ?_ _ | with_reducible refine Ext.drew ?_ | ((with_reducible refine Ext.set ?_ ?_ _); focus (dsimp only; omega)) | with_reducible refine Ext.trans ?_ hb9 | with_reducible refine Ext.trans ?_ hb8 | with_reducible refine Ext.trans ?_ hb7 | with_reducible refine Ext.trans ?_ hb6 | with_reducible refine Ext.trans ?_ hb5 | with_reducible refine Ext.trans ?_ hb4 | with_reducible refine Ext.trans ?_ hb3 | with_reducible refine Ext.trans ?_ hb2 | with_reducible refine Ext.trans ?_ hb1 | with_reducible refine Ext.trans ?_ hw)))) (by omega) (by omega) ?_)
                intro v9 w9 hO9 hb9 hg9 _
                go_wp2
                go_roundg (ls.length - (k + 1))
                case rel => exact ⟨k + 1, rfl, hkl, rfl, hb9, by rw [hstep.out, hE.out]; exact hO9⟩
                case measure => omega
              | false =>
                cases c2 : eqS (cutL 32 (cutR 59 ls[k])) below5 with
                | true =>
                  have rsee3 : refI (ls.map (cutL 59)) ls[k] see3 = -1 := if_neg (fun h => by rw [c1] at h; exact absurd h.2 (by simp))
                  have rbelow5 : refI (ls.map (cutL 59)) ls[k] below5 = idxI (ls.map (cutL 59)) (cutR 32 (cutR 59 ls[k])) := if_pos ⟨h1, c2⟩
                  rw [rsee3, rbelow5] at hE
                  have q1 : ((cutL 32 (cutR 59 ls[k])).toList == [115, 101, 101]) = false := by have q := c1; unfold eqS at q; rwa [L3] at q
                  have q2 : ((cutL 32 (cutR 59 ls[k])).toList == [98, 101, 108, 111, 119]) = true := by have q := c2; unfold eqS at q; rwa [L5] at q
                  have hE := hd hE
                  go_wp2_with (at_builtin; refine wpList_push2 (w0 := W) (base := W.heap.size) (xs := (listI ls).take k) encEnt (by rfl) _ _ 27 (.agg #[.string ⟨#[]⟩, .int .i64 0, .int .i64 0]) 32 (by rfl) Tryd.underlying27 info_ent (by rfl) (⟨cutL 59 ls[k], -1, idxI (ls.map (cutL 59)) (cutR 32 (cutR 59 ls[k]))⟩) (by rfl) (by rfl) (by simp) (hO.ext (by ((repeat (first | with_reducible exact Ext.refl _ | with_reducible exact hw | with_reducible exact hb9 | with_reducible exact hb8 | with_reducible exact hb7 | with_reducible exact hb6 | with_reducible exact hb5 | with_reducible exact hb4 | with_reducible exact hb3 | with_reducible exact hb2 | with_reducible exact hb1 | with_reducible refine Ext.alloc ?_ _ | with_reducible refine Ext.drew ?_ | ((with_reducible refine Ext.set ?_ ?_ _); focus (dsimp only; omega)) | with_reducible refine Ext.trans ?_ hb9 | with_reducible refine Ext.trans ?_ hb8 | with_reducible refine Ext.trans ?_ hb7 | with_reducible refine Ext.trans ?_ hb6 | with_reducible refine Ext.trans ?_ hb5 | with_reducible refine Ext.trans ?_ hb4 | with_reducible refine Ext.trans ?_ hb3 | with_reducible refine Ext.trans ?_ hb2 | with_reducible refine Ext.trans ?_ hb1 | with_reducible refine Ext.trans ?_ hw))))) ((by ((repeat (first | with_reducible exact Ext.refl _ | with_reducible exact hw | with_reducible exact hb9 | with_reducible exact hb8 | with_reducible exact hb7 | with_reducible exact hb6 | with_reducible exact hb5 | with_reducible exact hb4 | with_reducible exact hb3 | with_reducible exact hb2 | with_reducible exact hb1 | with_reducible refine Ext.alloc ?_ _ | with_reducible refine Ext.drew ?_ | ((with_reducible refine Ext.set ?_ ?_ _); focus (dsimp only; omega)) | with_reducible refine Ext.trans ?_ hb9 | with_reducible refine Ext.trans ?_ hb8 | with_reducible refine Ext.trans ?_ hb7 | with_reducible refine Ext.trans ?_ hb6 | with_reducible refine Ext.trans ?_ hb5 | with_reducible refine Ext.trans ?_ hb4 | with_reducible refine Ext.trans ?_ hb3 | with_reducible refine Ext.trans ?_ hb2 | with_reducible refine Ext.trans ?_ hb1 | with_reducible refine Ext.trans ?_ hw))) : Ext W _).size) (Nat.le_refl _) (by ((repeat (first | with_reducible exact Ext.refl _ | with_reducible exact hw | with_reducible exact hb9 | with_reducible exact hb8 | with_reducible exact hb7 | with_reducible exact hb6 | with_reducible exact hb5 | with_reducible exact hb4 | with_reducible exact hb3 | with_reducible exact hb2 | with_reducible exact hb1 | with_reducible refine Ext.alloc ?_ _ | with_reducible refine Ext.drew ?_ | ((with_reducible refine Ext.set ?_ ?_ _); focus (dsimp only; omega)) | with_reducible refine Ext.trans ?_ hb9 | with_reducible refine Ext.trans ?_ hb8 | with_reducible refine Ext.trans ?_ hb7 | with_reducible refine Ext.trans ?_ hb6 | with_reducible refine Ext.trans ?_ hb5 | with_reducible refine Ext.trans ?_ hb4 | with_reducible refine Ext.trans ?_ hb3 | with_reducible refine Ext.trans ?_ hb2 | with_reducible refine Ext.trans ?_ hb1 | with_reducible refine Ext.trans ?_ hw)))) (by omega) (by omega) ?_)
                  intro v9 w9 hO9 hb9 hg9 _
                  go_wp2
                  go_roundg (ls.length - (k + 1))
                  case rel => exact ⟨k + 1, rfl, hkl, rfl, hb9, by rw [hstep.out, hE.out]; exact hO9⟩
                  case measure => omega
                | false =>
                  have rsee3 : refI (ls.map (cutL 59)) ls[k] see3 = -1 := if_neg (fun h => by rw [c1] at h; exact absurd h.2 (by simp))
                  have rbelow5 : refI (ls.map (cutL 59)) ls[k] below5 = -1 := if_neg (fun h => by rw [c2] at h; exact absurd h.2 (by simp))
                  rw [rsee3, rbelow5] at hE
                  have q1 : ((cutL 32 (cutR 59 ls[k])).toList == [115, 101, 101]) = false := by have q := c1; unfold eqS at q; rwa [L3] at q
                  have q2 : ((cutL 32 (cutR 59 ls[k])).toList == [98, 101, 108, 111, 119]) = false := by have q := c2; unfold eqS at q; rwa [L5] at q
                  have hE := hd hE
                  go_wp2_with (at_builtin; refine wpList_push2 (w0 := W) (base := W.heap.size) (xs := (listI ls).take k) encEnt (by rfl) _ _ 27 (.agg #[.string ⟨#[]⟩, .int .i64 0, .int .i64 0]) 32 (by rfl) Tryd.underlying27 info_ent (by rfl) (⟨cutL 59 ls[k], -1, -1⟩) (by rfl) (by rfl) (by simp) (hO.ext (by ((repeat (first | with_reducible exact Ext.refl _ | with_reducible exact hw | with_reducible exact hb9 | with_reducible exact hb8 | with_reducible exact hb7 | with_reducible exact hb6 | with_reducible exact hb5 | with_reducible exact hb4 | with_reducible exact hb3 | with_reducible exact hb2 | with_reducible exact hb1 | with_reducible refine Ext.alloc ?_ _ | with_reducible refine Ext.drew ?_ | ((with_reducible refine Ext.set ?_ ?_ _); focus (dsimp only; omega)) | with_reducible refine Ext.trans ?_ hb9 | with_reducible refine Ext.trans ?_ hb8 | with_reducible refine Ext.trans ?_ hb7 | with_reducible refine Ext.trans ?_ hb6 | with_reducible refine Ext.trans ?_ hb5 | with_reducible refine Ext.trans ?_ hb4 | with_reducible refine Ext.trans ?_ hb3 | with_reducible refine Ext.trans ?_ hb2 | with_reducible refine Ext.trans ?_ hb1 | with_reducible refine Ext.trans ?_ hw))))) ((by ((repeat (first | with_reducible exact Ext.refl _ | with_reducible exact hw | with_reducible exact hb9 | with_reducible exact hb8 | with_reducible exact hb7 | with_reducible exact hb6 | with_reducible exact hb5 | with_reducible exact hb4 | with_reducible exact hb3 | with_reducible exact hb2 | with_reducible exact hb1 | with_reducible refine Ext.alloc ?_ _ | with_reducible refine Ext.drew ?_ | ((with_reducible refine Ext.set ?_ ?_ _); focus (dsimp only; omega)) | with_reducible refine Ext.trans ?_ hb9 | with_reducible refine Ext.trans ?_ hb8 | with_reducible refine Ext.trans ?_ hb7 | with_reducible refine Ext.trans ?_ hb6 | with_reducible refine Ext.trans ?_ hb5 | with_reducible refine Ext.trans ?_ hb4 | with_reducible refine Ext.trans ?_ hb3 | with_reducible refine Ext.trans ?_ hb2 | with_reducible refine Ext.trans ?_ hb1 | with_reducible refine Ext.trans ?_ hw))) : Ext W _).size) (Nat.le_refl _) (by ((repeat (first | with_reducible exact Ext.refl _ | with_reducible exact hw | with_reducible exact hb9 | with_reducible exact hb8 | with_reducible exact hb7 | with_reducible exact hb6 | with_reducible exact hb5 | with_reducible exact hb4 | with_reducible exact hb3 | with_reducible exact hb2 | with_reducible exact hb1 | with_reducible refine Ext.alloc ?_ _ | with_reducible refine Ext.drew ?_ | ((with_reducible refine Ext.set ?_ ?_ _); focus (dsimp only; omega)) | with_reducible refine Ext.trans ?_ hb9 | with_reducible refine Ext.trans ?_ hb8 | with_reducible refine Ext.trans ?_ hb7 | with_reducible refine Ext.trans ?_ hb6 | with_reducible refine Ext.trans ?_ hb5 | with_reducible refine Ext.trans ?_ hb4 | with_reducible refine Ext.trans ?_ hb3 | with_reducible refine Ext.trans ?_ hb2 | with_reducible refine Ext.trans ?_ hb1 | with_reducible refine Ext.trans ?_ hw)))) (by omega) (by omega) ?_)
                  intro v9 w9 hO9 hb9 hg9 _
                  go_wp2
                  go_roundg (ls.length - (k + 1))
                  case rel => exact ⟨k + 1, rfl, hkl, rfl, hb9, by rw [hstep.out, hE.out]; exact hO9⟩
                  case measure => omega
          · obtain rfl : k = ls.length := by omega
            rw [List.take_of_length_le (by unfold listI; simp)] at hO
            have hw9 : Ext w wr := hwW.trans hb5
            obtain ⟨B, capB, rfl, hcapB, hRB⟩ := hO.slice
            have hokB : ∀ x ∈ listI ls, x.nm.size ≤ 9223372036854775807 := by
              intro x hx
              unfold listI at hx
              obtain ⟨l, hl, rfl⟩ := List.mem_map.1 hx
              have h1 := hlz l hl
              have h2 := cutL_le 59 l
              show (cutL 59 l).size ≤ _
              omega
            have hcz := hwW.size
            cases hc : catB (listI ls) with
            | false =>
              have hv := hd (show readF text = ([], 5) by unfold readF; rw [hsame.1, hc]; rfl)
              clear hsame
              go_wp2_with fail
              refine Calls.mono (impl_isCatalogue (listI ls) _ _ _ hRB hcapB hokB (hG.ext hw9)) ?_
              rintro e w3 ⟨rfl, hb3⟩
              simp only [hc]
              go_wp2
              refine bodyPost_ret (v := .tuple #[.slice none 0 0, .int .i64 5]) (by simp [results, Tryd.results19, go_sem]) rfl ⟨_, by rw [hv.out], ?_, hw9.trans hb3⟩
              rw [hv.out]
              exact Ow.nil _ _ _ _
            | true =>
              cases ht : eqS (textL (listI ls)) text with
              | false =>
                have hv := hd (show readF text = ([], 5) by unfold readF; rw [hsame.1, hc, ht]; rfl)
                have q : ((textL (listI ls)).toList == text.toList) = false := ht
                clear hsame ht
                go_wp2_with fail
                refine Calls.mono (impl_isCatalogue (listI ls) _ _ _ hRB hcapB hokB (hG.ext hw9)) ?_
                rintro e w3 ⟨rfl, hb3⟩
                simp only [hc]
                go_wp2_with fail
                refine Calls.mono (impl_catalogueText (listI ls) _ _ _ (hRB.ext hb3) hc) ?_
                rintro e w4 ⟨rfl, hb4⟩
                generalize textL (listI ls) = tt at q
                have hb6 := hb3.trans hb4
                go_wp2
                refine bodyPost_ret (v := .tuple #[.slice none 0 0, .int .i64 5]) (by simp [results, Tryd.results19, go_sem]) rfl ⟨_, by rw [hv.out], ?_, hw9.trans hb6⟩
                rw [hv.out]
                exact Ow.nil _ _ _ _
              | true =>
                have hr : readB text = true := by rw [hsame.1, hc, ht]; rfl
                have hv := hd (show readF text = (listI ls, 0) by unfold readF; rw [if_pos hr, hsame.2 hr])
                have q : ((textL (listI ls)).toList == text.toList) = true := ht
                clear hsame ht hr
                go_wp2_with fail
                refine Calls.mono (impl_isCatalogue (listI ls) _ _ _ hRB hcapB hokB (hG.ext hw9)) ?_
                rintro e w3 ⟨rfl, hb3⟩
                simp only [hc]
                go_wp2_with fail
                refine Calls.mono (impl_catalogueText (listI ls) _ _ _ (hRB.ext hb3) hc) ?_
                rintro e w4 ⟨rfl, hb4⟩
                generalize textL (listI ls) = tt at q
                have hb6 := hb3.trans hb4
                go_wp2
                refine bodyPost_ret (v := .tuple #[_, .int .i64 0]) (by simp [results, Tryd.results19, go_sem]; rfl) rfl ⟨_, by rw [hv.out], ?_, hw9.trans hb6⟩
                rw [hv.out]
                exact (hO.ext hb6).lower hcz
