/-
  The contract of the model's function that reads a catalogue. (Written by mk31.py.)
-/
import Derived.Test.YtmphnocgihegbaaDoorE30
import Derived.Test.YtmphnocgihegbaaDoorE14
set_option linter.unusedVariables false
set_option linter.unusedSimpArgs false
set_option maxRecDepth 100000
namespace Go.Proofs.YtmphnocgihegbaaDoor
open Go.RowKit
def readF (text : ByteArray) : List Ent × Int := if readB text = true then (listS text, 0) else ([], 5)
def accS (ls : List ByteArray) (k : Nat) : List Ent := (ls.dropLast.take k).map (entS ls)
theorem accS_step (ls : List ByteArray) (k : Nat) (hk : k + 1 < ls.length) : accS ls (k + 1) = accS ls k ++ [entS ls ls[k]] := by
  have hkd : k < ls.dropLast.length := by rw [List.length_dropLast]; omega
  unfold accS
  rw [List.take_succ_eq_append_getElem hkd, List.map_append, List.map_singleton, List.getElem_dropLast]
theorem accS_all (text : ByteArray) : accS (splitC 10 text) ((splitC 10 text).length - 1) = listS text := by
  unfold accS listS
  rw [List.take_of_length_le (by rw [List.length_dropLast]; exact Nat.le_refl _)]
theorem accS_len (ls : List ByteArray) (k : Nat) : (accS ls k).length ≤ k := by
  unfold accS
  rw [List.length_map, List.length_take]
  omega
theorem refS_len {ls ps : List ByteArray} {wd : ByteArray} (h : ¬ ps.length = 2) : refS ls ps wd = -1 := if_neg (fun h2 => h h2.1)
theorem refS_short {ls ps : List ByteArray} {wd : ByteArray} (h : ¬ wd.size < ps[1]!.size) : refS ls ps wd = -1 := if_neg (fun h2 => h h2.2.1)
theorem refS_other {ls ps : List ByteArray} {wd : ByteArray} (h : eqS (ps[1]!.extract 0 wd.size) wd = false) : refS ls ps wd = -1 := if_neg (fun h2 => by rw [h] at h2; exact absurd h2.2.2 (by simp))
theorem refS_here {ls ps : List ByteArray} {wd : ByteArray} (h0 : ps.length = 2) (h1 : wd.size < ps[1]!.size) (h2 : eqS (ps[1]!.extract 0 wd.size) wd = true) : refS ls ps wd = idxS ls (ps[1]!.extract wd.size ps[1]!.size) := if_pos ⟨h0, h1, h2⟩
theorem piece1_le (s : ByteArray) (h : s.size ≤ 1048576) (h2 : (splitC 59 s).length = 2) : (splitC 59 s)[1]!.size ≤ 1048576 := by
  rw [getBang _ 1 (by omega)]
  exact piece_le 59 1048576 s h _ (List.getElem_mem _)
theorem seeL : seeW.toList = [115, 101, 101, 32] := by rw [Lib.toList_data]
theorem brL : belowW.toList = [98, 101, 108, 111, 119, 32] := by rw [Lib.toList_data]
theorem both_no {p : ByteArray} (h1 : eqS (p.extract 0 4) seeW = true) (h2 : eqS (p.extract 0 6) belowW = true) : False := by
  have e1 := congrArg (fun s : ByteArray => s.data.toList.head?) (eqS_eq h1)
  have e2 := congrArg (fun s : ByteArray => s.data.toList.head?) (eqS_eq h2)
  simp only [extr_data, List.drop_zero] at e1 e2
  cases h : p.data.toList with
  | nil => rw [h] at e1; simp at e1
  | cons x r =>
    rw [h] at e1 e2
    simp at e1 e2
    rw [e1] at e2
    exact absurd e2 (by decide)
set_option maxHeartbeats 4000000 in
theorem spec_ReadCatalogue (text : ByteArray) (w : World) (hs : text.size ≤ 1048576) :
    Calls Tryd.prog 18 #[.string text] w fun e w' => ∃ v, e = .returned (.tuple #[v, .int .i64 (readF text).2]) ∧ Ow encEnt 49 w' w.heap.size v (readF text).1 ∧ Ext w w' := by
  go_enter Tryd.func18, Tryd.ntmps18
  go_wp2_with fail
  refine Calls.mono (spec_l01Split text 10 (by omega) _) ?_
  rintro e w1 ⟨v1, rfl, hO1, hb1⟩
  have hall := accS_all text
  have hll : (splitC 10 text).length ≤ 1048577 := by have := splitC_le text 10; omega
  have hlz := piece_le 10 1048576 text hs
  have hl1 := splitC_pos 10 text
  obtain ⟨A, cap, rfl, hcap, hR⟩ := hO1.slice
  clear hO1
  generalize splitC 10 text = ls at hall hll hlz hl1 hcap hR
  have hw1 : Ext w w1 := by ((repeat (first | with_reducible exact Ext.refl _ | with_reducible exact hw | with_reducible exact hb9 | with_reducible exact hb8 | with_reducible exact hb7 | with_reducible exact hb6 | with_reducible exact hb5 | with_reducible exact hb4 | with_reducible exact hb3 | with_reducible exact hb2 | with_reducible exact hb1 | with_reducible refine Ext.alloc ?_ _ | with_reducible refine Ext.drew ?_ | ((with_reducible refine Ext.set ?_ ?_ _); focus (dsimp only; omega)) | with_reducible refine Ext.trans ?_ hb9 | with_reducible refine Ext.trans ?_ hb8 | with_reducible refine Ext.trans ?_ hb7 | with_reducible refine Ext.trans ?_ hb6 | with_reducible refine Ext.trans ?_ hb5 | with_reducible refine Ext.trans ?_ hb4 | with_reducible refine Ext.trans ?_ hb3 | with_reducible refine Ext.trans ?_ hb2 | with_reducible refine Ext.trans ?_ hb1 | with_reducible refine Ext.trans ?_ hw)))
  clear hb1
  go_wp2
  go_loopg [6, 5] ls.length (fun g i v wr => ∃ k : Nat, g = ls.length - k ∧ k ≤ ls.length - 1 ∧ i = .int .i64 k ∧ Ext w1 wr ∧ Ow encEnt 49 wr w1.heap.size v (accS ls k))
  case atStart => exact ⟨0, by omega, by omega, rfl, by ((repeat (first | with_reducible exact Ext.refl _ | with_reducible exact hw | with_reducible exact hb9 | with_reducible exact hb8 | with_reducible exact hb7 | with_reducible exact hb6 | with_reducible exact hb5 | with_reducible exact hb4 | with_reducible exact hb3 | with_reducible exact hb2 | with_reducible exact hb1 | with_reducible refine Ext.alloc ?_ _ | with_reducible refine Ext.drew ?_ | ((with_reducible refine Ext.set ?_ ?_ _); focus (dsimp only; omega)) | with_reducible refine Ext.trans ?_ hb9 | with_reducible refine Ext.trans ?_ hb8 | with_reducible refine Ext.trans ?_ hb7 | with_reducible refine Ext.trans ?_ hb6 | with_reducible refine Ext.trans ?_ hb5 | with_reducible refine Ext.trans ?_ hb4 | with_reducible refine Ext.trans ?_ hb3 | with_reducible refine Ext.trans ?_ hb2 | with_reducible refine Ext.trans ?_ hb1 | with_reducible refine Ext.trans ?_ hw))), Ow.made0 rfl (Nat.le_refl _)⟩
  case round =>
    obtain ⟨k, hg, hk, rfl, hw, hO⟩ := hrel
    by_cases hkl : k + 1 < ls.length
    · have hkl2 : k < ls.length := by omega
      have hstep := hd (accS_step ls k hkl)
      have hal := accS_len ls k
      obtain ⟨b, off, hA, hlt, _⟩ := hR k hkl2
      subst hA
      have m0 := (hR.ext hw).str k hkl2
      have hz1 := hlz _ (List.getElem_mem hkl2)
      have hE : entS ls ls[k] = ⟨(splitC 59 ls[k])[0]!, refS ls (splitC 59 ls[k]) seeW, refS ls (splitC 59 ls[k]) belowW⟩ := rfl
      have hp1 := piece1_le ls[k] hz1
      have hp := splitC_pos 59 ls[k]
      go_wp2_with fail
      refine Calls.mono (spec_l01Split ls[k] 59 (by omega) _) ?_
      rintro e w2 ⟨v2, rfl, hO2, hb2⟩
      obtain ⟨B, cap2, rfl, hcap2, hR2⟩ := hO2.slice
      clear hO2
      generalize splitC 59 ls[k] = ps at hE hp1 hp hcap2 hR2
      have hb8 : Ext w1 w2 := hw.trans hb2
      obtain ⟨b2, off2, hB, hlt2, _⟩ := hR2 0 hp
      subst hB
      have m1 := hR2.str 0 hp
      rw [Nat.add_zero] at m1
      rw [getBang ps 0 hp] at hE
      have hO := hO.ext hb2
      clear hb2 hw
      generalize ps[0] = nm at m1 hE
      by_cases hl2 : ps.length = 2
      · have m2 := hR2.str 1 (by omega)
        rw [← getBang ps 1 (by omega)] at m2
        have hp1 := hp1 hl2
        by_cases sees : 4 < ps[1]!.size
        · cases seee : eqS (ps[1]!.extract 0 4) seeW with
          | true =>
            have seer := refS_here (ls := ls) (wd := seeW) hl2 sees seee
            by_cases brs : 6 < ps[1]!.size
            · cases bre : eqS (ps[1]!.extract 0 6) belowW with
              | true =>
                have brr := refS_here (ls := ls) (wd := belowW) hl2 brs bre
                exact absurd (both_no seee bre) id
              | false =>
                have brr := refS_other (ls := ls) (ps := ps) (wd := belowW) bre
                rw [seer, brr] at hE
                have hE := hd hE
                clear seer brr
                have seeq : ((4 : Int) < ps[1]!.size) = True := by simp only [eq_iff_iff, iff_true]; omega
                have seee2 : ((ps[1]!.extract 0 4).toList == [115, 101, 101, 32]) = true := by have q := seee; unfold eqS at q; rwa [seeL] at q
                clear seee
                have brq : ((6 : Int) < ps[1]!.size) = True := by simp only [eq_iff_iff, iff_true]; omega
                have bre2 : ((ps[1]!.extract 0 6).toList == [98, 101, 108, 111, 119, 32]) = false := by have q := bre; unfold eqS at q; rwa [brL] at q
                clear bre
                have hq : ((ps.length : Int) == 2) = true := by simp [hl2]
                have hq2 : ((ps.length : Int) = 2) := by omega
                clear hl2
                generalize ps[1]! = p at *
                go_wp2_with fail
                refine Calls.mono (spec_l05Index ls _ _ cap (p.extract 4 p.size) _ rfl (hR.ext (hb8.alloc _)) hll hlz) ?_
                rintro e w3 ⟨rfl, hb3⟩
                have hb7 : Ext w1 w3 := (hb8.alloc _).trans hb3
                have hb6 : Ext w2 w3 := ((Ext.refl w2).alloc _).trans hb3
                obtain ⟨hc3, hf3, hz3⟩ := bcell3 hb3
                have f1 : w3.frozen? ⟨w2.heap.size, 1, none⟩ = false := (hf3 _ _ (by simp)).trans (by go_simp)
                have f2 : w3.frozen? ⟨w2.heap.size, 2, none⟩ = false := (hf3 _ _ (by simp)).trans (by go_simp)
                have x0 : w3.cell? ⟨w2.heap.size, 0, none⟩ = some (.string nm) := hb3.cell (by go_simp)
                have x1 : w3.cell? ⟨w2.heap.size, 1, none⟩ = some (.int .i64 (-1)) := hb3.cell (by go_simp)
                have x2 : w3.cell? ⟨w2.heap.size, 2, none⟩ = some (.int .i64 (-1)) := hb3.cell (by go_simp)
                have xl : w2.heap.size < w3.heap.size := Nat.lt_of_lt_of_le (by simp) hb3.size
                have hxl := hb8.size
                have m2 : w3.cell? ⟨b2, off2 + 1, none⟩ = some (.string p) := (((Ext.refl w2).alloc _).trans hb3).cell m2
                have hne : b2 ≠ w2.heap.size := by omega
                clear hb3 hc3 hf3 hz3
                go_wp2_with (at_builtin; refine wpList_push2 (w0 := w1) (base := w1.heap.size) (xs := accS ls k) encEnt (by rfl) _ _ 27 (.agg #[.string ⟨#[]⟩, .int .i64 0, .int .i64 0]) 32 (by rfl) Tryd.underlying27 info_ent (by rfl) (⟨nm, idxS ls (p.extract 4 p.size), -1⟩) (by rfl) (by rfl) (by simp) (hO.ext (by ((repeat (first | with_reducible exact Ext.refl _ | with_reducible exact hw | with_reducible exact hb9 | with_reducible exact hb8 | with_reducible exact hb7 | with_reducible exact hb6 | with_reducible exact hb5 | with_reducible exact hb4 | with_reducible exact hb3 | with_reducible exact hb2 | with_reducible exact hb1 | with_reducible refine Ext.alloc ?_ _ | with_reducible refine Ext.drew ?_ | ((with_reducible refine Ext.set ?_ ?_ _); focus (dsimp only; omega)) | with_reducible refine Ext.trans ?_ hb9 | with_reducible refine Ext.trans ?_ hb8 | with_reducible refine Ext.trans ?_ hb7 | with_reducible refine Ext.trans ?_ hb6 | with_reducible refine Ext.trans ?_ hb5 | with_reducible refine Ext.trans ?_ hb4 | with_reducible refine Ext.trans ?_ hb3 | with_reducible refine Ext.trans ?_ hb2 | with_reducible refine Ext.trans ?_ hb1 | with_reducible refine Ext.trans ?_ hw))))) ((by ((repeat (first | with_reducible exact Ext.refl _ | with_reducible exact hw | with_reducible exact hb9 | with_reducible exact hb8 | with_reducible exact hb7 | with_reducible exact hb6 | with_reducible exact hb5 | with_reducible exact hb4 | with_reducible exact hb3 | with_reducible exact hb2 | with_reducible exact hb1 | with_reducible refine Ext.alloc ?_ _ | with_reducible refine Ext.drew ?_ | ((with_reducible refine Ext.set ?_ ?_ _); focus (dsimp only; omega)) | with_reducible refine Ext.trans ?_ hb9 | with_reducible refine Ext.trans ?_ hb8 | with_reducible refine Ext.trans ?_ hb7 | with_reducible refine Ext.trans ?_ hb6 | with_reducible refine Ext.trans ?_ hb5 | with_reducible refine Ext.trans ?_ hb4 | with_reducible refine Ext.trans ?_ hb3 | with_reducible refine Ext.trans ?_ hb2 | with_reducible refine Ext.trans ?_ hb1 | with_reducible refine Ext.trans ?_ hw))) : Ext w1 _).size) (Nat.le_refl _) (by ((repeat (first | with_reducible exact Ext.refl _ | with_reducible exact hw | with_reducible exact hb9 | with_reducible exact hb8 | with_reducible exact hb7 | with_reducible exact hb6 | with_reducible exact hb5 | with_reducible exact hb4 | with_reducible exact hb3 | with_reducible exact hb2 | with_reducible exact hb1 | with_reducible refine Ext.alloc ?_ _ | with_reducible refine Ext.drew ?_ | ((with_reducible refine Ext.set ?_ ?_ _); focus (dsimp only; omega)) | with_reducible refine Ext.trans ?_ hb9 | with_reducible refine Ext.trans ?_ hb8 | with_reducible refine Ext.trans ?_ hb7 | with_reducible refine Ext.trans ?_ hb6 | with_reducible refine Ext.trans ?_ hb5 | with_reducible refine Ext.trans ?_ hb4 | with_reducible refine Ext.trans ?_ hb3 | with_reducible refine Ext.trans ?_ hb2 | with_reducible refine Ext.trans ?_ hb1 | with_reducible refine Ext.trans ?_ hw)))) (by omega) (by omega) ?_)
                intro v9 w9 hO9 hb9 hg9 _
                go_wp2
                go_roundg (ls.length - (k + 1))
                case rel => exact ⟨k + 1, rfl, by omega, rfl, hb9, by rw [hstep.out, hE.out]; exact hO9⟩
                case measure => omega
            · have brr := refS_short (ls := ls) (ps := ps) (wd := belowW) brs
              rw [seer, brr] at hE
              have hE := hd hE
              clear seer brr
              have seeq : ((4 : Int) < ps[1]!.size) = True := by simp only [eq_iff_iff, iff_true]; omega
              have seee2 : ((ps[1]!.extract 0 4).toList == [115, 101, 101, 32]) = true := by have q := seee; unfold eqS at q; rwa [seeL] at q
              clear seee
              have brq : ((6 : Int) < ps[1]!.size) = False := by simp only [eq_iff_iff, iff_false]; omega
              have hq : ((ps.length : Int) == 2) = true := by simp [hl2]
              have hq2 : ((ps.length : Int) = 2) := by omega
              clear hl2
              generalize ps[1]! = p at *
              go_wp2_with fail
              refine Calls.mono (spec_l05Index ls _ _ cap (p.extract 4 p.size) _ rfl (hR.ext (hb8.alloc _)) hll hlz) ?_
              rintro e w3 ⟨rfl, hb3⟩
              have hb7 : Ext w1 w3 := (hb8.alloc _).trans hb3
              have hb6 : Ext w2 w3 := ((Ext.refl w2).alloc _).trans hb3
              obtain ⟨hc3, hf3, hz3⟩ := bcell3 hb3
              have f1 : w3.frozen? ⟨w2.heap.size, 1, none⟩ = false := (hf3 _ _ (by simp)).trans (by go_simp)
              have f2 : w3.frozen? ⟨w2.heap.size, 2, none⟩ = false := (hf3 _ _ (by simp)).trans (by go_simp)
              have x0 : w3.cell? ⟨w2.heap.size, 0, none⟩ = some (.string nm) := hb3.cell (by go_simp)
              have x1 : w3.cell? ⟨w2.heap.size, 1, none⟩ = some (.int .i64 (-1)) := hb3.cell (by go_simp)
              have x2 : w3.cell? ⟨w2.heap.size, 2, none⟩ = some (.int .i64 (-1)) := hb3.cell (by go_simp)
              have xl : w2.heap.size < w3.heap.size := Nat.lt_of_lt_of_le (by simp) hb3.size
              have hxl := hb8.size
              have m2 : w3.cell? ⟨b2, off2 + 1, none⟩ = some (.string p) := (((Ext.refl w2).alloc _).trans hb3).cell m2
              have hne : b2 ≠ w2.heap.size := by omega
              clear hb3 hc3 hf3 hz3
              go_wp2_with (at_builtin; refine wpList_push2 (w0 := w1) (base := w1.heap.size) (xs := accS ls k) encEnt (by rfl) _ _ 27 (.agg #[.string ⟨#[]⟩, .int .i64 0, .int .i64 0]) 32 (by rfl) Tryd.underlying27 info_ent (by rfl) (⟨nm, idxS ls (p.extract 4 p.size), -1⟩) (by rfl) (by rfl) (by simp) (hO.ext (by ((repeat (first | with_reducible exact Ext.refl _ | with_reducible exact hw | with_reducible exact hb9 | with_reducible exact hb8 | with_reducible exact hb7 | with_reducible exact hb6 | with_reducible exact hb5 | with_reducible exact hb4 | with_reducible exact hb3 | with_reducible exact hb2 | with_reducible exact hb1 | with_reducible refine Ext.alloc ?_ _ | with_reducible refine Ext.drew ?_ | ((with_reducible refine Ext.set ?_ ?_ _); focus (dsimp only; omega)) | with_reducible refine Ext.trans ?_ hb9 | with_reducible refine Ext.trans ?_ hb8 | with_reducible refine Ext.trans ?_ hb7 | with_reducible refine Ext.trans ?_ hb6 | with_reducible refine Ext.trans ?_ hb5 | with_reducible refine Ext.trans ?_ hb4 | with_reducible refine Ext.trans ?_ hb3 | with_reducible refine Ext.trans ?_ hb2 | with_reducible refine Ext.trans ?_ hb1 | with_reducible refine Ext.trans ?_ hw))))) ((by ((repeat (first | with_reducible exact Ext.refl _ | with_reducible exact hw | with_reducible exact hb9 | with_reducible exact hb8 | with_reducible exact hb7 | with_reducible exact hb6 | with_reducible exact hb5 | with_reducible exact hb4 | with_reducible exact hb3 | with_reducible exact hb2 | with_reducible exact hb1 | with_reducible refine Ext.alloc ?_ _ | with_reducible refine Ext.drew ?_ | ((with_reducible refine Ext.set ?_ ?_ _); focus (dsimp only; omega)) | with_reducible refine Ext.trans ?_ hb9 | with_reducible refine Ext.trans ?_ hb8 | with_reducible refine Ext.trans ?_ hb7 | with_reducible refine Ext.trans ?_ hb6 | with_reducible refine Ext.trans ?_ hb5 | with_reducible refine Ext.trans ?_ hb4 | with_reducible refine Ext.trans ?_ hb3 | with_reducible refine Ext.trans ?_ hb2 | with_reducible refine Ext.trans ?_ hb1 | with_reducible refine Ext.trans ?_ hw))) : Ext w1 _).size) (Nat.le_refl _) (by ((repeat (first | with_reducible exact Ext.refl _ | with_reducible exact hw | with_reducible exact hb9 | with_reducible exact hb8 | with_reducible exact hb7 | with_reducible exact hb6 | with_reducible exact hb5 | with_reducible exact hb4 | with_reducible exact hb3 | with_reducible exact hb2 | with_reducible exact hb1 | with_reducible refine Ext.alloc ?_ _ | with_reducible refine Ext.drew ?_ | ((with_reducible refine Ext.set ?_ ?_ _); focus (dsimp only; omega)) | with_reducible refine Ext.trans ?_ hb9 | with_reducible refine Ext.trans ?_ hb8 | with_reducible refine Ext.trans ?_ hb7 | with_reducible refine Ext.trans ?_ hb6 | with_reducible refine Ext.trans ?_ hb5 | with_reducible refine Ext.trans ?_ hb4 | with_reducible refine Ext.trans ?_ hb3 | with_reducible refine Ext.trans ?_ hb2 | with_reducible refine Ext.trans ?_ hb1 | with_reducible refine Ext.trans ?_ hw)))) (by omega) (by omega) ?_)
              intro v9 w9 hO9 hb9 hg9 _
              go_wp2
              go_roundg (ls.length - (k + 1))
              case rel => exact ⟨k + 1, rfl, by omega, rfl, hb9, by rw [hstep.out, hE.out]; exact hO9⟩
              case measure => omega
          | false =>
            have seer := refS_other (ls := ls) (ps := ps) (wd := seeW) seee
            by_cases brs : 6 < ps[1]!.size
            · cases bre : eqS (ps[1]!.extract 0 6) belowW with
              | true =>
                have brr := refS_here (ls := ls) (wd := belowW) hl2 brs bre
                rw [seer, brr] at hE
                have hE := hd hE
                clear seer brr
                have seeq : ((4 : Int) < ps[1]!.size) = True := by simp only [eq_iff_iff, iff_true]; omega
                have seee2 : ((ps[1]!.extract 0 4).toList == [115, 101, 101, 32]) = false := by have q := seee; unfold eqS at q; rwa [seeL] at q
                clear seee
                have brq : ((6 : Int) < ps[1]!.size) = True := by simp only [eq_iff_iff, iff_true]; omega
                have bre2 : ((ps[1]!.extract 0 6).toList == [98, 101, 108, 111, 119, 32]) = true := by have q := bre; unfold eqS at q; rwa [brL] at q
                clear bre
                have hq : ((ps.length : Int) == 2) = true := by simp [hl2]
                have hq2 : ((ps.length : Int) = 2) := by omega
                clear hl2
                generalize ps[1]! = p at *
                go_wp2_with fail
                refine Calls.mono (spec_l05Index ls _ _ cap (p.extract 6 p.size) _ rfl (hR.ext (hb8.alloc _)) hll hlz) ?_
                rintro e w3 ⟨rfl, hb3⟩
                have hb7 : Ext w1 w3 := (hb8.alloc _).trans hb3
                have hb6 : Ext w2 w3 := ((Ext.refl w2).alloc _).trans hb3
                obtain ⟨hc3, hf3, hz3⟩ := bcell3 hb3
                have f1 : w3.frozen? ⟨w2.heap.size, 1, none⟩ = false := (hf3 _ _ (by simp)).trans (by go_simp)
                have f2 : w3.frozen? ⟨w2.heap.size, 2, none⟩ = false := (hf3 _ _ (by simp)).trans (by go_simp)
                have x0 : w3.cell? ⟨w2.heap.size, 0, none⟩ = some (.string nm) := hb3.cell (by go_simp)
                have x1 : w3.cell? ⟨w2.heap.size, 1, none⟩ = some (.int .i64 (-1)) := hb3.cell (by go_simp)
                have x2 : w3.cell? ⟨w2.heap.size, 2, none⟩ = some (.int .i64 (-1)) := hb3.cell (by go_simp)
                have xl : w2.heap.size < w3.heap.size := Nat.lt_of_lt_of_le (by simp) hb3.size
                have hxl := hb8.size
                have m2 : w3.cell? ⟨b2, off2 + 1, none⟩ = some (.string p) := (((Ext.refl w2).alloc _).trans hb3).cell m2
                have hne : b2 ≠ w2.heap.size := by omega
                clear hb3 hc3 hf3 hz3
                go_wp2_with (at_builtin; refine wpList_push2 (w0 := w1) (base := w1.heap.size) (xs := accS ls k) encEnt (by rfl) _ _ 27 (.agg #[.string ⟨#[]⟩, .int .i64 0, .int .i64 0]) 32 (by rfl) Tryd.underlying27 info_ent (by rfl) (⟨nm, -1, idxS ls (p.extract 6 p.size)⟩) (by rfl) (by rfl) (by simp) (hO.ext (by ((repeat (first | with_reducible exact Ext.refl _ | with_reducible exact hw | with_reducible exact hb9 | with_reducible exact hb8 | with_reducible exact hb7 | with_reducible exact hb6 | with_reducible exact hb5 | with_reducible exact hb4 | with_reducible exact hb3 | with_reducible exact hb2 | with_reducible exact hb1 | with_reducible refine Ext.alloc ?_ _ | with_reducible refine Ext.drew ?_ | ((with_reducible refine Ext.set ?_ ?_ _); focus (dsimp only; omega)) | with_reducible refine Ext.trans ?_ hb9 | with_reducible refine Ext.trans ?_ hb8 | with_reducible refine Ext.trans ?_ hb7 | with_reducible refine Ext.trans ?_ hb6 | with_reducible refine Ext.trans ?_ hb5 | with_reducible refine Ext.trans ?_ hb4 | with_reducible refine Ext.trans ?_ hb3 | with_reducible refine Ext.trans ?_ hb2 | with_reducible refine Ext.trans ?_ hb1 | with_reducible refine Ext.trans ?_ hw))))) ((by ((repeat (first | with_reducible exact Ext.refl _ | with_reducible exact hw | with_reducible exact hb9 | with_reducible exact hb8 | with_reducible exact hb7 | with_reducible exact hb6 | with_reducible exact hb5 | with_reducible exact hb4 | with_reducible exact hb3 | with_reducible exact hb2 | with_reducible exact hb1 | with_reducible refine Ext.alloc ?_ _ | with_reducible refine Ext.drew ?_ | ((with_reducible refine Ext.set ?_ ?_ _); focus (dsimp only; omega)) | with_reducible refine Ext.trans ?_ hb9 | with_reducible refine Ext.trans ?_ hb8 | with_reducible refine Ext.trans ?_ hb7 | with_reducible refine Ext.trans ?_ hb6 | with_reducible refine Ext.trans ?_ hb5 | with_reducible refine Ext.trans ?_ hb4 | with_reducible refine Ext.trans ?_ hb3 | with_reducible refine Ext.trans ?_ hb2 | with_reducible refine Ext.trans ?_ hb1 | with_reducible refine Ext.trans ?_ hw))) : Ext w1 _).size) (Nat.le_refl _) (by ((repeat (first | with_reducible exact Ext.refl _ | with_reducible exact hw | with_reducible exact hb9 | with_reducible exact hb8 | with_reducible exact hb7 | with_reducible exact hb6 | with_reducible exact hb5 | with_reducible exact hb4 | with_reducible exact hb3 | with_reducible exact hb2 | with_reducible exact hb1 | with_reducible refine Ext.alloc ?_ _ | with_reducible refine Ext.drew ?_ | ((with_reducible refine Ext.set ?_ ?_ _); focus (dsimp only; omega)) | with_reducible refine Ext.trans ?_ hb9 | with_reducible refine Ext.trans ?_ hb8 | with_reducible refine Ext.trans ?_ hb7 | with_reducible refine Ext.trans ?_ hb6 | with_reducible refine Ext.trans ?_ hb5 | with_reducible refine Ext.trans ?_ hb4 | with_reducible refine Ext.trans ?_ hb3 | with_reducible refine Ext.trans ?_ hb2 | with_reducible refine Ext.trans ?_ hb1 | with_reducible refine Ext.trans ?_ hw)))) (by omega) (by omega) ?_)
                intro v9 w9 hO9 hb9 hg9 _
                go_wp2
                go_roundg (ls.length - (k + 1))
                case rel => exact ⟨k + 1, rfl, by omega, rfl, hb9, by rw [hstep.out, hE.out]; exact hO9⟩
                case measure => omega
              | false =>
                have brr := refS_other (ls := ls) (ps := ps) (wd := belowW) bre
                rw [seer, brr] at hE
                have hE := hd hE
                clear seer brr
                have seeq : ((4 : Int) < ps[1]!.size) = True := by simp only [eq_iff_iff, iff_true]; omega
                have seee2 : ((ps[1]!.extract 0 4).toList == [115, 101, 101, 32]) = false := by have q := seee; unfold eqS at q; rwa [seeL] at q
                clear seee
                have brq : ((6 : Int) < ps[1]!.size) = True := by simp only [eq_iff_iff, iff_true]; omega
                have bre2 : ((ps[1]!.extract 0 6).toList == [98, 101, 108, 111, 119, 32]) = false := by have q := bre; unfold eqS at q; rwa [brL] at q
                clear bre
                have hq : ((ps.length : Int) == 2) = true := by simp [hl2]
                have hq2 : ((ps.length : Int) = 2) := by omega
                clear hl2
                generalize ps[1]! = p at *
                go_wp2_with (at_builtin; refine wpList_push2 (w0 := w1) (base := w1.heap.size) (xs := accS ls k) encEnt (by rfl) _ _ 27 (.agg #[.string ⟨#[]⟩, .int .i64 0, .int .i64 0]) 32 (by rfl) Tryd.underlying27 info_ent (by rfl) (⟨nm, -1, -1⟩) (by rfl) (by rfl) (by simp) (hO.ext (by ((repeat (first | with_reducible exact Ext.refl _ | with_reducible exact hw | with_reducible exact hb9 | with_reducible exact hb8 | with_reducible exact hb7 | with_reducible exact hb6 | with_reducible exact hb5 | with_reducible exact hb4 | with_reducible exact hb3 | with_reducible exact hb2 | with_reducible exact hb1 | with_reducible refine Ext.alloc ?_ _ | with_reducible refine Ext.drew ?_ | ((with_reducible refine Ext.set ?_ ?_ _); focus (dsimp only; omega)) | with_reducible refine Ext.trans ?_ hb9 | with_reducible refine Ext.trans ?_ hb8 | with_reducible refine Ext.trans ?_ hb7 | with_reducible refine Ext.trans ?_ hb6 | with_reducible refine Ext.trans ?_ hb5 | with_reducible refine Ext.trans ?_ hb4 | with_reducible refine Ext.trans ?_ hb3 | with_reducible refine Ext.trans ?_ hb2 | with_reducible refine Ext.trans ?_ hb1 | with_reducible refine Ext.trans ?_ hw))))) ((by ((repeat (first | with_reducible exact Ext.refl _ | with_reducible exact hw | with_reducible exact hb9 | with_reducible exact hb8 | with_reducible exact hb7 | with_reducible exact hb6 | with_reducible exact hb5 | with_reducible exact hb4 | with_reducible exact hb3 | with_reducible exact hb2 | with_reducible exact hb1 | with_reducible refine Ext.alloc ?_ _ | with_reducible refine Ext.drew ?_ | ((with_reducible refine Ext.set ?_ ?_ _); focus (dsimp only; omega)) | with_reducible refine Ext.trans ?_ hb9 | with_reducible refine Ext.trans ?_ hb8 | with_reducible refine Ext.trans ?_ hb7 | with_reducible refine Ext.trans ?_ hb6 | with_reducible refine Ext.trans ?_ hb5 | with_reducible refine Ext.trans ?_ hb4 | with_reducible refine Ext.trans ?_ hb3 | with_reducible refine Ext.trans ?_ hb2 | with_reducible refine Ext.trans ?_ hb1 | with_reducible refine Ext.trans ?_ hw))) : Ext w1 _).size) (Nat.le_refl _) (by ((repeat (first | with_reducible exact Ext.refl _ | with_reducible exact hw | with_reducible exact hb9 | with_reducible exact hb8 | with_reducible exact hb7 | with_reducible exact hb6 | with_reducible exact hb5 | with_reducible exact hb4 | with_reducible exact hb3 | with_reducible exact hb2 | with_reducible exact hb1 | with_reducible refine Ext.alloc ?_ _ | with_reducible refine Ext.drew ?_ | ((with_reducible refine Ext.set ?_ ?_ _); focus (dsimp only; omega)) | with_reducible refine Ext.trans ?_ hb9 | with_reducible refine Ext.trans ?_ hb8 | with_reducible refine Ext.trans ?_ hb7 | with_reducible refine Ext.trans ?_ hb6 | with_reducible refine Ext.trans ?_ hb5 | with_reducible refine Ext.trans ?_ hb4 | with_reducible refine Ext.trans ?_ hb3 | with_reducible refine Ext.trans ?_ hb2 | with_reducible refine Ext.trans ?_ hb1 | with_reducible refine Ext.trans ?_ hw)))) (by omega) (by omega) ?_)
                intro v9 w9 hO9 hb9 hg9 _
                go_wp2
                go_roundg (ls.length - (k + 1))
                case rel => exact ⟨k + 1, rfl, by omega, rfl, hb9, by rw [hstep.out, hE.out]; exact hO9⟩
                case measure => omega
            · have brr := refS_short (ls := ls) (ps := ps) (wd := belowW) brs
              rw [seer, brr] at hE
              have hE := hd hE
              clear seer brr
              have seeq : ((4 : Int) < ps[1]!.size) = True := by simp only [eq_iff_iff, iff_true]; omega
              have seee2 : ((ps[1]!.extract 0 4).toList == [115, 101, 101, 32]) = false := by have q := seee; unfold eqS at q; rwa [seeL] at q
              clear seee
              have brq : ((6 : Int) < ps[1]!.size) = False := by simp only [eq_iff_iff, iff_false]; omega
              have hq : ((ps.length : Int) == 2) = true := by simp [hl2]
              have hq2 : ((ps.length : Int) = 2) := by omega
              clear hl2
              generalize ps[1]! = p at *
              go_wp2_with (at_builtin; refine wpList_push2 (w0 := w1) (base := w1.heap.size) (xs := accS ls k) encEnt (by rfl) _ _ 27 (.agg #[.string ⟨#[]⟩, .int .i64 0, .int .i64 0]) 32 (by rfl) Tryd.underlying27 info_ent (by rfl) (⟨nm, -1, -1⟩) (by rfl) (by rfl) (by simp) (hO.ext (by ((repeat (first | with_reducible exact Ext.refl _ | with_reducible exact hw | with_reducible exact hb9 | with_reducible exact hb8 | with_reducible exact hb7 | with_reducible exact hb6 | with_reducible exact hb5 | with_reducible exact hb4 | with_reducible exact hb3 | with_reducible exact hb2 | with_reducible exact hb1 | with_reducible refine Ext.alloc ?_ _ | with_reducible refine Ext.drew ?_ | ((with_reducible refine Ext.set ?_ ?_ _); focus (dsimp only; omega)) | with_reducible refine Ext.trans ?_ hb9 | with_reducible refine Ext.trans ?_ hb8 | with_reducible refine Ext.trans ?_ hb7 | with_reducible refine Ext.trans ?_ hb6 | with_reducible refine Ext.trans ?_ hb5 | with_reducible refine Ext.trans ?_ hb4 | with_reducible refine Ext.trans ?_ hb3 | with_reducible refine Ext.trans ?_ hb2 | with_reducible refine Ext.trans ?_ hb1 | with_reducible refine Ext.trans ?_ hw))))) ((by ((repeat (first | with_reducible exact Ext.refl _ | with_reducible exact hw | with_reducible exact hb9 | with_reducible exact hb8 | with_reducible exact hb7 | with_reducible exact hb6 | with_reducible exact hb5 | with_reducible exact hb4 | with_reducible exact hb3 | with_reducible exact hb2 | with_reducible exact hb1 | with_reducible refine Ext.alloc ?_ _ | with_reducible refine Ext.drew ?_ | ((with_reducible refine Ext.set ?_ ?_ _); focus (dsimp only; omega)) | with_reducible refine Ext.trans ?_ hb9 | with_reducible refine Ext.trans ?_ hb8 | with_reducible refine Ext.trans ?_ hb7 | with_reducible refine Ext.trans ?_ hb6 | with_reducible refine Ext.trans ?_ hb5 | with_reducible refine Ext.trans ?_ hb4 | with_reducible refine Ext.trans ?_ hb3 | with_reducible refine Ext.trans ?_ hb2 | with_reducible refine Ext.trans ?_ hb1 | with_reducible refine Ext.trans ?_ hw))) : Ext w1 _).size) (Nat.le_refl _) (by ((repeat (first | with_reducible exact Ext.refl _ | with_reducible exact hw | with_reducible exact hb9 | with_reducible exact hb8 | with_reducible exact hb7 | with_reducible exact hb6 | with_reducible exact hb5 | with_reducible exact hb4 | with_reducible exact hb3 | with_reducible exact hb2 | with_reducible exact hb1 | with_reducible refine Ext.alloc ?_ _ | with_reducible refine Ext.drew ?_ | ((with_reducible refine Ext.set ?_ ?_ _); focus (dsimp only; omega)) | with_reducible refine Ext.trans ?_ hb9 | with_reducible refine Ext.trans ?_ hb8 | with_reducible refine Ext.trans ?_ hb7 | with_reducible refine Ext.trans ?_ hb6 | with_reducible refine Ext.trans ?_ hb5 | with_reducible refine Ext.trans ?_ hb4 | with_reducible refine Ext.trans ?_ hb3 | with_reducible refine Ext.trans ?_ hb2 | with_reducible refine Ext.trans ?_ hb1 | with_reducible refine Ext.trans ?_ hw)))) (by omega) (by omega) ?_)
              intro v9 w9 hO9 hb9 hg9 _
              go_wp2
              go_roundg (ls.length - (k + 1))
              case rel => exact ⟨k + 1, rfl, by omega, rfl, hb9, by rw [hstep.out, hE.out]; exact hO9⟩
              case measure => omega
        · have seer := refS_short (ls := ls) (ps := ps) (wd := seeW) sees
          by_cases brs : 6 < ps[1]!.size
          · cases bre : eqS (ps[1]!.extract 0 6) belowW with
            | true =>
              have brr := refS_here (ls := ls) (wd := belowW) hl2 brs bre
              exact absurd brs (by omega)
            | false =>
              have brr := refS_other (ls := ls) (ps := ps) (wd := belowW) bre
              exact absurd brs (by omega)
          · have brr := refS_short (ls := ls) (ps := ps) (wd := belowW) brs
            rw [seer, brr] at hE
            have hE := hd hE
            clear seer brr
            have seeq : ((4 : Int) < ps[1]!.size) = False := by simp only [eq_iff_iff, iff_false]; omega
            have brq : ((6 : Int) < ps[1]!.size) = False := by simp only [eq_iff_iff, iff_false]; omega
            have hq : ((ps.length : Int) == 2) = true := by simp [hl2]
            have hq2 : ((ps.length : Int) = 2) := by omega
            clear hl2
            generalize ps[1]! = p at *
            go_wp2_with (at_builtin; refine wpList_push2 (w0 := w1) (base := w1.heap.size) (xs := accS ls k) encEnt (by rfl) _ _ 27 (.agg #[.string ⟨#[]⟩, .int .i64 0, .int .i64 0]) 32 (by rfl) Tryd.underlying27 info_ent (by rfl) (⟨nm, -1, -1⟩) (by rfl) (by rfl) (by simp) (hO.ext (by ((repeat (first | with_reducible exact Ext.refl _ | with_reducible exact hw | with_reducible exact hb9 | with_reducible exact hb8 | with_reducible exact hb7 | with_reducible exact hb6 | with_reducible exact hb5 | with_reducible exact hb4 | with_reducible exact hb3 | with_reducible exact hb2 | with_reducible exact hb1 | with_reducible refine Ext.alloc ?_ _ | with_reducible refine Ext.drew ?_ | ((with_reducible refine Ext.set ?_ ?_ _); focus (dsimp only; omega)) | with_reducible refine Ext.trans ?_ hb9 | with_reducible refine Ext.trans ?_ hb8 | with_reducible refine Ext.trans ?_ hb7 | with_reducible refine Ext.trans ?_ hb6 | with_reducible refine Ext.trans ?_ hb5 | with_reducible refine Ext.trans ?_ hb4 | with_reducible refine Ext.trans ?_ hb3 | with_reducible refine Ext.trans ?_ hb2 | with_reducible refine Ext.trans ?_ hb1 | with_reducible refine Ext.trans ?_ hw))))) ((by ((repeat (first | with_reducible exact Ext.refl _ | with_reducible exact hw | with_reducible exact hb9 | with_reducible exact hb8 | with_reducible exact hb7 | with_reducible exact hb6 | with_reducible exact hb5 | with_reducible exact hb4 | with_reducible exact hb3 | with_reducible exact hb2 | with_reducible exact hb1 | with_reducible refine Ext.alloc ?_ _ | with_reducible refine Ext.drew ?_ | ((with_reducible refine Ext.set ?_ ?_ _); focus (dsimp only; omega)) | with_reducible refine Ext.trans ?_ hb9 | with_reducible refine Ext.trans ?_ hb8 | with_reducible refine Ext.trans ?_ hb7 | with_reducible refine Ext.trans ?_ hb6 | with_reducible refine Ext.trans ?_ hb5 | with_reducible refine Ext.trans ?_ hb4 | with_reducible refine Ext.trans ?_ hb3 | with_reducible refine Ext.trans ?_ hb2 | with_reducible refine Ext.trans ?_ hb1 | with_reducible refine Ext.trans ?_ hw))) : Ext w1 _).size) (Nat.le_refl _) (by ((repeat (first | with_reducible exact Ext.refl _ | with_reducible exact hw | with_reducible exact hb9 | with_reducible exact hb8 | with_reducible exact hb7 | with_reducible exact hb6 | with_reducible exact hb5 | with_reducible exact hb4 | with_reducible exact hb3 | with_reducible exact hb2 | with_reducible exact hb1 | with_reducible refine Ext.alloc ?_ _ | with_reducible refine Ext.drew ?_ | ((with_reducible refine Ext.set ?_ ?_ _); focus (dsimp only; omega)) | with_reducible refine Ext.trans ?_ hb9 | with_reducible refine Ext.trans ?_ hb8 | with_reducible refine Ext.trans ?_ hb7 | with_reducible refine Ext.trans ?_ hb6 | with_reducible refine Ext.trans ?_ hb5 | with_reducible refine Ext.trans ?_ hb4 | with_reducible refine Ext.trans ?_ hb3 | with_reducible refine Ext.trans ?_ hb2 | with_reducible refine Ext.trans ?_ hb1 | with_reducible refine Ext.trans ?_ hw)))) (by omega) (by omega) ?_)
            intro v9 w9 hO9 hb9 hg9 _
            go_wp2
            go_roundg (ls.length - (k + 1))
            case rel => exact ⟨k + 1, rfl, by omega, rfl, hb9, by rw [hstep.out, hE.out]; exact hO9⟩
            case measure => omega
      · have r1 := refS_len (ls := ls) (wd := seeW) hl2
        have r2 := refS_len (ls := ls) (wd := belowW) hl2
        rw [r1, r2] at hE
        have hq : ((ps.length : Int) == 2) = false := by simp; omega
        have hq2 : ¬ ((ps.length : Int) = 2) := by omega
        have hE := hd hE
        clear hl2 r1 r2
        go_wp2_with (at_builtin; refine wpList_push2 (w0 := w1) (base := w1.heap.size) (xs := accS ls k) encEnt (by rfl) _ _ 27 (.agg #[.string ⟨#[]⟩, .int .i64 0, .int .i64 0]) 32 (by rfl) Tryd.underlying27 info_ent (by rfl) (⟨nm, -1, -1⟩) (by rfl) (by rfl) (by simp) (hO.ext (by ((repeat (first | with_reducible exact Ext.refl _ | with_reducible exact hw | with_reducible exact hb9 | with_reducible exact hb8 | with_reducible exact hb7 | with_reducible exact hb6 | with_reducible exact hb5 | with_reducible exact hb4 | with_reducible exact hb3 | with_reducible exact hb2 | with_reducible exact hb1 | with_reducible refine Ext.alloc ?_ _ | with_reducible refine Ext.drew ?_ | ((with_reducible refine Ext.set ?_ ?_ _); focus (dsimp only; omega)) | with_reducible refine Ext.trans ?_ hb9 | with_reducible refine Ext.trans ?_ hb8 | with_reducible refine Ext.trans ?_ hb7 | with_reducible refine Ext.trans ?_ hb6 | with_reducible refine Ext.trans ?_ hb5 | with_reducible refine Ext.trans ?_ hb4 | with_reducible refine Ext.trans ?_ hb3 | with_reducible refine Ext.trans ?_ hb2 | with_reducible refine Ext.trans ?_ hb1 | with_reducible refine Ext.trans ?_ hw))))) ((by ((repeat (first | with_reducible exact Ext.refl _ | with_reducible exact hw | with_reducible exact hb9 | with_reducible exact hb8 | with_reducible exact hb7 | with_reducible exact hb6 | with_reducible exact hb5 | with_reducible exact hb4 | with_reducible exact hb3 | with_reducible exact hb2 | with_reducible exact hb1 | with_reducible refine Ext.alloc ?_ _ | with_reducible refine Ext.drew ?_ | ((with_reducible refine Ext.set ?_ ?_ _); focus (dsimp only; omega)) | with_reducible refine Ext.trans ?_ hb9 | with_reducible refine Ext.trans ?_ hb8 | with_reducible refine Ext.trans ?_ hb7 | with_reducible refine Ext.trans ?_ hb6 | with_reducible refine Ext.trans ?_ hb5 | with_reducible refine Ext.trans ?_ hb4 | with_reducible refine Ext.trans ?_ hb3 | with_reducible refine Ext.trans ?_ hb2 | with_reducible refine Ext.trans ?_ hb1 | with_reducible refine Ext.trans ?_ hw))) : Ext w1 _).size) (Nat.le_refl _) (by ((repeat (first | with_reducible exact Ext.refl _ | with_reducible exact hw | with_reducible exact hb9 | with_reducible exact hb8 | with_reducible exact hb7 | with_reducible exact hb6 | with_reducible exact hb5 | with_reducible exact hb4 | with_reducible exact hb3 | with_reducible exact hb2 | with_reducible exact hb1 | with_reducible refine Ext.alloc ?_ _ | with_reducible refine Ext.drew ?_ | ((with_reducible refine Ext.set ?_ ?_ _); focus (dsimp only; omega)) | with_reducible refine Ext.trans ?_ hb9 | with_reducible refine Ext.trans ?_ hb8 | with_reducible refine Ext.trans ?_ hb7 | with_reducible refine Ext.trans ?_ hb6 | with_reducible refine Ext.trans ?_ hb5 | with_reducible refine Ext.trans ?_ hb4 | with_reducible refine Ext.trans ?_ hb3 | with_reducible refine Ext.trans ?_ hb2 | with_reducible refine Ext.trans ?_ hb1 | with_reducible refine Ext.trans ?_ hw)))) (by omega) (by omega) ?_)
        intro v9 w9 hO9 hb9 hg9 _
        go_wp2
        go_roundg (ls.length - (k + 1))
        case rel => exact ⟨k + 1, rfl, by omega, rfl, hb9, by rw [hstep.out, hE.out]; exact hO9⟩
        case measure => omega
    · obtain rfl : k = ls.length - 1 := by omega
      rw [hall] at hO
      have hlx := accS_len ls (ls.length - 1)
      rw [hall] at hlx
      have hle : ((↑(ls.length - 1) + 1 : Int) < ls.length) = False := by simp only [eq_iff_iff, iff_false]; omega
      have hw9 : Ext w wr := hw1.trans hw
      obtain ⟨B, capB, rfl, hcapB, hRB⟩ := hO.slice
      have hokB : ∀ x ∈ listS text, x.nm.size ≤ 9223372036854775807 := by
        intro x hx
        rw [← hall] at hx
        unfold accS at hx
        obtain ⟨l, hl, rfl⟩ := List.mem_map.1 hx
        have h1 := hlz l (List.dropLast_subset _ (List.mem_of_mem_take hl))
        show ((splitC 59 l)[0]!).size ≤ _
        rw [getBang _ 0 (splitC_pos 59 l)]
        have := piece_le 59 1048576 l h1 _ (List.getElem_mem (splitC_pos 59 l))
        omega
      have hcz := hw1.size
      cases hc : catB (listS text) with
      | false =>
        have hv := hd (show readF text = ([], 5) by unfold readF readB; rw [hc]; rfl)
        clear hall hle
        go_wp2_with fail
        refine Calls.mono (spec_l05Ok (listS text) _ _ _ hRB hokB (by omega)) ?_
        rintro e w5 ⟨rfl, hb5⟩
        simp only [hc]
        go_wp2
        refine bodyPost_ret (v := .tuple #[_, .int .i64 5]) (by simp [results, Tryd.results18, go_sem]; rfl) rfl ⟨_, by rw [hv.out], ?_, hw9.trans (hb5.alloc _)⟩
        rw [hv.out]
        exact Ow.made0 rfl (by have := hw9.size; have := hb5.size; omega)
      | true =>
        cases ht : eqS (textL (listS text)) text with
        | false =>
          have hv := hd (show readF text = ([], 5) by unfold readF readB; rw [hc, ht]; rfl)
          have q : ((textL (listS text)).toList == text.toList) = false := ht
          clear hall hle ht
          go_wp2_with fail
          refine Calls.mono (spec_l05Ok (listS text) _ _ _ hRB hokB (by omega)) ?_
          rintro e w5 ⟨rfl, hb5⟩
          simp only [hc]
          go_wp2_with fail
          refine Calls.mono (spec_l05Text (listS text) _ _ _ (hRB.ext hb5) hc) ?_
          rintro e w6 ⟨rfl, hb6⟩
          generalize textL (listS text) = tt at q
          have hb7 := hb5.trans hb6
          go_wp2
          refine bodyPost_ret (v := .tuple #[_, .int .i64 5]) (by simp [results, Tryd.results18, go_sem]; rfl) rfl ⟨_, by rw [hv.out], ?_, hw9.trans (hb7.alloc _)⟩
          rw [hv.out]
          exact Ow.made0 rfl (by have := hw9.size; have := hb7.size; omega)
        | true =>
          have hv := hd (show readF text = (listS text, 0) by unfold readF readB; rw [hc, ht]; rfl)
          have q : ((textL (listS text)).toList == text.toList) = true := ht
          clear hall hle ht
          go_wp2_with fail
          refine Calls.mono (spec_l05Ok (listS text) _ _ _ hRB hokB (by omega)) ?_
          rintro e w5 ⟨rfl, hb5⟩
          simp only [hc]
          go_wp2_with fail
          refine Calls.mono (spec_l05Text (listS text) _ _ _ (hRB.ext hb5) hc) ?_
          rintro e w6 ⟨rfl, hb6⟩
          generalize textL (listS text) = tt at q
          have hb7 := hb5.trans hb6
          go_wp2
          refine bodyPost_ret (v := .tuple #[_, .int .i64 0]) (by simp [results, Tryd.results18, go_sem]; rfl) rfl ⟨_, by rw [hv.out], ?_, hw9.trans hb7⟩
          rw [hv.out]
          exact (hO.ext hb7).lower hcz
