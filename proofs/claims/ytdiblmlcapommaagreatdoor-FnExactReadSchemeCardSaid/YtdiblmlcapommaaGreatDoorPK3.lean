/-
  PK3: the texts T1 E3 in one (written by pack.py).
-/
import Derived.Test.YtdiblmlcapommaaGreatDoorRows
import Derived.Test.YtdiblmlcapommaaGreatDoorPK2
import Derived.Test.YtdiblmlcapommaaGreatDoorShelf
import Derived.Shelf.Strings.PiecesUse
set_option linter.unusedVariables false
set_option linter.unusedSimpArgs false
namespace Go.Proofs.YtdiblmlcapommaaGreatDoor
open Go.RowKit
set_option maxHeartbeats 400000 in
theorem asciiSet_contains (l : List UInt8) (b : Nat) (c : UInt8) (w : World) (hB : BoxAt w b (tabF l) 109) :
    Calls Tryz.prog 93 #[.pointer (some ⟨b, 0, none⟩), .int .u8 c.toNat] w fun e w' => e = .returned (.bool (inS l c)) ∧ Ext w w' := by
  have c0 : w.cell? ⟨b, c.toNat, none⟩ = some (.bool (inS l c)) := (hB.cell _).trans (tabF_has l c)
  have h1 := c.toNat_lt
  go_enter Tryz.func93, Tryz.ntmps93
  go_wp2
  go_ret
  exact ⟨rfl, Ext.refl _⟩
set_option maxHeartbeats 400000 in
theorem strings_trimRightASCII (l : List UInt8) (b : Nat) (s : ByteArray) (w : World) (hB : BoxAt w b (tabF l) 109) (hs : s.size ≤ 9223372036854775807) :
    Calls Tryz.prog 85 #[.string s, .pointer (some ⟨b, 0, none⟩)] w fun e w' => ∃ t : ByteArray, e = .returned (.string t) ∧ t.data.toList = trimR (inS l) s.data.toList ∧ t.size ≤ s.size ∧ Ext w w' := by
  go_enter Tryz.func85, Tryz.ntmps85
  go_wp2
  go_loopg [0] s.size (fun g x wr => ∃ t : ByteArray, g = t.size ∧ t.size ≤ s.size ∧ x = .string t ∧ trimR (inS l) t.data.toList = trimR (inS l) s.data.toList ∧ Ext w wr)
  case atStart => exact ⟨s, rfl, by omega, rfl, rfl, Ext.refl _⟩
  case round =>
    obtain ⟨t, hg, ht, rfl, hQ, hw⟩ := hrel
    by_cases h0 : 0 < t.size
    · have hl := bytes_snoc t h0
      cases hq : inS l t[t.size - 1] with
      | true =>
        go_wp2_with fail
        refine Calls.mono (asciiSet_contains l b _ _ (hB.ext hw)) ?_
        rintro e w1 ⟨rfl, hb1⟩
        have hsz : (t.extract 0 (t.size - 1)).size = t.size - 1 := by rw [ByteArray.size_extract]; omega
        go_wp2
        go_roundg (t.size - 1)
        case rel => exact ⟨t.extract 0 (t.size - 1), hsz.symm, by omega, rfl, by rw [hl, trimR_snoc, hq, if_pos rfl] at hQ; exact hQ, by ((repeat (first | with_reducible exact Ext.refl _ | with_reducible exact hw | with_reducible exact hb9 | with_reducible exact hb8 | with_reducible exact hb7 | with_reducible exact hb6 | with_reducible exact hb5 | with_reducible exact hb4 | with_reducible exact hb3 | with_reducible exact hb2 | with_reducible exact hb1 | with_reducible refine Ext.alloc ?_ _ | with_reducible refine Ext.drew ?_ | ((with_reducible refine Ext.set ?_ ?_ _); focus (dsimp only; omega)) | with_reducible refine Ext.trans ?_ hb9 | with_reducible refine Ext.trans ?_ hb8 | with_reducible refine Ext.trans ?_ hb7 | with_reducible refine Ext.trans ?_ hb6 | with_reducible refine Ext.trans ?_ hb5 | with_reducible refine Ext.trans ?_ hb4 | with_reducible refine Ext.trans ?_ hb3 | with_reducible refine Ext.trans ?_ hb2 | with_reducible refine Ext.trans ?_ hb1 | with_reducible refine Ext.trans ?_ hw)))⟩
        case measure => omega
      | false =>
        rw [hl, trimR_snoc, hq, if_neg (by simp), ← hl] at hQ
        go_wp2_with fail
        refine Calls.mono (asciiSet_contains l b _ _ (hB.ext hw)) ?_
        rintro e w1 ⟨rfl, hb1⟩
        go_wp2
        go_ret
        exact ⟨t, rfl, hQ, ht, by ((repeat (first | with_reducible exact Ext.refl _ | with_reducible exact hw | with_reducible exact hb9 | with_reducible exact hb8 | with_reducible exact hb7 | with_reducible exact hb6 | with_reducible exact hb5 | with_reducible exact hb4 | with_reducible exact hb3 | with_reducible exact hb2 | with_reducible exact hb1 | with_reducible refine Ext.alloc ?_ _ | with_reducible refine Ext.drew ?_ | ((with_reducible refine Ext.set ?_ ?_ _); focus (dsimp only; omega)) | with_reducible refine Ext.trans ?_ hb9 | with_reducible refine Ext.trans ?_ hb8 | with_reducible refine Ext.trans ?_ hb7 | with_reducible refine Ext.trans ?_ hb6 | with_reducible refine Ext.trans ?_ hb5 | with_reducible refine Ext.trans ?_ hb4 | with_reducible refine Ext.trans ?_ hb3 | with_reducible refine Ext.trans ?_ hb2 | with_reducible refine Ext.trans ?_ hb1 | with_reducible refine Ext.trans ?_ hw)))⟩
    · rw [bytes_none t h0, trimR_nil] at hQ
      go_wp2
      go_ret
      exact ⟨t, rfl, by rw [bytes_none t h0]; exact hQ, ht, hw⟩
set_option maxHeartbeats 400000 in
theorem strings_trimLeftASCII (l : List UInt8) (b : Nat) (s : ByteArray) (w : World) (hB : BoxAt w b (tabF l) 109) (hs : s.size ≤ 9223372036854775807) :
    Calls Tryz.prog 84 #[.string s, .pointer (some ⟨b, 0, none⟩)] w fun e w' => ∃ t : ByteArray, e = .returned (.string t) ∧ t.data.toList = s.data.toList.dropWhile (inS l) ∧ t.size ≤ s.size ∧ Ext w w' := by
  go_enter Tryz.func84, Tryz.ntmps84
  go_wp2
  go_loopg [0] s.size (fun g x wr => ∃ t : ByteArray, g = t.size ∧ t.size ≤ s.size ∧ x = .string t ∧ t.data.toList.dropWhile (inS l) = s.data.toList.dropWhile (inS l) ∧ Ext w wr)
  case atStart => exact ⟨s, rfl, by omega, rfl, rfl, Ext.refl _⟩
  case round =>
    obtain ⟨t, hg, ht, rfl, hQ, hw⟩ := hrel
    by_cases h0 : 0 < t.size
    · have hl := bytes_cons t h0
      cases hq : inS l t[0] with
      | true =>
        go_wp2_with fail
        refine Calls.mono (asciiSet_contains l b _ _ (hB.ext hw)) ?_
        rintro e w1 ⟨rfl, hb1⟩
        have hsz : (t.extract 1 t.size).size = t.size - 1 := by rw [ByteArray.size_extract]; omega
        go_wp2
        go_roundg (t.size - 1)
        case rel => exact ⟨t.extract 1 t.size, hsz.symm, by omega, rfl, by rw [hl, List.dropWhile_cons, hq, if_pos rfl] at hQ; exact hQ, by ((repeat (first | with_reducible exact Ext.refl _ | with_reducible exact hw | with_reducible exact hb9 | with_reducible exact hb8 | with_reducible exact hb7 | with_reducible exact hb6 | with_reducible exact hb5 | with_reducible exact hb4 | with_reducible exact hb3 | with_reducible exact hb2 | with_reducible exact hb1 | with_reducible refine Ext.alloc ?_ _ | with_reducible refine Ext.drew ?_ | ((with_reducible refine Ext.set ?_ ?_ _); focus (dsimp only; omega)) | with_reducible refine Ext.trans ?_ hb9 | with_reducible refine Ext.trans ?_ hb8 | with_reducible refine Ext.trans ?_ hb7 | with_reducible refine Ext.trans ?_ hb6 | with_reducible refine Ext.trans ?_ hb5 | with_reducible refine Ext.trans ?_ hb4 | with_reducible refine Ext.trans ?_ hb3 | with_reducible refine Ext.trans ?_ hb2 | with_reducible refine Ext.trans ?_ hb1 | with_reducible refine Ext.trans ?_ hw)))⟩
        case measure => omega
      | false =>
        rw [hl, List.dropWhile_cons, hq, if_neg (by simp), ← hl] at hQ
        go_wp2_with fail
        refine Calls.mono (asciiSet_contains l b _ _ (hB.ext hw)) ?_
        rintro e w1 ⟨rfl, hb1⟩
        go_wp2
        go_ret
        exact ⟨t, rfl, hQ, ht, by ((repeat (first | with_reducible exact Ext.refl _ | with_reducible exact hw | with_reducible exact hb9 | with_reducible exact hb8 | with_reducible exact hb7 | with_reducible exact hb6 | with_reducible exact hb5 | with_reducible exact hb4 | with_reducible exact hb3 | with_reducible exact hb2 | with_reducible exact hb1 | with_reducible refine Ext.alloc ?_ _ | with_reducible refine Ext.drew ?_ | ((with_reducible refine Ext.set ?_ ?_ _); focus (dsimp only; omega)) | with_reducible refine Ext.trans ?_ hb9 | with_reducible refine Ext.trans ?_ hb8 | with_reducible refine Ext.trans ?_ hb7 | with_reducible refine Ext.trans ?_ hb6 | with_reducible refine Ext.trans ?_ hb5 | with_reducible refine Ext.trans ?_ hb4 | with_reducible refine Ext.trans ?_ hb3 | with_reducible refine Ext.trans ?_ hb2 | with_reducible refine Ext.trans ?_ hb1 | with_reducible refine Ext.trans ?_ hw)))⟩
    · rw [bytes_none t h0, List.dropWhile_nil] at hQ
      go_wp2
      go_ret
      exact ⟨t, rfl, by rw [bytes_none t h0]; exact hQ, ht, hw⟩
set_option maxRecDepth 100000 in
set_option maxHeartbeats 400000 in
theorem strings_makeASCIISet (s : ByteArray) (w : World) (hs : s.size ≤ 1048576) (hc : ∀ c ∈ s.data.toList, c.toNat < 128) :
    Calls Tryz.prog 83 #[.string s] w fun e w' => e = .returned (.tuple #[.agg (tabF s.data.toList), .bool true]) ∧ Ext w w' := by
  go_enter Tryz.func83, Tryz.ntmps83
  first
    | (go_wp2_with fail
       go_loopg [4] s.size (fun g i wr => ∃ k : Nat, g = s.size - k ∧ k ≤ s.size ∧ i = .int .i64 k ∧ Ext w wr ∧ BoxAt wr w.heap.size (tabF (s.data.toList.take k)) 109))
    | (have hzs : ∀ W : World, Sem.run Tryz.prog (zeroValue 109) W = .ok (.agg (tabF [])) W := by intro W; kernel_rfl
       go_wp2_with fail
       go_loopg [4] s.size (fun g i wr => ∃ k : Nat, g = s.size - k ∧ k ≤ s.size ∧ i = .int .i64 k ∧ Ext w wr ∧ BoxAt wr w.heap.size (tabF (s.data.toList.take k)) 109))
  case atStart =>
    first
      | exact ⟨0, by omega, by omega, rfl, by ((repeat (first | with_reducible exact Ext.refl _ | with_reducible exact hw | with_reducible exact hb9 | with_reducible exact hb8 | with_reducible exact hb7 | with_reducible exact hb6 | with_reducible exact hb5 | with_reducible exact hb4 | with_reducible exact hb3 | with_reducible exact hb2 | with_reducible exact hb1 | with_reducible refine Ext.alloc ?_ _ | with_reducible refine Ext.drew ?_ | ((with_reducible refine Ext.set ?_ ?_ _); focus (dsimp only; omega)) | with_reducible refine Ext.trans ?_ hb9 | with_reducible refine Ext.trans ?_ hb8 | with_reducible refine Ext.trans ?_ hb7 | with_reducible refine Ext.trans ?_ hb6 | with_reducible refine Ext.trans ?_ hb5 | with_reducible refine Ext.trans ?_ hb4 | with_reducible refine Ext.trans ?_ hb3 | with_reducible refine Ext.trans ?_ hb2 | with_reducible refine Ext.trans ?_ hb1 | with_reducible refine Ext.trans ?_ hw))), BoxAt.new_eq (by rw [List.take_zero, tabF_nil]; kernel_rfl)⟩
      | exact ⟨0, by omega, by omega, rfl, by ((repeat (first | with_reducible exact Ext.refl _ | with_reducible exact hw | with_reducible exact hb9 | with_reducible exact hb8 | with_reducible exact hb7 | with_reducible exact hb6 | with_reducible exact hb5 | with_reducible exact hb4 | with_reducible exact hb3 | with_reducible exact hb2 | with_reducible exact hb1 | with_reducible refine Ext.alloc ?_ _ | with_reducible refine Ext.drew ?_ | ((with_reducible refine Ext.set ?_ ?_ _); focus (dsimp only; omega)) | with_reducible refine Ext.trans ?_ hb9 | with_reducible refine Ext.trans ?_ hb8 | with_reducible refine Ext.trans ?_ hb7 | with_reducible refine Ext.trans ?_ hb6 | with_reducible refine Ext.trans ?_ hb5 | with_reducible refine Ext.trans ?_ hb4 | with_reducible refine Ext.trans ?_ hb3 | with_reducible refine Ext.trans ?_ hb2 | with_reducible refine Ext.trans ?_ hb1 | with_reducible refine Ext.trans ?_ hw))), BoxAt.new_eq (by rw [List.take_zero])⟩
  case round =>
    obtain ⟨k, hg, hk, rfl, hw, hB⟩ := hrel
    by_cases hkl : k < s.size
    · have hk2 : k < s.data.toList.length := hkl
      have e1 : s[k] = s.data.toList[k] := rfl
      have hck : s[k].toNat < 128 := hc s[k] (by rw [e1]; exact List.getElem_mem hk2)
      have hT := tabF_set (s.data.toList.take k) s[k]
      rw [e1, ← List.take_succ_eq_append_getElem hk2, ← e1] at hT
      have c0 : wr.cell? ⟨w.heap.size, s[k].toNat, none⟩ = some (.bool ((s.data.toList.take k).any fun c => c.toNat == s[k].toNat)) := (hB.cell _).trans (tabF_get _ _ (by omega))
      have f0 := hB.frozen s[k].toNat
      have l0 := hB.lt
      generalize ((s.data.toList.take k).any fun c => c.toNat == s[k].toNat) = q at c0
      have hT' := hd hT
      clear e1 hT hc
      have hck2 : ((128 : Int) ≤ (s[k].toNat : Int)) = False := by simp; omega
      go_wp2
      go_roundg (s.size - (k + 1))
      case rel => exact ⟨k + 1, rfl, hkl, rfl, by ((repeat (first | with_reducible exact Ext.refl _ | with_reducible exact hw | with_reducible exact hb9 | with_reducible exact hb8 | with_reducible exact hb7 | with_reducible exact hb6 | with_reducible exact hb5 | with_reducible exact hb4 | with_reducible exact hb3 | with_reducible exact hb2 | with_reducible exact hb1 | with_reducible refine Ext.alloc ?_ _ | with_reducible refine Ext.drew ?_ | ((with_reducible refine Ext.set ?_ ?_ _); focus (dsimp only; omega)) | with_reducible refine Ext.trans ?_ hb9 | with_reducible refine Ext.trans ?_ hb8 | with_reducible refine Ext.trans ?_ hb7 | with_reducible refine Ext.trans ?_ hb6 | with_reducible refine Ext.trans ?_ hb5 | with_reducible refine Ext.trans ?_ hb4 | with_reducible refine Ext.trans ?_ hb3 | with_reducible refine Ext.trans ?_ hb2 | with_reducible refine Ext.trans ?_ hb1 | with_reducible refine Ext.trans ?_ hw))), by rw [← hT'.out]; exact hB.set _ _⟩
      case measure => omega
    · obtain rfl : k = s.size := by omega
      rw [show s.data.toList.take s.size = s.data.toList from List.take_length] at hB
      have hi : (Tryz.prog.info? 109).map (·.size) = some (tabF s.data.toList).toList.length := by rw [Array.length_toList, tabF_size]; kernel_rfl
      have hr := hB.range
      have hsz := tabF_size s.data.toList
      have hth := hB.there (tabF s.data.toList).toList.length (by simp)
      have hst : (storeCells ⟨w.heap.size, 0, none⟩ (tabF s.data.toList).toList).run Tryz.prog wr = .ok () (wr.setCells w.heap.size 0 (tabF s.data.toList).toList) :=
        run_storeCells_cells w.heap.size 0 (tabF s.data.toList).toList 0 wr (fun j hj => (hth j hj).1) (fun j hj => (hth j hj).2) (fun v hv => (Array.all_eq_true_iff_forall_mem.1 (tabF_one _)) v (by simpa using hv))
      have hlo := run_loadVar_mid (P := Tryz.prog) (wr.setCells w.heap.size 0 (tabF s.data.toList).toList) w.heap.size 0 109 (tabF s.data.toList).toList _ (World.rangeAt_setCells_same wr w.heap.size 0 _ hth) Tryz.underlying109 (by rfl) hi
      go_wp2_with (refine wpList_load_mid (by rfl) 109 _ (by rfl) w.heap.size 0 (by rfl) (tabF s.data.toList).toList _ hr Tryz.underlying109 (by rfl) hi ?_)
      refine bodyPost_ret (v := .tuple #[.agg (tabF s.data.toList), .bool true]) ?_ rfl ⟨rfl, ?_⟩
      · rw [results_cell_tmp (p := 2) (ty := 109) (u := 3) (by rfl)]
        show Result.andThen ((asAddr (.pointer (some ⟨w.heap.size, 0, none⟩))).run _ _) _ = _
        simp only [asAddr, Sem.run_pure, Result.andThen_ok, hlo, Array.toArray_toList]
        rfl
      exact hw.trans' (grown_setCells wr w.heap.size 0 _) (fun q hq => by simp at hq; omega)
set_option maxRecDepth 100000 in
theorem alloc_asciiSet (W : World) : (Instr.alloc 109 true (.tuple #[])).run Tryz.prog W = .ok (.pointer (some ⟨W.heap.size, 0, none⟩)) (W.alloc (.cells (tabF []) 109)) := by
  rw [tabF_nil]
  kernel_rfl
set_option maxRecDepth 100000 in
set_option maxHeartbeats 400000 in
theorem strings_Trim (s cut : ByteArray) (w : World) (hs : s.size ≤ 9223372036854775807) (hc2 : 2 ≤ cut.size) (hc3 : cut.size ≤ 1048576) (hc : ∀ c ∈ cut.data.toList, c.toNat < 128) :
    Calls Tryz.prog 64 #[.string s, .string cut] w fun e w' => ∃ t : ByteArray, e = .returned (.string t) ∧ t.data.toList = trimLR (inS cut.data.toList) s.data.toList ∧ t.size ≤ s.size ∧ Ext w w' := by
  have hE2 : cut.toList.isEmpty = false := by rw [ByteArray.toList_eq, List.isEmpty_eq_false_iff]; intro h; have : cut.data.toList.length = 0 := by rw [h]; rfl
                                              have h3 : cut.size = cut.data.toList.length := rfl
                                              omega
  by_cases h0 : 0 < s.size
  · have hE : s.toList.isEmpty = false := by rw [ByteArray.toList_eq, bytes_cons s h0]; rfl
    have hi : (Tryz.prog.info? 109).map (·.size) = some (tabF cut.data.toList).size := by rw [tabF_size]; kernel_rfl
    go_enter Tryz.func64, Tryz.ntmps64
    go_wp2_with fail
    refine Calls.mono (strings_makeASCIISet cut _ hc3 hc) ?_
    rintro e w1 ⟨rfl, hb1⟩
    go_wp2_with (refine wpList_alloc_box (by rfl) 109 (by rfl) (tabF []) alloc_asciiSet ?_)
    intro w2 hB2 hb2 hlt2
    go_wp2_with (refine wpList_store_box (by rfl) 109 _ _ (by rfl) w1.heap.size (tabF []) (tabF cut.data.toList) hB2 (by rfl) (by rfl) (by rw [tabF_size, tabF_size]) hi (tabF_one _) (hb1.trans hb2) hb1.size ?_)
    intro w3 hB3 hb3 hg3
    go_wp2_with fail
    refine Calls.mono (strings_trimRightASCII _ _ _ _ hB3 hs) ?_
    rintro e w4 ⟨t4, rfl, ht4, hz4, hb4⟩
    go_wp2_with fail
    refine Calls.mono (strings_trimLeftASCII _ _ _ _ (hB3.ext hb4) (by omega)) ?_
    rintro e w5 ⟨t5, rfl, ht5, hz5, hb5⟩
    go_wp2
    go_ret
    exact ⟨t5, rfl, by rw [ht5, ht4]; rfl, by omega, by ((repeat (first | with_reducible exact Ext.refl _ | with_reducible exact hw | with_reducible exact hb9 | with_reducible exact hb8 | with_reducible exact hb7 | with_reducible exact hb6 | with_reducible exact hb5 | with_reducible exact hb4 | with_reducible exact hb3 | with_reducible exact hb2 | with_reducible exact hb1 | with_reducible refine Ext.alloc ?_ _ | with_reducible refine Ext.drew ?_ | ((with_reducible refine Ext.set ?_ ?_ _); focus (dsimp only; omega)) | with_reducible refine Ext.trans ?_ hb9 | with_reducible refine Ext.trans ?_ hb8 | with_reducible refine Ext.trans ?_ hb7 | with_reducible refine Ext.trans ?_ hb6 | with_reducible refine Ext.trans ?_ hb5 | with_reducible refine Ext.trans ?_ hb4 | with_reducible refine Ext.trans ?_ hb3 | with_reducible refine Ext.trans ?_ hb2 | with_reducible refine Ext.trans ?_ hb1 | with_reducible refine Ext.trans ?_ hw)))⟩
  · have hE : s.toList.isEmpty = true := by rw [ByteArray.toList_eq, bytes_none s h0]; rfl
    go_enter Tryz.func64, Tryz.ntmps64
    go_wp2
    go_ret
    exact ⟨s, rfl, by rw [bytes_none s h0]; rfl, by omega, Ext.refl _⟩
end Go.Proofs.YtdiblmlcapommaaGreatDoor
set_option linter.unusedVariables false
set_option linter.unusedSimpArgs false
set_option maxRecDepth 100000
namespace Go.Proofs.YtdiblmlcapommaaGreatDoor
open Go.RowKit
/-- Texts as elements. -/
def encStr : Enc ByteArray where
  enc x := [.string x]
  sz := 1
  len _ := rfl
  one m u hu := by
    simp only [List.mem_cons, List.not_mem_nil, or_false] at hu
    subst hu
    rfl
  pos := by decide
theorem Rd.str {w : World} {b off : Nat} {xs : List ByteArray} (h : Rd encStr w (some ⟨b, off, none⟩) xs) (k : Nat) (hk : k < xs.length) :
    w.cell? ⟨b, off + k, none⟩ = some (.string xs[k]) := by
  obtain ⟨b', off', e1, hlt, hc⟩ := h k hk
  simp only [Option.some.injEq, Addr.mk.injEq, and_true] at e1
  obtain ⟨rfl, rfl⟩ := e1
  have := hc 0 _ rfl
  simpa [encStr] using this
/-- The library's own word lies in its place. -/
def Glob (w : World) : Prop := ∃ m, w.cell? ⟨1, 0, none⟩ = some (.int .i64 m)
theorem Glob.ext {w w' : World} (h : Glob w) (hb : Ext w w') : Glob w' := ⟨h.choose, hb.cell h.choose_spec⟩
theorem splitC_len (s : ByteArray) (c : UInt8) : (splitC c s).length = Lib.countB s ⟨#[c]⟩ + 1 := Lib.splitB_all ⟨#[c]⟩ (show 1 ≤ 1 from Nat.le_refl 1) 0 _ s rfl
theorem splitC_le (s : ByteArray) (c : UInt8) : (splitC c s).length ≤ s.size + 1 := by
  rw [splitC_len]
  have := Lib.countB_le ⟨#[c]⟩ (show 1 ≤ 1 from Nat.le_refl 1) s.size s (Nat.le_refl _)
  omega
theorem strings_Split (s : ByteArray) (c : UInt8) (w : World) (hs : s.size < 4294967281) (hG : Glob w) :
    Calls Tryz.prog 13 #[.string s, .string ⟨#[c]⟩] w fun e w' => e = .returned (.slice (some ⟨w.heap.size, 0, none⟩) (splitC c s).length (splitC c s).length) ∧ Rd encStr w' (some ⟨w.heap.size, 0, none⟩) (splitC c s) ∧ Ext w w' := by
  obtain ⟨m, hm⟩ := hG
  refine (Tryz.strings_Split s ⟨#[c]⟩ m w hs hm (show 1 ≤ 1 from Nat.le_refl 1)).mono ?_
  rintro e w' ⟨rfl, rfl⟩
  rw [← splitC_len]
  refine ⟨rfl, ?_, (Ext.refl w).alloc _⟩
  intro k hk
  refine ⟨_, _, rfl, by simp, ?_⟩
  intro j u hu
  cases j with
  | zero =>
    simp only [encStr, List.getElem?_cons_zero, Option.some.injEq] at hu
    subst hu
    simp [encStr, splitC]
  | succ j => simp [encStr] at hu
theorem info_str : (Tryz.prog.info? 9).map (fun i => (i.zero, i.size, i.bytes)) = some (some (.string ⟨#[]⟩), encStr.sz, 16) := by kernel_rfl
set_option maxHeartbeats 400000 in
theorem spec_l01Split (s : ByteArray) (c : UInt8) (hs : s.size ≤ 2097152) (w : World) :
    Calls Tryz.prog 9 #[.string s, .int .u8 c.toNat] w fun e w' => ∃ v, e = .returned v ∧ Ow encStr 9 w' w.heap.size v (splitC c s) ∧ Ext w w' := by
  go_enter Tryz.func9, Tryz.ntmps9
  go_wp2
  go_loopg [7, 6, 5] s.size (fun g i bg v wr => ∃ k b : Nat, ∃ ws : List ByteArray, g = s.size - k ∧ k ≤ s.size ∧ b ≤ k ∧ i = .int .i64 k ∧ bg = .int .i64 b ∧ ws.length ≤ k ∧ Ext w wr ∧ Ow encStr 9 wr w.heap.size v ws ∧ splitC c s = ws ++ splitC c (s.extract b s.size) ∧ ∀ j, b ≤ j → j < k → s.data.toList[j]? ≠ some c)
  case atStart => exact ⟨0, 0, [], by omega, by omega, by omega, rfl, rfl, by simp, by ((repeat (first | with_reducible exact Ext.refl _ | with_reducible exact hw | with_reducible exact hb9 | with_reducible exact hb8 | with_reducible exact hb7 | with_reducible exact hb6 | with_reducible exact hb5 | with_reducible exact hb4 | with_reducible exact hb3 | with_reducible exact hb2 | with_reducible exact hb1 | with_reducible refine Ext.alloc ?_ _ | with_reducible refine Ext.drew ?_ | ((with_reducible refine Ext.set ?_ ?_ _); focus (dsimp only; omega)) | with_reducible refine Ext.trans ?_ hb9 | with_reducible refine Ext.trans ?_ hb8 | with_reducible refine Ext.trans ?_ hb7 | with_reducible refine Ext.trans ?_ hb6 | with_reducible refine Ext.trans ?_ hb5 | with_reducible refine Ext.trans ?_ hb4 | with_reducible refine Ext.trans ?_ hb3 | with_reducible refine Ext.trans ?_ hb2 | with_reducible refine Ext.trans ?_ hb1 | with_reducible refine Ext.trans ?_ hw))), Ow.made0 (by simp) (by simp), by rw [extr_all]; rfl, by intro j _ h; omega⟩
  case round =>
    obtain ⟨k, b, ws, hg, hk, hbk, rfl, rfl, hl, hw, hO, hS, hno⟩ := hrel
    by_cases hkl : k < s.size
    · have hgk : s.data.toList[k]? = some s[k] := List.getElem?_eq_getElem (show k < s.data.toList.length from hkl)
      by_cases hq : s[k] = c
      · have d1 : ((s[k].toNat : Int) = (c.toNat : Int)) = True := by rw [hq]; simp
        have hS2 := hd (splitC_hit c s b k hbk hkl (by rw [hgk, hq]) hno)
        go_wp2_with (at_builtin; refine wpList_push (w0 := w) (base := w.heap.size) (xs := ws) encStr (by rfl) _ _ 28 (.string ⟨#[]⟩) 16 (by rfl) Tryz.underlying28 info_str (by rfl) (s.extract b k) (by rfl) (by rfl) hO (by have := hw.size; omega) (by omega) hw (by omega) (by omega) ?_)
        intro v3 w3 hO3 hb3 hg3 _
        go_wp2
        go_roundg (s.size - (k + 1))
        case rel => exact ⟨k + 1, k + 1, ws ++ [s.extract b k], rfl, hkl, by omega, rfl, rfl, by rw [List.length_append, List.length_singleton]; omega, hb3, hO3, by rw [hS, hS2.out, List.append_assoc]; rfl, by intro j h1 h2; omega⟩
        case measure => omega
      · have d1 : ((s[k].toNat : Int) = (c.toNat : Int)) = False := by simp only [eq_iff_iff, iff_false]; intro h; exact hq (UInt8.toNat_inj.1 (by omega))
        have d2 : (s[k].toNat = c.toNat) = False := by simp only [eq_iff_iff, iff_false]; intro h; exact hq (UInt8.toNat_inj.1 h)
        have d3 : (s[k] = c) = False := by simp only [eq_iff_iff, iff_false]; exact hq
        have d4 : ((s[k].toNat : Int) == (c.toNat : Int)) = false := by rw [beq_eq_false_iff_ne]; intro h; exact hq (UInt8.toNat_inj.1 (by omega))
        go_wp2
        go_roundg (s.size - (k + 1))
        case rel => exact ⟨k + 1, b, ws, rfl, hkl, by omega, rfl, rfl, by omega, hw, hO, hS, by
          intro j h1 h2
          by_cases hj : j = k
          · subst hj
            rw [hgk]
            simpa using hq
          · exact hno j h1 (by omega)⟩
        case measure => omega
    · obtain rfl : k = s.size := by omega
      have hS2 := hd (splitC_end c s b hno)
      go_wp2_with (at_builtin; refine wpList_push (w0 := w) (base := w.heap.size) (xs := ws) encStr (by rfl) _ _ 28 (.string ⟨#[]⟩) 16 (by rfl) Tryz.underlying28 info_str (by rfl) (s.extract b s.size) (by rfl) (by rfl) hO (by have := hw.size; omega) (by omega) hw (by omega) (by omega) ?_)
      intro v3 w3 hO3 hb3 hg3 _
      go_wp2
      go_ret
      exact ⟨_, rfl, by rw [hS, hS2.out]; exact hO3, hb3⟩
end Go.Proofs.YtdiblmlcapommaaGreatDoor
