/-
  Contracts of WearText; the law's walk.
-/
import Derived.Test.YthkphhacmneeiaaGreatDoorJ1
import Derived.Test.YthkphhacmneeiaaGreatDoorC2
import Derived.Test.YthkphhacmneeiaaGreatDoorL5
set_option linter.unusedVariables false
set_option linter.unusedSimpArgs false
set_option maxRecDepth 100000
namespace Go.Proofs.YthkphhacmneeiaaGreatDoor
open Go.RowKit
theorem Ow.rdS {α : Type} {e : Enc α} {T : TypeId} {w : World} {base : Nat} {xs : List α} {A : Option Addr} {n cap : Nat} (h : Ow e T w base (.slice A n cap) xs) : Rd e w A xs := by
  obtain ⟨A', c, h1, _, h2⟩ := h.slice
  simp only [Value.slice.injEq] at h1
  obtain ⟨rfl, _⟩ := h1
  exact h2
set_option maxHeartbeats 800000 in
theorem impl_wearText (t f : Mask) (w : World) : Calls Tryz.prog 37 #[.agg #[.int .u64 (lo t), .int .u64 (hi t), .int .u64 (lo f), .int .u64 (hi f)]] w fun e w' => e = .returned (.string (wearT t f)) ∧ Ext w w' := by
  have hX0 : BoxAt (w.alloc (.cells #[.int .u64 (lo t), .int .u64 (hi t), .int .u64 (lo f), .int .u64 (hi f)] 31)) w.heap.size #[.int .u64 (lo t), .int .u64 (hi t), .int .u64 (lo f), .int .u64 (hi f)] 31 := BoxAt.new' rfl
  have hE0 : Ext w (w.alloc (.cells #[.int .u64 (lo t), .int .u64 (hi t), .int .u64 (lo f), .int .u64 (hi f)] 31)) := (Ext.refl _).alloc _
  have hin := holes_in (mjoin t f) 96
  have hhl := holesTo_len (mjoin t f) 96
  have hwl := words_len t f
  have hwj := words_join t f
  have hall : wordsW t f 96 = (holesTo (mjoin t f) 96).map (wordW f) := rfl
  have hwt : wearT t f = joinB (wordsW t f 96) := rfl
  go_enter Tryz.func37, Tryz.ntmps37
  go_wp2_with fail
  refine intro_world (R := fun W => Calls _ _ _ W _) (fun W0 hN => ?_)
  have eW0 : Ext w W0 := by rw [hN]; exact hE0.alloc _
  have hX1 : BoxAt W0 w.heap.size #[.int .u64 (lo t), .int .u64 (hi t), .int .u64 (lo f), .int .u64 (hi f)] 31 := by rw [hN]; exact hX0.alloc _
  have hV1 : Ow encStr 9 W0 (w.heap.size + 1) (.slice (some ⟨w.heap.size + 1, 0, none⟩) 0 0) [] := by rw [hN]; exact Ow.made0 (by simp) (Nat.le_refl _)
  have hsz : w.heap.size + 2 ≤ W0.heap.size := by rw [hN]; simp
  clear hN hX0 hE0
  refine Calls.mono (impl_JoinMasks t f _) ?_
  rintro e w1 ⟨rfl, hb1⟩
  go_wp2_with fail
  refine Calls.mono (impl_holes (mjoin t f) _) ?_
  rintro e w2 ⟨v2, rfl, hO2, hb2⟩
  have hw2 := (eW0.trans hb1).trans hb2
  have hX2 := hX1.ext (hb1.trans hb2)
  have hV2 := hV1.ext (hb1.trans hb2)
  have hne2 : ∀ b, (Value.slice (some ⟨w.heap.size + 1, 0, none⟩) 0 0).ownBlock = some b → v2.ownBlock ≠ some b := fun b h1 h2 => by
    have h3 : w.heap.size + 1 = b := Option.some.inj h1
    have := (hO2.lt b h2).1
    have := hb1.size
    omega
  clear hV1 hX1 eW0
  generalize hhs : holesTo (mjoin t f) 96 = hs at hin hhl hall hO2
  clear hhs
  obtain ⟨A2, c2, rfl, hle2, _⟩ := hO2.slice
  have hO2 := hO2.lower (base' := w.heap.size + 1) (by have := hb1.size; omega)
  clear hb1 hb2 hsz
  go_wp2
  go_loopg [3, 15] hs.length (fun g v iv wr => ∃ k : Nat, g = hs.length - k ∧ k ≤ hs.length ∧ iv = .int .i64 k ∧ Ext w wr ∧ BoxAt wr w.heap.size #[.int .u64 (lo t), .int .u64 (hi t), .int .u64 (lo f), .int .u64 (hi f)] 31 ∧ Ow encStr 9 wr (w.heap.size + 1) v ((hs.take k).map (wordW f)) ∧ Ow encI64 2 wr (w.heap.size + 1) (.slice A2 hs.length c2) hs ∧ ∀ b, v.ownBlock = some b → (Value.slice A2 hs.length c2).ownBlock ≠ some b)
  case atStart => exact ⟨0, by omega, by omega, rfl, hw2, hX2, by rw [List.take_zero, List.map_nil]; exact hV2, hO2, hne2⟩
  case round =>
    clear hX2 hV2 hO2 hne2
    obtain ⟨k, hg, hk, rfl, hw, hX, hV, hO, hne⟩ := hrel
    by_cases hkl : k < hs.length
    · obtain ⟨bh, oh, hA, hlt, _⟩ := hO.rdS k hkl
      subst hA
      have m0 := hO.rdS.i64 k hkl
      obtain ⟨h0, h1⟩ := hin hs[k] (List.getElem_mem hkl)
      have hsn : (hs.take (k + 1)).map (wordW f) = (hs.take k).map (wordW f) ++ [wordW f hs[k]] := by rw [List.take_succ_eq_append_getElem hkl, List.map_append, List.map_singleton]
      obtain ⟨i, hii⟩ := Int.eq_ofNat_of_zero_le h0
      rw [hii] at m0 hsn h1
      have hi96 : i < 96 := by omega
      have hwi : wordW f (i : Int) = (if mhas f i = true then ⟨#[45]⟩ else ⟨#[43]⟩) ++ decT i := rfl
      have x2 : wr.cell? ⟨w.heap.size, 2, none⟩ = some (.int .u64 (lo f)) := hX.cell 2
      have x3 : wr.cell? ⟨w.heap.size, 3, none⟩ = some (.int .u64 (hi f)) := hX.cell 3
      have lX := hX.lt
      have hlw : ((hs.take k).map (wordW f)).length ≤ 96 := by rw [List.length_map, List.length_take]; omega
      have i2 : (k : Int) < hs.length := by omega
      generalize (hs.take k).map (wordW f) = ws at hV hsn hlw
      replace hsn := hd hsn
      clear hii h0 h1
      go_wp2_with fail
      refine Calls.mono (impl_has f i (by omega) (by omega) _) ?_
      rintro e w3 ⟨rfl, hb3⟩
      cases hq : mhas f i with
      | true =>
        rw [hq, if_pos rfl] at hwi
        have s1 : ¬ (9223372036854775807 < ByteArray.size ⟨#[45]⟩ + (decT i).size) := by have := decT_le i; rw [show ByteArray.size ⟨#[45]⟩ = 1 from rfl]; omega
        go_wp2_with fail
        refine Calls.mono (FormatInt_small i (by omega) _) ?_
        rintro e w4 ⟨rfl, hb4⟩
        have hb34 := hb3.trans hb4
        have hw4 := hw.trans hb34
        have hV4 := hV.ext hb34
        have hO4 := hO.ext hb34
        have hX4 := hX.ext hb34
        have hltV := hO4.lt
        have lX4 := hX4.lt
        clear hb3 hb4 hV hO hX m0 x2 x3 lX hin hall
        go_wp2_with (at_builtin; refine wpList_push2 (w0 := w) (base := w.heap.size + 1) (xs := ws) encStr (by rfl) _ _ 59 (.string ⟨#[]⟩) 16 (by rfl) Tryz.underlying59 info_str (by rfl) (((⟨#[45]⟩ : ByteArray) ++ decT i)) (by rfl) (by rfl) (by simp) (hV4) (by have := (hw4 : Ext w _).size; simp at this ⊢; omega) (by omega) (hw4) (by omega) (by omega) ?_)
        intro v5 w5 hO5 hb5 hg5 ho5
        have hOv := hO5
        replace hO5 := hO4.grown hg5 (by
          cases hv : (Value.slice (some ⟨bh, oh, none⟩) hs.length c2).ownBlock with
          | none => exact .inl rfl
          | some b => exact .inr fun e => hne b e.symm hv)
        have hX5 : BoxAt w5 w.heap.size #[.int .u64 (lo t), .int .u64 (hi t), .int .u64 (lo f), .int .u64 (hi f)] 31 := (hg5.block _ hX4.lt (fun e => by have := (hV4.lt w.heap.size e.symm).1; omega)).trans hX4
        have hne5 : ∀ b, v5.ownBlock = some b → (Value.slice (some ⟨bh, oh, none⟩) hs.length c2).ownBlock ≠ some b := fun b hb e => by
          rcases ho5 with h1 | ⟨bb, h1, h2⟩
          · exact hne b (h1.symm.trans hb) e
          · rw [h1] at hb
            have := (hltV _ e).2
            have := Option.some.inj hb
            omega
        clear hg5 ho5 hV4 hO4 hX4 hne hltV hb34 hw4
        go_wp2
        go_roundg (hs.length - (k + 1))
        case rel => exact ⟨k + 1, rfl, hkl, by simp, hb5, hX5, by rw [hsn.out, hwi]; exact hOv, hO5, hne5⟩
        case measure => omega
      | false =>
        rw [hq, if_neg (by decide)] at hwi
        have s1 : ¬ (9223372036854775807 < ByteArray.size ⟨#[43]⟩ + (decT i).size) := by have := decT_le i; rw [show ByteArray.size ⟨#[43]⟩ = 1 from rfl]; omega
        go_wp2_with fail
        refine Calls.mono (FormatInt_small i (by omega) _) ?_
        rintro e w4 ⟨rfl, hb4⟩
        have hb34 := hb3.trans hb4
        have hw4 := hw.trans hb34
        have hV4 := hV.ext hb34
        have hO4 := hO.ext hb34
        have hX4 := hX.ext hb34
        have hltV := hO4.lt
        have lX4 := hX4.lt
        clear hb3 hb4 hV hO hX m0 x2 x3 lX hin hall
        go_wp2_with (at_builtin; refine wpList_push2 (w0 := w) (base := w.heap.size + 1) (xs := ws) encStr (by rfl) _ _ 59 (.string ⟨#[]⟩) 16 (by rfl) Tryz.underlying59 info_str (by rfl) (((⟨#[43]⟩ : ByteArray) ++ decT i)) (by rfl) (by rfl) (by simp) (hV4) (by have := (hw4 : Ext w _).size; simp at this ⊢; omega) (by omega) (hw4) (by omega) (by omega) ?_)
        intro v5 w5 hO5 hb5 hg5 ho5
        have hOv := hO5
        replace hO5 := hO4.grown hg5 (by
          cases hv : (Value.slice (some ⟨bh, oh, none⟩) hs.length c2).ownBlock with
          | none => exact .inl rfl
          | some b => exact .inr fun e => hne b e.symm hv)
        have hX5 : BoxAt w5 w.heap.size #[.int .u64 (lo t), .int .u64 (hi t), .int .u64 (lo f), .int .u64 (hi f)] 31 := (hg5.block _ hX4.lt (fun e => by have := (hV4.lt w.heap.size e.symm).1; omega)).trans hX4
        have hne5 : ∀ b, v5.ownBlock = some b → (Value.slice (some ⟨bh, oh, none⟩) hs.length c2).ownBlock ≠ some b := fun b hb e => by
          rcases ho5 with h1 | ⟨bb, h1, h2⟩
          · exact hne b (h1.symm.trans hb) e
          · rw [h1] at hb
            have := (hltV _ e).2
            have := Option.some.inj hb
            omega
        clear hg5 ho5 hV4 hO4 hX4 hne hltV hb34 hw4
        go_wp2
        go_roundg (hs.length - (k + 1))
        case rel => exact ⟨k + 1, rfl, hkl, by simp, hb5, hX5, by rw [hsn.out, hwi]; exact hOv, hO5, hne5⟩
        case measure => omega
    · obtain rfl : k = hs.length := by omega
      rw [List.take_length, ← hall] at hV
      obtain ⟨A9, c9, rfl, hle9, hR9⟩ := hV.slice
      have hj := strings_Join32 (wordsW t f 96) A9 c9 wr hR9 hle9 (by omega) (by omega)
      rw [← hwt] at hj
      clear hall hwt hwj hV hne hO hin
      generalize (wordsW t f 96).length = lw at hj ⊢
      go_wp2_with fail
      refine Calls.mono hj ?_
      rintro e w9 ⟨rfl, hb9⟩
      go_wp2
      go_ret
      exact ⟨rfl, hw.trans hb9⟩
set_option maxHeartbeats 400000 in
theorem impl_WearText (t f : Mask) (w : World) : Calls Tryz.prog 11 #[.agg #[.int .u64 (lo t), .int .u64 (hi t), .int .u64 (lo f), .int .u64 (hi f)]] w fun e w' => e = .returned (.string (if isWearB t f = true then wearT t f else ⟨#[]⟩)) ∧ Ext w w' := by
  have hX0 : BoxAt (w.alloc (.cells #[.int .u64 (lo t), .int .u64 (hi t), .int .u64 (lo f), .int .u64 (hi f)] 31)) w.heap.size #[.int .u64 (lo t), .int .u64 (hi t), .int .u64 (lo f), .int .u64 (hi f)] 31 := BoxAt.new' rfl
  have hE0 : Ext w (w.alloc (.cells #[.int .u64 (lo t), .int .u64 (hi t), .int .u64 (lo f), .int .u64 (hi f)] 31)) := (Ext.refl _).alloc _
  have c1 := fun W => impl_isWear t f W
  have c2 := fun W => impl_wearText t f W
  cases hv : isWearB t f with
  | false =>
    rw [hv] at c1
    go_enter Tryz.func11, Tryz.ntmps11
    go_wp2_with fail
    refine Calls.mono (c1 _) ?_
    rintro e w1 ⟨rfl, hb1⟩
    go_wp2
    go_ret
    exact ⟨by simp, hE0.trans hb1⟩
  | true =>
    rw [hv] at c1
    go_enter Tryz.func11, Tryz.ntmps11
    go_wp2_with fail
    refine Calls.mono (c1 _) ?_
    rintro e w1 ⟨rfl, hb1⟩
    have hX1 := hX0.ext hb1
    have x0 : w1.cell? ⟨w.heap.size, 0, none⟩ = some (.int .u64 (lo t)) := hX1.cell 0
    have x1 : w1.cell? ⟨w.heap.size, 1, none⟩ = some (.int .u64 (hi t)) := hX1.cell 1
    have x2 : w1.cell? ⟨w.heap.size, 2, none⟩ = some (.int .u64 (lo f)) := hX1.cell 2
    have x3 : w1.cell? ⟨w.heap.size, 3, none⟩ = some (.int .u64 (hi f)) := hX1.cell 3
    have lX := hX1.lt
    go_wp2_with fail
    refine Calls.mono (c2 _) ?_
    rintro e w2 ⟨rfl, hb2⟩
    go_wp2
    go_ret
    exact ⟨by simp, (hE0.trans hb1).trans hb2⟩
