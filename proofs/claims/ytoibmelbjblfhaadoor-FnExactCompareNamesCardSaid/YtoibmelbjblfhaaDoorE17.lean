/-
  Contracts of the functions that compare names as they are filed.
-/
import Derived.Test.YtoibmelbjblfhaaDoorE16
import Derived.Test.YtoibmelbjblfhaaDoorE8
set_option linter.unusedVariables false
set_option linter.unusedSimpArgs false
set_option maxRecDepth 100000
namespace Go.Proofs.YtoibmelbjblfhaaDoor
open Go.RowKit
theorem Rd.drop1 {w : World} {b off : Nat} {ws : List ByteArray} (h : Rd encStr w (some ⟨b, off, none⟩) ws) : Rd encStr w (some ⟨b, off + 1, none⟩) (ws.drop 1) := fun k hk => by
  have hk2 : k + 1 < ws.length := by rw [List.length_drop] at hk; omega
  obtain ⟨b', off', hA, hlt, hc⟩ := h (k + 1) hk2
  simp only [Option.some.injEq, Addr.mk.injEq, and_true] at hA
  obtain ⟨rfl, rfl⟩ := hA
  refine ⟨_, _, rfl, hlt, fun j u hu => ?_⟩
  rw [List.getElem_drop] at hu
  have := hc j u (by rw [show (ws[k + 1] : ByteArray) = ws[1 + k] from by congr 1; omega]; exact hu)
  rw [show off + 1 + k * encStr.sz + j = off + (k + 1) * encStr.sz + j by rw [Nat.add_mul]; show off + 1 + k * 1 + j = off + (k * 1 + 1 * 1) + j; omega]
  exact this
theorem orI_pos {a b : Int} (h : a ≠ 0) : orI a b = a := by unfold orI; rw [if_pos h]
theorem orI_zero (b : Int) : orI 0 b = b := by unfold orI; rw [if_neg (by simp)]
theorem cmpW_dd {a b : ByteArray} (h1 : digB a = true) (h2 : digB b = true) : cmpW a b = cmpD (stripZ a) (stripZ b) := by unfold cmpW; rw [if_pos h1, if_pos h2]
theorem cmpW_dn {a b : ByteArray} (h1 : digB a = true) (h2 : digB b = false) : cmpW a b = -1 := by unfold cmpW; rw [if_pos h1, if_neg (by simp [h2])]
theorem cmpW_nd {a b : ByteArray} (h1 : digB a = false) (h2 : digB b = true) : cmpW a b = 1 := by unfold cmpW; rw [if_neg (by simp [h1]), if_pos h2]
theorem cmpW_nn {a b : ByteArray} (h1 : digB a = false) (h2 : digB b = false) : cmpW a b = cmpB a b := by unfold cmpW; rw [if_neg (by simp [h1]), if_neg (by simp [h2])]
set_option maxHeartbeats 400000 in
theorem spec_l05Word (a b : ByteArray) (ha : a.data.toList.all isPlain = true) (hb : b.data.toList.all isPlain = true) (hsa : a.size ≤ 1048576) (hsb : b.size ≤ 1048576) (w : World) :
    Calls Tryd.prog 77 #[.string a, .string b] w fun e w' => e = .returned (.int .i64 (cmpW a b)) ∧ Ext w w' := by
  have pa := plain_dig a ha
  have pb := plain_dig b hb
  cases hda : digB a with
  | true =>
    cases hdb : digB b with
    | true =>
      have hv := hd (cmpW_dd hda hdb)
      have hza := stripZ_size a
      have hzb := stripZ_size b
      by_cases hl : (stripZ a).size = (stripZ b).size
      · have hv2 := hd (show cmpD (stripZ a) (stripZ b) = cmpB (stripZ a) (stripZ b) by
          unfold cmpD
          rw [show Lib.compareInt (stripZ a).size (stripZ b).size = 0 from by rw [hl, sign_cmp, if_neg (by omega), if_neg (by omega)], orI_zero])
        have hq : ((stripZ a).size : Int) = ((stripZ b).size : Int) := by rw [hl]
        go_enter Tryd.func77, Tryd.ntmps77
        go_wp2_with fail
        refine Calls.mono (spec_l05Digits a hsa _) ?_
        rintro e w1 ⟨rfl, hb1⟩
        rw [pa, hda]
        go_wp2_with fail
        refine Calls.mono (spec_l05Digits b hsb _) ?_
        rintro e w2 ⟨rfl, hb2⟩
        rw [pb, hdb]
        go_wp2_with fail
        refine Calls.mono (spec_l05Value a hsa _) ?_
        rintro e w3 ⟨rfl, hb3⟩
        go_wp2_with fail
        refine Calls.mono (spec_l05Value b hsb _) ?_
        rintro e w4 ⟨rfl, hb4⟩
        generalize stripZ a = x at hv hv2 hl hq hza
        generalize stripZ b = y at hv hv2 hl hq hzb
        go_wp2_with fail
        refine Calls.mono (spec_l05Order x y _) ?_
        rintro e w5 ⟨rfl, hb5⟩
        go_wp2
        go_ret
        exact ⟨by rw [hv.out, hv2.out]; rfl, by ((repeat (first | with_reducible exact Ext.refl _ | with_reducible exact hw | with_reducible exact hb9 | with_reducible exact hb8 | with_reducible exact hb7 | with_reducible exact hb6 | with_reducible exact hb5 | with_reducible exact hb4 | with_reducible exact hb3 | with_reducible exact hb2 | with_reducible exact hb1 | with_reducible refine Ext.alloc ?_ _ | with_reducible refine Ext.drew ?_ | ((with_reducible refine Ext.set ?_ ?_ _); focus (dsimp only; omega)) | with_reducible refine Ext.trans ?_ hb9 | with_reducible refine Ext.trans ?_ hb8 | with_reducible refine Ext.trans ?_ hb7 | with_reducible refine Ext.trans ?_ hb6 | with_reducible refine Ext.trans ?_ hb5 | with_reducible refine Ext.trans ?_ hb4 | with_reducible refine Ext.trans ?_ hb3 | with_reducible refine Ext.trans ?_ hb2 | with_reducible refine Ext.trans ?_ hb1 | with_reducible refine Ext.trans ?_ hw)))⟩
      · have hq : ¬ ((stripZ a).size : Int) = ((stripZ b).size : Int) := by omega
        have hv2 := hd (show cmpD (stripZ a) (stripZ b) = if ((stripZ a).size : Int) - (stripZ b).size < 0 then -1 else if ((stripZ a).size : Int) - (stripZ b).size > 0 then 1 else 0 by
          unfold cmpD
          rw [sign_cmp]
          refine orI_pos ?_
          split
          · simp
          · rw [if_pos (by omega)]; simp)
        go_enter Tryd.func77, Tryd.ntmps77
        go_wp2_with fail
        refine Calls.mono (spec_l05Digits a hsa _) ?_
        rintro e w1 ⟨rfl, hb1⟩
        rw [pa, hda]
        go_wp2_with fail
        refine Calls.mono (spec_l05Digits b hsb _) ?_
        rintro e w2 ⟨rfl, hb2⟩
        rw [pb, hdb]
        go_wp2_with fail
        refine Calls.mono (spec_l05Value a hsa _) ?_
        rintro e w3 ⟨rfl, hb3⟩
        go_wp2_with fail
        refine Calls.mono (spec_l05Value b hsb _) ?_
        rintro e w4 ⟨rfl, hb4⟩
        generalize stripZ a = x at hv hv2 hl hq hza
        generalize stripZ b = y at hv hv2 hl hq hzb
        have hq2 : ((x.size : Int) != (y.size : Int)) = true := by simp [hq, hl]
        go_wp2_with fail
        refine Calls.mono (spec_l05Sign ((x.size : Int) - y.size) _) ?_
        rintro e w5 ⟨rfl, hb5⟩
        rw [← hv2.out, ← hv.out]
        go_wp2
        go_ret
        exact ⟨rfl, by ((repeat (first | with_reducible exact Ext.refl _ | with_reducible exact hw | with_reducible exact hb9 | with_reducible exact hb8 | with_reducible exact hb7 | with_reducible exact hb6 | with_reducible exact hb5 | with_reducible exact hb4 | with_reducible exact hb3 | with_reducible exact hb2 | with_reducible exact hb1 | with_reducible refine Ext.alloc ?_ _ | with_reducible refine Ext.drew ?_ | ((with_reducible refine Ext.set ?_ ?_ _); focus (dsimp only; omega)) | with_reducible refine Ext.trans ?_ hb9 | with_reducible refine Ext.trans ?_ hb8 | with_reducible refine Ext.trans ?_ hb7 | with_reducible refine Ext.trans ?_ hb6 | with_reducible refine Ext.trans ?_ hb5 | with_reducible refine Ext.trans ?_ hb4 | with_reducible refine Ext.trans ?_ hb3 | with_reducible refine Ext.trans ?_ hb2 | with_reducible refine Ext.trans ?_ hb1 | with_reducible refine Ext.trans ?_ hw)))⟩
    | false =>
      have hv := hd (cmpW_dn hda hdb)
      go_enter Tryd.func77, Tryd.ntmps77
      go_wp2_with fail
      refine Calls.mono (spec_l05Digits a hsa _) ?_
      rintro e w1 ⟨rfl, hb1⟩
      rw [pa, hda]
      go_wp2_with fail
      refine Calls.mono (spec_l05Digits b hsb _) ?_
      rintro e w2 ⟨rfl, hb2⟩
      rw [pb, hdb]
      go_wp2
      go_ret
      exact ⟨by rw [hv.out]; rfl, by ((repeat (first | with_reducible exact Ext.refl _ | with_reducible exact hw | with_reducible exact hb9 | with_reducible exact hb8 | with_reducible exact hb7 | with_reducible exact hb6 | with_reducible exact hb5 | with_reducible exact hb4 | with_reducible exact hb3 | with_reducible exact hb2 | with_reducible exact hb1 | with_reducible refine Ext.alloc ?_ _ | with_reducible refine Ext.drew ?_ | ((with_reducible refine Ext.set ?_ ?_ _); focus (dsimp only; omega)) | with_reducible refine Ext.trans ?_ hb9 | with_reducible refine Ext.trans ?_ hb8 | with_reducible refine Ext.trans ?_ hb7 | with_reducible refine Ext.trans ?_ hb6 | with_reducible refine Ext.trans ?_ hb5 | with_reducible refine Ext.trans ?_ hb4 | with_reducible refine Ext.trans ?_ hb3 | with_reducible refine Ext.trans ?_ hb2 | with_reducible refine Ext.trans ?_ hb1 | with_reducible refine Ext.trans ?_ hw)))⟩
  | false =>
    cases hdb : digB b with
    | true =>
      have hv := hd (cmpW_nd hda hdb)
      go_enter Tryd.func77, Tryd.ntmps77
      go_wp2_with fail
      refine Calls.mono (spec_l05Digits a hsa _) ?_
      rintro e w1 ⟨rfl, hb1⟩
      rw [pa, hda]
      go_wp2_with fail
      refine Calls.mono (spec_l05Digits b hsb _) ?_
      rintro e w2 ⟨rfl, hb2⟩
      rw [pb, hdb]
      go_wp2
      go_ret
      exact ⟨by rw [hv.out]; rfl, by ((repeat (first | with_reducible exact Ext.refl _ | with_reducible exact hw | with_reducible exact hb9 | with_reducible exact hb8 | with_reducible exact hb7 | with_reducible exact hb6 | with_reducible exact hb5 | with_reducible exact hb4 | with_reducible exact hb3 | with_reducible exact hb2 | with_reducible exact hb1 | with_reducible refine Ext.alloc ?_ _ | with_reducible refine Ext.drew ?_ | ((with_reducible refine Ext.set ?_ ?_ _); focus (dsimp only; omega)) | with_reducible refine Ext.trans ?_ hb9 | with_reducible refine Ext.trans ?_ hb8 | with_reducible refine Ext.trans ?_ hb7 | with_reducible refine Ext.trans ?_ hb6 | with_reducible refine Ext.trans ?_ hb5 | with_reducible refine Ext.trans ?_ hb4 | with_reducible refine Ext.trans ?_ hb3 | with_reducible refine Ext.trans ?_ hb2 | with_reducible refine Ext.trans ?_ hb1 | with_reducible refine Ext.trans ?_ hw)))⟩
    | false =>
      have hv := hd (cmpW_nn hda hdb)
      go_enter Tryd.func77, Tryd.ntmps77
      go_wp2_with fail
      refine Calls.mono (spec_l05Digits a hsa _) ?_
      rintro e w1 ⟨rfl, hb1⟩
      rw [pa, hda]
      go_wp2_with fail
      refine Calls.mono (spec_l05Digits b hsb _) ?_
      rintro e w2 ⟨rfl, hb2⟩
      rw [pb, hdb]
      go_wp2_with fail
      refine Calls.mono (spec_l05Order a b _) ?_
      rintro e w3 ⟨rfl, hb3⟩
      go_wp2
      go_ret
      exact ⟨by rw [hv.out]; rfl, by ((repeat (first | with_reducible exact Ext.refl _ | with_reducible exact hw | with_reducible exact hb9 | with_reducible exact hb8 | with_reducible exact hb7 | with_reducible exact hb6 | with_reducible exact hb5 | with_reducible exact hb4 | with_reducible exact hb3 | with_reducible exact hb2 | with_reducible exact hb1 | with_reducible refine Ext.alloc ?_ _ | with_reducible refine Ext.drew ?_ | ((with_reducible refine Ext.set ?_ ?_ _); focus (dsimp only; omega)) | with_reducible refine Ext.trans ?_ hb9 | with_reducible refine Ext.trans ?_ hb8 | with_reducible refine Ext.trans ?_ hb7 | with_reducible refine Ext.trans ?_ hb6 | with_reducible refine Ext.trans ?_ hb5 | with_reducible refine Ext.trans ?_ hb4 | with_reducible refine Ext.trans ?_ hb3 | with_reducible refine Ext.trans ?_ hb2 | with_reducible refine Ext.trans ?_ hb1 | with_reducible refine Ext.trans ?_ hw)))⟩
theorem strings_TrimLeft0 (s : ByteArray) (w : World) : Calls Tryd.prog 96 #[.string s, .string ⟨#[48]⟩] w fun e w' => e = .returned (.string (stripZ s)) ∧ Ext w w' :=
  (Tryd.strings_TrimLeft_one s 48 (by decide) w).mono fun e w' ⟨h, hw⟩ => ⟨h, hw ▸ Ext.refl _⟩
theorem strings_Compare (a b : ByteArray) (w : World) : Calls Tryd.prog 84 #[.string a, .string b] w fun e w' => e = .returned (.int .i64 (cmpB a b)) ∧ Ext w w' :=
  (Tryd.strings_Compare a b w).mono fun e w' ⟨h, hw⟩ => ⟨h, hw ▸ Ext.refl _⟩
theorem cmp_Compare (x y : Int) (w : World) : Calls Tryd.prog 97 #[.int .i64 x, .int .i64 y] w fun e w' => e = .returned (.int .i64 (Lib.compareInt x y)) ∧ Ext w w' :=
  (Tryd.cmp_Compare_int x y w).mono fun e w' ⟨h, hw⟩ => ⟨h, hw ▸ Ext.refl _⟩
set_option maxHeartbeats 400000 in
theorem cmp_Or (a b : Int) (A : Option Addr) (cap : Nat) (w : World) (hR : Rd encI64 w A [a, b]) :
    Calls Tryd.prog 80 #[.slice A 2 cap] w fun e w' => e = .returned (.int .i64 (orI a b)) ∧ Ext w w' := by
  obtain ⟨bk, off, hA, hlt, _⟩ := hR 0 (by simp)
  subst hA
  have c0 := hR.i64 0 (by simp)
  have c1 := hR.i64 1 (by simp)
  simp only [Nat.add_zero, List.getElem_cons_zero, List.getElem_cons_succ] at c0 c1
  by_cases h1 : a = 0
  · have hv := hd (show orI a b = b by rw [h1, orI_zero])
    by_cases h2 : b = 0
    · have b1 : (a != 0) = false := by simp [h1]
      have b2 : (b != 0) = false := by simp [h2]
      go_enter Tryd.func80, Tryd.ntmps80
      go_wp2
      refine wp_loop_rounds 3 ?_
      rw [rounds_succ]
      go_wp2
      rw [rounds_succ]
      go_wp2
      rw [rounds_succ]
      go_wp2
      go_ret
      exact ⟨by rw [hv.out, h2]; rfl, Ext.refl _⟩
    · have b1 : (a != 0) = false := by simp [h1]
      have b2 : (b != 0) = true := by simp [h2]
      go_enter Tryd.func80, Tryd.ntmps80
      go_wp2
      refine wp_loop_rounds 3 ?_
      rw [rounds_succ]
      go_wp2
      rw [rounds_succ]
      go_wp2
      go_ret
      exact ⟨by rw [hv.out]; rfl, Ext.refl _⟩
  · have hv := hd (show orI a b = a from orI_pos h1)
    have b1 : (a != 0) = true := by simp [h1]
    go_enter Tryd.func80, Tryd.ntmps80
    go_wp2
    refine wp_loop_rounds 3 ?_
    rw [rounds_succ]
    go_wp2
    go_ret
    exact ⟨by rw [hv.out]; rfl, Ext.refl _⟩
theorem trim_dig (s t : ByteArray) (ht : t.data.toList = trimLR (inS digSet.data.toList) s.data.toList) : t.toList.isEmpty = digB s := by
  rw [ByteArray.toList_eq, ht, Bool.eq_iff_iff, List.isEmpty_iff, trimLR_nil_iff]
  unfold digB
  rw [List.all_eq_true, List.all_eq_true]
  exact ⟨fun h x hx => (inS_dig x).symm.trans (h x hx), fun h x hx => (inS_dig x).trans (h x hx)⟩
set_option maxHeartbeats 1000000 in
theorem impl_compareWords (a b : ByteArray) (hsa : a.size ≤ 1048576) (hsb : b.size ≤ 1048576) (w : World) :
    Calls Tryd.prog 83 #[.string a, .string b] w fun e w' => e = .returned (.int .i64 (cmpW a b)) ∧ Ext w w' := by
  go_enter Tryd.func83, Tryd.ntmps83
  go_wp2_with fail
  refine Calls.mono (strings_Trim a digSet _ (by omega) (by decide) (by decide) (by decide)) ?_
  rintro e w1 ⟨t1, rfl, ht1, hz1, hb1⟩
  have hd1 := trim_dig a t1 ht1
  clear ht1
  go_wp2_with fail
  refine Calls.mono (strings_Trim b digSet _ (by omega) (by decide) (by decide) (by decide)) ?_
  rintro e w2 ⟨t2, rfl, ht2, hz2, hb2⟩
  have hd2 := trim_dig b t2 ht2
  clear ht2
  cases hda : digB a with
  | true =>
    rw [hda] at hd1
    cases hdb : digB b with
    | true =>
      rw [hdb] at hd2
      have hv := hd (cmpW_dd hda hdb)
      have hv2 := hd (show cmpD (stripZ a) (stripZ b) = orI (Lib.compareInt (stripZ a).size (stripZ b).size) (cmpB (stripZ a) (stripZ b)) from rfl)
      have hza := stripZ_size a
      have hzb := stripZ_size b
      go_wp2_with fail
      refine Calls.mono (strings_TrimLeft0 a _) ?_
      rintro e w3 ⟨rfl, hb3⟩
      go_wp2_with fail
      refine Calls.mono (strings_TrimLeft0 b _) ?_
      rintro e w4 ⟨rfl, hb4⟩
      generalize stripZ a = x at hv hv2 hza
      generalize stripZ b = y at hv hv2 hzb
      go_wp2_with fail
      refine Calls.mono (cmp_Compare x.size y.size _) ?_
      rintro e w5 ⟨rfl, hb5⟩
      go_wp2_with fail
      refine Calls.mono (strings_Compare x y _) ?_
      rintro e w6 ⟨rfl, hb6⟩
      generalize Lib.compareInt x.size y.size = p at hv2
      generalize cmpB x y = q at hv2
      go_wp2_with fail
      refine Calls.mono (cmp_Or p q _ 2 _ Rd.lit2) ?_
      rintro e w7 ⟨rfl, hb7⟩
      go_wp2
      go_ret
      exact ⟨by rw [hv.out, hv2.out]; rfl, by ((repeat (first | with_reducible exact Ext.refl _ | with_reducible exact hw | with_reducible exact hb9 | with_reducible exact hb8 | with_reducible exact hb7 | with_reducible exact hb6 | with_reducible exact hb5 | with_reducible exact hb4 | with_reducible exact hb3 | with_reducible exact hb2 | with_reducible exact hb1 | with_reducible refine Ext.alloc ?_ _ | with_reducible refine Ext.drew ?_ | ((with_reducible refine Ext.set ?_ ?_ _); focus (dsimp only; omega)) | with_reducible refine Ext.trans ?_ hb9 | with_reducible refine Ext.trans ?_ hb8 | with_reducible refine Ext.trans ?_ hb7 | with_reducible refine Ext.trans ?_ hb6 | with_reducible refine Ext.trans ?_ hb5 | with_reducible refine Ext.trans ?_ hb4 | with_reducible refine Ext.trans ?_ hb3 | with_reducible refine Ext.trans ?_ hb2 | with_reducible refine Ext.trans ?_ hb1 | with_reducible refine Ext.trans ?_ hw)))⟩
    | false =>
      rw [hdb] at hd2
      have hv := hd (cmpW_dn hda hdb)
      go_wp2
      go_ret
      exact ⟨by rw [hv.out]; rfl, by ((repeat (first | with_reducible exact Ext.refl _ | with_reducible exact hw | with_reducible exact hb9 | with_reducible exact hb8 | with_reducible exact hb7 | with_reducible exact hb6 | with_reducible exact hb5 | with_reducible exact hb4 | with_reducible exact hb3 | with_reducible exact hb2 | with_reducible exact hb1 | with_reducible refine Ext.alloc ?_ _ | with_reducible refine Ext.drew ?_ | ((with_reducible refine Ext.set ?_ ?_ _); focus (dsimp only; omega)) | with_reducible refine Ext.trans ?_ hb9 | with_reducible refine Ext.trans ?_ hb8 | with_reducible refine Ext.trans ?_ hb7 | with_reducible refine Ext.trans ?_ hb6 | with_reducible refine Ext.trans ?_ hb5 | with_reducible refine Ext.trans ?_ hb4 | with_reducible refine Ext.trans ?_ hb3 | with_reducible refine Ext.trans ?_ hb2 | with_reducible refine Ext.trans ?_ hb1 | with_reducible refine Ext.trans ?_ hw)))⟩
  | false =>
    rw [hda] at hd1
    cases hdb : digB b with
    | true =>
      rw [hdb] at hd2
      have hv := hd (cmpW_nd hda hdb)
      go_wp2
      go_ret
      exact ⟨by rw [hv.out]; rfl, by ((repeat (first | with_reducible exact Ext.refl _ | with_reducible exact hw | with_reducible exact hb9 | with_reducible exact hb8 | with_reducible exact hb7 | with_reducible exact hb6 | with_reducible exact hb5 | with_reducible exact hb4 | with_reducible exact hb3 | with_reducible exact hb2 | with_reducible exact hb1 | with_reducible refine Ext.alloc ?_ _ | with_reducible refine Ext.drew ?_ | ((with_reducible refine Ext.set ?_ ?_ _); focus (dsimp only; omega)) | with_reducible refine Ext.trans ?_ hb9 | with_reducible refine Ext.trans ?_ hb8 | with_reducible refine Ext.trans ?_ hb7 | with_reducible refine Ext.trans ?_ hb6 | with_reducible refine Ext.trans ?_ hb5 | with_reducible refine Ext.trans ?_ hb4 | with_reducible refine Ext.trans ?_ hb3 | with_reducible refine Ext.trans ?_ hb2 | with_reducible refine Ext.trans ?_ hb1 | with_reducible refine Ext.trans ?_ hw)))⟩
    | false =>
      rw [hdb] at hd2
      have hv := hd (cmpW_nn hda hdb)
      go_wp2_with fail
      refine Calls.mono (strings_Compare a b _) ?_
      rintro e w3 ⟨rfl, hb3⟩
      go_wp2
      go_ret
      exact ⟨by rw [hv.out]; rfl, by ((repeat (first | with_reducible exact Ext.refl _ | with_reducible exact hw | with_reducible exact hb9 | with_reducible exact hb8 | with_reducible exact hb7 | with_reducible exact hb6 | with_reducible exact hb5 | with_reducible exact hb4 | with_reducible exact hb3 | with_reducible exact hb2 | with_reducible exact hb1 | with_reducible refine Ext.alloc ?_ _ | with_reducible refine Ext.drew ?_ | ((with_reducible refine Ext.set ?_ ?_ _); focus (dsimp only; omega)) | with_reducible refine Ext.trans ?_ hb9 | with_reducible refine Ext.trans ?_ hb8 | with_reducible refine Ext.trans ?_ hb7 | with_reducible refine Ext.trans ?_ hb6 | with_reducible refine Ext.trans ?_ hb5 | with_reducible refine Ext.trans ?_ hb4 | with_reducible refine Ext.trans ?_ hb3 | with_reducible refine Ext.trans ?_ hb2 | with_reducible refine Ext.trans ?_ hb1 | with_reducible refine Ext.trans ?_ hw)))⟩
