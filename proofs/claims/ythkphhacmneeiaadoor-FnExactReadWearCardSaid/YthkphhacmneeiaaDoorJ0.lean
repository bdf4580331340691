/-
  Decimal numerals and the text of wear: data; contracts of the reference's Decimal and l04Text.
-/
import Derived.Test.YthkphhacmneeiaaDoorC1
import Derived.Test.YthkphhacmneeiaaDoorL6
import Derived.Test.YthkphhacmneeiaaDoorC8
import Derived.Laws.BytesArg
import Derived.Lib.ItoaNum
import Derived.Lib.Join
import Derived.RegionTactic
import Derived.Deep.RegionWith
set_option linter.unusedVariables false
set_option linter.unusedSimpArgs false
set_option maxRecDepth 100000
namespace Go.Proofs.YthkphhacmneeiaaDoor
open Go.RowKit
/-- The decimal numeral of a number. -/
def decT (n : Nat) : ByteArray := ⟨(Lib.decDigits n).toArray⟩
theorem mk_app (a b : List UInt8) : (⟨(a ++ b).toArray⟩ : ByteArray) = ⟨a.toArray⟩ ++ ⟨b.toArray⟩ := by
  apply ByteArray.ext
  simp [ByteArray.data_append]
theorem decT_small {n : Nat} (h : n < 10) : decT n = strOfNums [48 + (n : Int)] := by
  unfold decT strOfNums
  rw [Lib.decDigits, dif_pos h, List.map_singleton, show ((48 + (n : Int)).toNat) = 48 + n by omega]
theorem decT_big {n : Nat} (h : ¬ n < 10) : decT n = decT (n / 10) ++ strOfNums [48 + (n : Int) % 10] := by
  unfold decT strOfNums
  rw [Lib.decDigits, dif_neg h, mk_app, List.map_singleton, show ((48 + (n : Int) % 10).toNat) = 48 + n % 10 by omega]
/-- Words with a space between them. -/
def joinB (ws : List ByteArray) : ByteArray := ⟨(Lib.join (ws.map (·.data.toList)) [32]).toArray⟩
theorem joinB_nil : joinB [] = ⟨#[]⟩ := rfl
theorem joinB_one (x : ByteArray) : joinB [x] = x := by unfold joinB; rw [List.map_singleton, Lib.join_one]
theorem joinTail_snoc (sep : List UInt8) (r : List (List UInt8)) (y : List UInt8) : Lib.joinTail sep (r ++ [y]) = Lib.joinTail sep r ++ (sep ++ y) := by
  unfold Lib.joinTail
  rw [List.map_append, List.flatten_append]
  simp
theorem joinB_snoc {ws : List ByteArray} (h : ws ≠ []) (x : ByteArray) : joinB (ws ++ [x]) = joinB ws ++ (⟨#[32]⟩ ++ x) := by
  cases ws with
  | nil => exact absurd rfl h
  | cons y r =>
    unfold joinB
    rw [List.map_append, List.map_singleton, List.map_cons, List.cons_append, Lib.join_cons, Lib.join_cons, joinTail_snoc, ← List.append_assoc, mk_app, mk_app [32]]
/-- The word of a hole. -/
def wordW (f : Mask) (h : Int) : ByteArray := (if mhas f h = true then ⟨#[45]⟩ else ⟨#[43]⟩) ++ decT h.toNat
def wordsW (t f : Mask) (k : Nat) : List ByteArray := (holesTo (mjoin t f) k).map (wordW f)
def wearT (t f : Mask) : ByteArray := joinB (wordsW t f 96)
theorem words_zero (t f : Mask) : wordsW t f 0 = [] := by unfold wordsW holesTo; rfl
theorem mhas_jn (a b : Mask) (i : Nat) : mhas (mjoin a b) i = (mhas a i || mhas b i) := by simp [mhas, mjoin]
theorem words_none {t f : Mask} {k : Nat} (h1 : mhas t k = false) (h2 : mhas f k = false) : wordsW t f (k + 1) = wordsW t f k := by
  unfold wordsW
  rw [holesTo_miss _ _ (by rw [mhas_jn, h1, h2]; rfl)]
theorem words_minus {t f : Mask} {k : Nat} (h2 : mhas f k = true) : wordsW t f (k + 1) = wordsW t f k ++ [⟨#[45]⟩ ++ decT k] := by
  unfold wordsW
  rw [holesTo_hit _ _ (by rw [mhas_jn, h2, Bool.or_true]), List.map_append, List.map_singleton]
  unfold wordW
  rw [if_pos h2]; rfl
theorem words_plus {t f : Mask} {k : Nat} (h1 : mhas t k = true) (h2 : mhas f k = false) : wordsW t f (k + 1) = wordsW t f k ++ [⟨#[43]⟩ ++ decT k] := by
  unfold wordsW
  rw [holesTo_hit _ _ (by rw [mhas_jn, h1, h2]; rfl), List.map_append, List.map_singleton]
  unfold wordW
  rw [if_neg (by rw [h2]; decide)]; rfl
/-- A text so far, with a further word behind it. -/
def addW (out x : ByteArray) : ByteArray := if out.size = 0 then x else out ++ (⟨#[32]⟩ ++ x)
theorem app_size (a b : ByteArray) : (a ++ b).size = a.size + b.size := ByteArray.size_append
theorem joinB_size {ws : List ByteArray} (h : ws ≠ []) (hw : ∀ x ∈ ws, x.size ≠ 0) : (joinB ws).size ≠ 0 := by
  cases ws with
  | nil => exact absurd rfl h
  | cons y r =>
    have hy := hw y (List.mem_cons_self ..)
    unfold joinB
    rw [List.map_cons, Lib.join_cons, mk_app, app_size]
    have : (⟨y.data.toList.toArray⟩ : ByteArray).size = y.size := by rw [Array.toArray_toList]
    omega
theorem joinB_add {ws : List ByteArray} (hw : ∀ x ∈ ws, x.size ≠ 0) (x : ByteArray) : joinB (ws ++ [x]) = addW (joinB ws) x := by
  unfold addW
  by_cases h : ws = []
  · subst h
    rw [if_pos (by rfl), List.nil_append, joinB_one]
  · rw [if_neg (joinB_size h hw), joinB_snoc h]
theorem words_pos (t f : Mask) (k : Nat) : ∀ x ∈ wordsW t f k, x.size ≠ 0 := fun x hx => by
  unfold wordsW at hx
  obtain ⟨h, _, rfl⟩ := List.mem_map.1 hx
  unfold wordW
  rw [app_size]
  have : (if mhas f h = true then (⟨#[45]⟩ : ByteArray) else ⟨#[43]⟩).size = 1 := by split <;> rfl
  omega
theorem text_none {t f : Mask} {k : Nat} (h1 : mhas t k = false) (h2 : mhas f k = false) : joinB (wordsW t f (k + 1)) = joinB (wordsW t f k) := by rw [words_none h1 h2]
theorem text_minus {t f : Mask} {k : Nat} (h2 : mhas f k = true) : joinB (wordsW t f (k + 1)) = addW (joinB (wordsW t f k)) (⟨#[45]⟩ ++ decT k) := by rw [words_minus h2, joinB_add (words_pos t f k)]
theorem text_plus {t f : Mask} {k : Nat} (h1 : mhas t k = true) (h2 : mhas f k = false) : joinB (wordsW t f (k + 1)) = addW (joinB (wordsW t f k)) (⟨#[43]⟩ ++ decT k) := by rw [words_plus h1 h2, joinB_add (words_pos t f k)]
theorem add_first {out : ByteArray} (h : out.size = 0) (x : ByteArray) : addW out x = x := if_pos h
theorem add_next {out : ByteArray} (h : ¬ out.size = 0) (x : ByteArray) : addW out x = out ++ (⟨#[32]⟩ ++ x) := if_neg h
theorem size_zero {s : ByteArray} (h : s.size = 0) : s = ⟨#[]⟩ := ByteArray.ext (Array.eq_empty_of_size_eq_zero h)
theorem app_assoc3 (a b c : ByteArray) : a ++ b ++ c = a ++ (b ++ c) := ByteArray.append_assoc
theorem decT_le (n : Nat) : (decT n).size ≤ n + 1 := by
  unfold decT
  show (Lib.decDigits n).length ≤ n + 1
  induction n using Nat.strongRecOn with
  | _ n ih =>
    by_cases h : n < 10
    · rw [Lib.decDigits, dif_pos h]; simp
    · rw [Lib.decDigits, dif_neg h, List.length_append, List.length_singleton]
      have := ih (n / 10) (by omega)
      omega
theorem one_size (n : Int) : (strOfNums [n]).size = 1 := rfl
theorem jempty_app (x : ByteArray) : (⟨#[]⟩ : ByteArray) ++ x = x := ByteArray.ext (by simp [ByteArray.data_append])
attribute [irreducible] decT joinB
theorem conv_at (W : World) (b : Nat) (n : Int) (h : W.cell? ⟨b, 0, none⟩ = some (.int .u8 n)) : (convert 65 9 (.slice (some ⟨b, 0, none⟩) 1 1)).run Tryd.prog W = .ok (.string (strOfNums [n])) W :=
  run_convert_bytes_arg _ 65 5 Tryd.underlying65 Tryd.underlying5 b 0 1 1 [n] rfl (fun i hi => by
    obtain rfl : i = 0 := by omega
    exact h) 9 Tryd.underlying9
set_option maxHeartbeats 1000000 in
theorem spec_Decimal (n : Nat) (hn : n < 9223372036854775808) : ∀ w, Calls Tryd.prog 29 #[.int .i64 n] w fun e w' => e = .returned (.string (decT n)) ∧ Ext w w' := by
  induction n using Nat.strongRecOn with
  | _ n ih =>
  intro w
  have hcv := conv_at
  by_cases h : n < 10
  · have hm : (n : Int) % 10 = n := by omega
    have hv := hd (decT_small h)
    have hlt : (n : Int) < 10 := by omega
    clear ih
    go_enter Tryd.func29, Tryd.ntmps29
    go_wp2
    go_ret
    exact ⟨by rw [hv.out]; rfl, (Ext.refl _).alloc _⟩
  · obtain ⟨q, hq⟩ : ∃ q : Nat, n / 10 = q := ⟨_, rfl⟩
    have hv := decT_big h
    rw [hq] at hv
    replace hv := hd hv
    have hlt : ((n : Int) < 10) = False := eq_false (by omega)
    have hq2 : (n : Int) / 10 = (q : Int) := by omega
    have hc := fun W => ih q (by omega) (by omega) W
    have hwq : IntKind.i64.wrap (q : Int) = q := IntWalk.i64_in _ (by omega)
    have htm : (n : Int).tmod 10 = (n : Int) % 10 := Int.tmod_eq_emod_of_nonneg (by omega)
    have hw2 : IntKind.i64.wrap (48 + (n : Int) % 10) = 48 + (n : Int) % 10 := IntWalk.i64_in _ (by omega)
    have hu8 : IntKind.u8.wrap (48 + (n : Int) % 10) = 48 + (n : Int) % 10 := IntWalk.u8_in _ (by omega)
    have hsz : ¬ (9223372036854775807 < (decT q).size + (strOfNums [48 + (n : Int) % 10]).size) := by have := decT_le q; rw [one_size]; omega
    clear ih
    replace hq := hd hq
    go_enter Tryd.func29, Tryd.ntmps29
    go_wp2
    refine wp_region_any (by kernel_rfl) ?_
    change wpAny _ _ _ _ _ _ _ (World.drew _)
    refine intro_world (fun WD hWD => ?_)
    have eD : Ext w WD := by rw [hWD]; exact (Ext.refl _).drew
    clear hWD
    refine wpAny_take (i := 0) (v := ?_) rfl (by kernel_rfl) (by kernel_rfl) (by kernel_rfl) (fun _ _ _ h => h) (Or.inl ⟨by rfl, ?_⟩) ?_
    rotate_left
    · (intro W9; go_simp; try with_reducible rfl)
    refine wpAny_take (i := 1) (v := ?_) rfl (by kernel_rfl) (by kernel_rfl) (by kernel_rfl) (fun _ _ _ h => h) (Or.inl ⟨by rfl, ?_⟩) ?_
    rotate_left
    · (intro W9; go_simp; try with_reducible rfl)
    refine wpAny_take (i := 3) (v := ?_) rfl (by kernel_rfl) (by kernel_rfl) (by kernel_rfl) (fun _ _ _ h => h) (Or.inl ⟨by rfl, ?_⟩) ?_
    rotate_left
    · (intro W9; go_simp; try with_reducible rfl)
    refine wpAny_take (i := 4) (v := ?_) rfl (by kernel_rfl) (by kernel_rfl) (by kernel_rfl) (fun _ _ _ h => h) (Or.inl ⟨by rfl, ?_⟩) ?_
    rotate_left
    · (intro W9; go_simp; try with_reducible rfl)
    refine wpAny_take (i := 5) (v := ?_) rfl (by kernel_rfl) (by kernel_rfl) (by kernel_rfl) (fun _ _ _ h => h) (Or.inl ⟨by rfl, ?_⟩) ?_
    rotate_left
    · (intro W9; go_simp; try with_reducible rfl)
    refine wpAny_take (i := 6) (v := ?_) rfl (by kernel_rfl) (by kernel_rfl) (by kernel_rfl) (fun _ _ _ h => h) (Or.inl ⟨by rfl, ?_⟩) ?_
    rotate_left
    · (intro W9; go_simp; try with_reducible rfl)
    refine wpAny_ready (rs := [2, 7]) (by kernel_rfl) (by simp) ?_
    refine AllReady.cons rfl (fun K hK => ?_) (AllReady.cons rfl (fun K hK => ?_) AllReady.nil)
    · go_simp
      go_wp2_with fail
      refine Calls.mono (hc _) ?_
      rintro e w1 ⟨rfl, hb1⟩
      go_wp2_with fail
      refine wpAny_ready (rs := [7]) (by kernel_rfl) (by simp) ?_
      refine AllReady.cons rfl (fun K hK => ?_) ?_
      rotate_left
      · exact AllReady.nil
      go_simp
      refine hK _ _ ?_
      clear hK K
      have y0 : (w1.alloc (.cells #[.int .u8 (48 + (n : Int) % 10)] 5)).cell? ⟨w1.heap.size, 0, none⟩ = some (.int .u8 (48 + (n : Int) % 10)) := by simp [World.cell?_alloc_at]
      refine wpAny_ready (rs := [8]) (by kernel_rfl) (by simp) ?_
      refine AllReady.cons rfl (fun K hK => ?_) ?_
      rotate_left
      · exact AllReady.nil
      go_simp
      refine hK _ _ ?_
      clear hK K
      refine wpAny_ready (rs := [9]) (by kernel_rfl) (by simp) ?_
      refine AllReady.cons rfl (fun K hK => ?_) ?_
      rotate_left
      · exact AllReady.nil
      go_simp
      refine hK _ _ ?_
      clear hK K
      refine wpAny_ready (rs := [10]) (by kernel_rfl) (by simp) ?_
      refine AllReady.cons rfl (fun K hK => ?_) ?_
      rotate_left
      · exact AllReady.nil
      go_simp
      refine hK _ _ ?_
      clear hK K
      refine wpAny_done (by kernel_rfl) ?_ _
      go_wp2
      go_ret
      exact ⟨by rw [hv.out]; first | rfl | skip, (eD.trans hb1).alloc _⟩
    · go_simp
      refine hK _ _ ?_
      clear hK K
      refine wpAny_ready (rs := [2, 8]) (by kernel_rfl) (by simp) ?_
      refine AllReady.cons rfl (fun K hK => ?_) (AllReady.cons rfl (fun K hK => ?_) AllReady.nil)
      · go_simp
        go_wp2_with fail
        refine Calls.mono (hc _) ?_
        rintro e w1 ⟨rfl, hb1⟩
        have y0 : w1.cell? ⟨WD.heap.size, 0, none⟩ = some (.int .u8 (48 + (n : Int) % 10)) := hb1.cell (by simp [World.cell?_alloc_at])
        go_wp2_with fail
        refine wpAny_ready (rs := [8]) (by kernel_rfl) (by simp) ?_
        refine AllReady.cons rfl (fun K hK => ?_) ?_
        rotate_left
        · exact AllReady.nil
        go_simp
        refine hK _ _ ?_
        clear hK K
        refine wpAny_ready (rs := [9]) (by kernel_rfl) (by simp) ?_
        refine AllReady.cons rfl (fun K hK => ?_) ?_
        rotate_left
        · exact AllReady.nil
        go_simp
        refine hK _ _ ?_
        clear hK K
        refine wpAny_ready (rs := [10]) (by kernel_rfl) (by simp) ?_
        refine AllReady.cons rfl (fun K hK => ?_) ?_
        rotate_left
        · exact AllReady.nil
        go_simp
        refine hK _ _ ?_
        clear hK K
        refine wpAny_done (by kernel_rfl) ?_ _
        go_wp2
        go_ret
        exact ⟨by rw [hv.out]; first | rfl | skip, (eD.alloc _).trans hb1⟩
      · go_simp
        refine hK _ _ ?_
        clear hK K
        refine wpAny_ready (rs := [2]) (by kernel_rfl) (by simp) ?_
        refine AllReady.cons rfl (fun K hK => ?_) ?_
        rotate_left
        · exact AllReady.nil
        go_simp
        go_wp2_with fail
        refine Calls.mono (hc _) ?_
        rintro e w1 ⟨rfl, hb1⟩
        go_wp2_with fail
        refine wpAny_ready (rs := [9]) (by kernel_rfl) (by simp) ?_
        refine AllReady.cons rfl (fun K hK => ?_) ?_
        rotate_left
        · exact AllReady.nil
        go_simp
        refine hK _ _ ?_
        clear hK K
        refine wpAny_ready (rs := [10]) (by kernel_rfl) (by simp) ?_
        refine AllReady.cons rfl (fun K hK => ?_) ?_
        rotate_left
        · exact AllReady.nil
        go_simp
        refine hK _ _ ?_
        clear hK K
        refine wpAny_done (by kernel_rfl) ?_ _
        go_wp2
        go_ret
        exact ⟨by rw [hv.out]; first | rfl | skip, (eD.alloc _).trans hb1⟩
set_option maxHeartbeats 2000000 in
theorem spec_l04Text (t f : Mask) (b o : Nat) (w : World) (hb : b < w.heap.size) (h0 : w.cell? ⟨b, o, none⟩ = some (.int .u64 (lo t))) (h1 : w.cell? ⟨b, o + 1, none⟩ = some (.int .u64 (hi t)))
    (h2 : w.cell? ⟨b, o + 2, none⟩ = some (.int .u64 (lo f))) (h3 : w.cell? ⟨b, o + 2 + 1, none⟩ = some (.int .u64 (hi f))) :
    Calls Tryd.prog 12 #[.pointer (some ⟨b, o, none⟩)] w fun e w' => e = .returned (.string (wearT t f)) ∧ Ext w w' := by
  have hz := words_zero t f
  have hnone := fun k h1 h2 => text_none (t := t) (f := f) (k := k) h1 h2
  have hmin := fun k h2 => text_minus (t := t) (f := f) (k := k) h2
  have hplus := fun k h1 h2 => text_plus (t := t) (f := f) (k := k) h1 h2
  have hend : joinB (wordsW t f 96) = wearT t f := rfl
  have hz2 : joinB (wordsW t f 0) = ⟨#[]⟩ := by rw [hz]; unfold joinB; rfl
  go_enter Tryd.func12, Tryd.ntmps12
  go_wp2
  go_loopg [3, 4] 96 (fun g v kv wr => ∃ k : Nat, ∃ out : ByteArray, g = 96 - k ∧ k ≤ 96 ∧ kv = .int .i64 k ∧ v = .string out ∧ Hd (out = joinB (wordsW t f k)) ∧ Hd (out.size ≤ 200 * k) ∧ Ext w wr)
  case atStart => exact ⟨0, ⟨#[]⟩, by omega, by omega, rfl, rfl, hd hz2.symm, hd (Nat.zero_le _), Ext.refl _⟩
  case round =>
    obtain ⟨k, out, hg, hk, rfl, rfl, hQ, hos, hw⟩ := hrel
    by_cases hkl : k < 96
    · have hb' := Nat.lt_of_lt_of_le hb hw.size
      have y0 := hw.cell h0
      have y1 := hw.cell h1
      have y2 := hw.cell h2
      have y3 := hw.cell h3
      have i1 : (k : Int) < 96 := by omega
      have hdc := fun W => spec_Decimal k (by omega) W
      have hnone := hnone k
      have hmin := hmin k
      have hplus := hplus k
      rw [← hQ.out] at hnone hmin hplus
      clear hQ hz hz2 hend
      go_wp2_with fail
      refine Calls.mono (spec_l01Has t k (by omega) (by omega) _) ?_
      rintro e w1 ⟨rfl, hb1⟩
      have z0 := hb1.cell y0
      have z1 := hb1.cell y1
      have z2 := hb1.cell y2
      have z3 := hb1.cell y3
      have lb1 := Nat.lt_of_lt_of_le hb' hb1.size
      cases ht : mhas t k with
      | false =>
        go_wp2_with fail
        refine Calls.mono (spec_l01Has f k (by omega) (by omega) _) ?_
        rintro e w2 ⟨rfl, hb2⟩
        have hw2 := (hw.trans hb1).trans hb2
        clear y0 y1 y2 y3 z0 z1 z2 z3
        cases hf : mhas f k with
        | false =>
          have hQ2 := hd (hnone ht hf).symm
          clear hnone hmin hplus hdc ht hf
          go_wp2
          go_roundg (96 - (k + 1))
          case rel => exact ⟨k + 1, out, rfl, hkl, by simp, rfl, hQ2, hd (by have := hos.out; omega), hw2⟩
          case measure => omega
        | true =>
          have hQ2 := hd (hmin hf)
          clear hnone hmin hplus ht hf
          have d1 := decT_le k
          have o1 := hos.out
          have p1 : ByteArray.size ⟨#[45]⟩ = 1 := rfl
          have p2 : ByteArray.size ⟨#[32]⟩ = 1 := rfl
          have p3 : ByteArray.size ⟨#[]⟩ = 0 := rfl
          have p4 : ByteArray.size (⟨#[45]⟩ ++ decT k) = 1 + (decT k).size := by rw [app_size, p1]
          have p5 : ByteArray.size (out ++ ⟨#[32]⟩) = out.size + 1 := by rw [app_size, p2]
          have s1 : ¬ (9223372036854775807 < ByteArray.size ⟨#[45]⟩ + (decT k).size) := by rw [p1]; omega
          by_cases ho : out.size = 0
          · obtain rfl : out = ⟨#[]⟩ := size_zero ho
            have s2 : ¬ (9223372036854775807 < ByteArray.size ⟨#[]⟩ + ByteArray.size (⟨#[45]⟩ ++ decT k)) := by rw [p3, p4]; omega
            rw [add_first rfl] at hQ2
            have hsz2 : Hd ((⟨#[45]⟩ ++ decT k : ByteArray).size ≤ 200 * (k + 1)) := hd (by rw [p4]; omega)
            clear p1 p2 p3 p4 p5 d1 o1
            go_wp2_with fail
            refine Calls.mono (hdc _) ?_
            rintro e w3 ⟨rfl, hb3⟩
            have hw3 := hw2.trans hb3
            clear hdc ho
            go_wp2
            go_roundg (96 - (k + 1))
            case rel => exact ⟨k + 1, ⟨#[45]⟩ ++ decT k, rfl, hkl, by simp, by first | rfl | rw [jempty_app], hd hQ2.out.symm, hsz2, hw3⟩
            case measure => omega
          · have hq : out.toList.isEmpty = false := by
              rw [Lib.toList_data, List.isEmpty_eq_false_iff]
              intro h
              exact ho (by show out.data.toList.length = 0; rw [h]; rfl)
            have s3 : ¬ (9223372036854775807 < out.size + ByteArray.size ⟨#[32]⟩) := by rw [p2]; omega
            have s4 : ¬ (9223372036854775807 < ByteArray.size (out ++ ⟨#[32]⟩) + ByteArray.size (⟨#[45]⟩ ++ decT k)) := by rw [p4, p5]; omega
            rw [add_next ho] at hQ2
            have hsz2 : Hd ((out ++ ⟨#[32]⟩ ++ (⟨#[45]⟩ ++ decT k) : ByteArray).size ≤ 200 * (k + 1)) := hd (by rw [app_size, p4, p5]; omega)
            clear p1 p2 p3 p4 p5 d1 o1
            go_wp2_with fail
            refine Calls.mono (hdc _) ?_
            rintro e w3 ⟨rfl, hb3⟩
            have hw3 := hw2.trans hb3
            clear hdc ho
            go_wp2
            go_roundg (96 - (k + 1))
            case rel => exact ⟨k + 1, out ++ ⟨#[32]⟩ ++ (⟨#[45]⟩ ++ decT k), rfl, hkl, by simp, by first | rfl | rw [app_assoc3], hd (by rw [hQ2.out, app_assoc3]), hsz2, hw3⟩
            case measure => omega
      | true =>
        go_wp2_with fail
        refine Calls.mono (spec_l01Has f k (by omega) (by omega) _) ?_
        rintro e w2 ⟨rfl, hb2⟩
        have hw2 := (hw.trans hb1).trans hb2
        clear y0 y1 y2 y3 z0 z1 z2 z3
        cases hf : mhas f k with
        | false =>
          have hQ2 := hd (hplus ht hf)
          clear hnone hmin hplus ht hf
          have d1 := decT_le k
          have o1 := hos.out
          have p1 : ByteArray.size ⟨#[43]⟩ = 1 := rfl
          have p2 : ByteArray.size ⟨#[32]⟩ = 1 := rfl
          have p3 : ByteArray.size ⟨#[]⟩ = 0 := rfl
          have p4 : ByteArray.size (⟨#[43]⟩ ++ decT k) = 1 + (decT k).size := by rw [app_size, p1]
          have p5 : ByteArray.size (out ++ ⟨#[32]⟩) = out.size + 1 := by rw [app_size, p2]
          have s1 : ¬ (9223372036854775807 < ByteArray.size ⟨#[43]⟩ + (decT k).size) := by rw [p1]; omega
          by_cases ho : out.size = 0
          · obtain rfl : out = ⟨#[]⟩ := size_zero ho
            have s2 : ¬ (9223372036854775807 < ByteArray.size ⟨#[]⟩ + ByteArray.size (⟨#[43]⟩ ++ decT k)) := by rw [p3, p4]; omega
            rw [add_first rfl] at hQ2
            have hsz2 : Hd ((⟨#[43]⟩ ++ decT k : ByteArray).size ≤ 200 * (k + 1)) := hd (by rw [p4]; omega)
            clear p1 p2 p3 p4 p5 d1 o1
            go_wp2_with fail
            refine Calls.mono (hdc _) ?_
            rintro e w3 ⟨rfl, hb3⟩
            have hw3 := hw2.trans hb3
            clear hdc ho
            go_wp2
            go_roundg (96 - (k + 1))
            case rel => exact ⟨k + 1, ⟨#[43]⟩ ++ decT k, rfl, hkl, by simp, by first | rfl | rw [jempty_app], hd hQ2.out.symm, hsz2, hw3⟩
            case measure => omega
          · have hq : out.toList.isEmpty = false := by
              rw [Lib.toList_data, List.isEmpty_eq_false_iff]
              intro h
              exact ho (by show out.data.toList.length = 0; rw [h]; rfl)
            have s3 : ¬ (9223372036854775807 < out.size + ByteArray.size ⟨#[32]⟩) := by rw [p2]; omega
            have s4 : ¬ (9223372036854775807 < ByteArray.size (out ++ ⟨#[32]⟩) + ByteArray.size (⟨#[43]⟩ ++ decT k)) := by rw [p4, p5]; omega
            rw [add_next ho] at hQ2
            have hsz2 : Hd ((out ++ ⟨#[32]⟩ ++ (⟨#[43]⟩ ++ decT k) : ByteArray).size ≤ 200 * (k + 1)) := hd (by rw [app_size, p4, p5]; omega)
            clear p1 p2 p3 p4 p5 d1 o1
            go_wp2_with fail
            refine Calls.mono (hdc _) ?_
            rintro e w3 ⟨rfl, hb3⟩
            have hw3 := hw2.trans hb3
            clear hdc ho
            go_wp2
            go_roundg (96 - (k + 1))
            case rel => exact ⟨k + 1, out ++ ⟨#[32]⟩ ++ (⟨#[43]⟩ ++ decT k), rfl, hkl, by simp, by first | rfl | rw [app_assoc3], hd (by rw [hQ2.out, app_assoc3]), hsz2, hw3⟩
            case measure => omega
        | true =>
          have hQ2 := hd (hmin hf)
          clear hnone hmin hplus ht hf
          have d1 := decT_le k
          have o1 := hos.out
          have p1 : ByteArray.size ⟨#[45]⟩ = 1 := rfl
          have p2 : ByteArray.size ⟨#[32]⟩ = 1 := rfl
          have p3 : ByteArray.size ⟨#[]⟩ = 0 := rfl
          have p4 : ByteArray.size (⟨#[45]⟩ ++ decT k) = 1 + (decT k).size := by rw [app_size, p1]
          have p5 : ByteArray.size (out ++ ⟨#[32]⟩) = out.size + 1 := by rw [app_size, p2]
          have s1 : ¬ (9223372036854775807 < ByteArray.size ⟨#[45]⟩ + (decT k).size) := by rw [p1]; omega
          by_cases ho : out.size = 0
          · obtain rfl : out = ⟨#[]⟩ := size_zero ho
            have s2 : ¬ (9223372036854775807 < ByteArray.size ⟨#[]⟩ + ByteArray.size (⟨#[45]⟩ ++ decT k)) := by rw [p3, p4]; omega
            rw [add_first rfl] at hQ2
            have hsz2 : Hd ((⟨#[45]⟩ ++ decT k : ByteArray).size ≤ 200 * (k + 1)) := hd (by rw [p4]; omega)
            clear p1 p2 p3 p4 p5 d1 o1
            go_wp2_with fail
            refine Calls.mono (hdc _) ?_
            rintro e w3 ⟨rfl, hb3⟩
            have hw3 := hw2.trans hb3
            clear hdc ho
            go_wp2
            go_roundg (96 - (k + 1))
            case rel => exact ⟨k + 1, ⟨#[45]⟩ ++ decT k, rfl, hkl, by simp, by first | rfl | rw [jempty_app], hd hQ2.out.symm, hsz2, hw3⟩
            case measure => omega
          · have hq : out.toList.isEmpty = false := by
              rw [Lib.toList_data, List.isEmpty_eq_false_iff]
              intro h
              exact ho (by show out.data.toList.length = 0; rw [h]; rfl)
            have s3 : ¬ (9223372036854775807 < out.size + ByteArray.size ⟨#[32]⟩) := by rw [p2]; omega
            have s4 : ¬ (9223372036854775807 < ByteArray.size (out ++ ⟨#[32]⟩) + ByteArray.size (⟨#[45]⟩ ++ decT k)) := by rw [p4, p5]; omega
            rw [add_next ho] at hQ2
            have hsz2 : Hd ((out ++ ⟨#[32]⟩ ++ (⟨#[45]⟩ ++ decT k) : ByteArray).size ≤ 200 * (k + 1)) := hd (by rw [app_size, p4, p5]; omega)
            clear p1 p2 p3 p4 p5 d1 o1
            go_wp2_with fail
            refine Calls.mono (hdc _) ?_
            rintro e w3 ⟨rfl, hb3⟩
            have hw3 := hw2.trans hb3
            clear hdc ho
            go_wp2
            go_roundg (96 - (k + 1))
            case rel => exact ⟨k + 1, out ++ ⟨#[32]⟩ ++ (⟨#[45]⟩ ++ decT k), rfl, hkl, by simp, by first | rfl | rw [app_assoc3], hd (by rw [hQ2.out, app_assoc3]), hsz2, hw3⟩
            case measure => omega
    · obtain rfl : k = 96 := by omega
      have hv := hQ.out.trans hend
      subst hv
      go_wp2
      go_ret
      exact ⟨rfl, hw⟩
end Go.Proofs.YthkphhacmneeiaaDoor
