/-
  Contracts of the functions that ask a vocabulary: words that may be in a mask, holes of some of them, a list without one place.
-/
import Derived.Test.YtbmompanhigmnaaDoorXA
import Derived.Test.YtbmompanhigmnaaDoorShelf
import Derived.Lib.OwnBridge
set_option linter.unusedVariables false
set_option linter.unusedSimpArgs false
set_option maxRecDepth 100000
namespace Go.Proofs.YtbmompanhigmnaaDoor
open Go.RowKit
theorem getS (vs : List ByteArray) (k : Nat) (hk : k < vs.length) : vs.getD k ⟨#[]⟩ = vs[k] := by rw [List.getD, List.getElem?_eq_getElem hk]; rfl
/-- The holes of a word of a vocabulary, of some of them. -/
noncomputable def holeAt (x : Mx) (vs : List ByteArray) (k : Int) : Mask := wholes x (vs.getD k.toNat ⟨#[]⟩)
noncomputable def hsL (x : Mx) (vs : List ByteArray) (mb : List Int) : List Mask := mb.map (holeAt x vs)
theorem hsL_len (x : Mx) (vs : List ByteArray) (mb : List Int) : (hsL x vs mb).length = mb.length := by unfold hsL; rw [List.length_map]
theorem holeAt_nat (x : Mx) (vs : List ByteArray) (n : Nat) (h : n < vs.length) : holeAt x vs n = wholes x vs[n] := by unfold holeAt; rw [Int.toNat_natCast, getS vs n h]
theorem joinL_take (hs : List Mask) (k : Nat) (h : k < hs.length) : joinL (hs.take (k + 1)) = mjoin (joinL (hs.take k)) hs[k] := by rw [List.take_succ_eq_append_getElem h, joinL_snoc]
theorem hsL_take (x : Mx) (vs : List ByteArray) (mb : List Int) (k : Nat) (h : k < mb.length) : joinL ((hsL x vs mb).take (k + 1)) = mjoin (joinL ((hsL x vs mb).take k)) (holeAt x vs mb[k]) := by
  rw [joinL_take _ k (by rw [hsL_len]; exact h)]
  congr 1
  unfold hsL
  rw [List.getElem_map]
theorem hsL_snoc (x : Mx) (vs : List ByteArray) (mb : List Int) (k : Nat) (h : k < mb.length) : hsL x vs (mb.take (k + 1)) = hsL x vs (mb.take k) ++ [holeAt x vs mb[k]] := by
  unfold hsL
  rw [List.take_succ_eq_append_getElem h, List.map_append]
  rfl
theorem map_erase {α β : Type} (f : α → β) : ∀ (l : List α) (i : Nat), (l.eraseIdx i).map f = (l.map f).eraseIdx i
  | [], _ => rfl
  | _ :: _, 0 => rfl
  | x :: l, i + 1 => by
    show f x :: (l.eraseIdx i).map f = f x :: (l.map f).eraseIdx i
    rw [map_erase f l i]
theorem hsL_erase (x : Mx) (vs : List ByteArray) (mb : List Int) (i : Nat) : hsL x vs (mb.eraseIdx i) = (hsL x vs mb).eraseIdx i := map_erase _ _ _
/-- The words that may be in a mask. -/
noncomputable def maybeTo (x : Mx) (m : Mask) (vs : List ByteArray) (n : Nat) : List Int := idxTo (fun i => mwin (wholes x (vs.getD i ⟨#[]⟩)) m) n
theorem maybeTo_zero (x : Mx) (m : Mask) (vs : List ByteArray) : maybeTo x m vs 0 = [] := rfl
theorem maybeTo_hit {x : Mx} {m : Mask} {vs : List ByteArray} {k : Nat} (hk : k < vs.length) (hq : mwin (wholes x vs[k]) m = true) : maybeTo x m vs (k + 1) = maybeTo x m vs k ++ [(k : Int)] := idxTo_hit _ k (by rw [getS vs k hk]; exact hq)
theorem maybeTo_miss {x : Mx} {m : Mask} {vs : List ByteArray} {k : Nat} (hk : k < vs.length) (hq : mwin (wholes x vs[k]) m = false) : maybeTo x m vs (k + 1) = maybeTo x m vs k := idxTo_miss _ k (by rw [getS vs k hk]; exact hq)
theorem maybeTo_len (x : Mx) (m : Mask) (vs : List ByteArray) (n : Nat) : (maybeTo x m vs n).length ≤ n := idxTo_len _ n
theorem maybeTo_in (x : Mx) (m : Mask) (vs : List ByteArray) (n : Nat) : ∀ k ∈ maybeTo x m vs n, 0 ≤ k ∧ k < n := by
  intro k hk
  obtain ⟨i, h1, h2, _⟩ := (idxTo_mem _ n k).1 hk
  omega
attribute [irreducible] maybeTo
theorem all_i64 (xs : List Int) : encI64.all xs = xs.map (Value.int .i64) := by
  unfold Enc.all
  induction xs with
  | nil => rfl
  | cons x xs ih => rw [List.flatMap_cons, ih]; rfl
set_option maxHeartbeats 400000 in
theorem slices_Delete1 (xs : List Int) (i : Nat) (hi : i < xs.length) (hn : xs.length ≤ 1048576) (v : Value) (base : Nat) (w : World) (hO : Ow encI64 2 w base v xs) :
    Calls Tryd.prog 66 #[v, .int .i64 i, .int .i64 ((i : Int) + 1)] w fun e w' => ∃ A cap, e = .returned (.slice A (xs.eraseIdx i).length cap) ∧ Rd encI64 w' A (xs.eraseIdx i) ∧ (∀ w0 : World, Ext w0 w → w0.heap.size ≤ base → Ext w0 w') := by
  have hv : v ≠ .slice none 0 0 := fun h => by
    subst h
    rcases hO.shape with ⟨_, h⟩ | ⟨g, cap, h, _⟩
    · rw [h] at hi; simp at hi
    · cases h
  have hO2 : w.ownsRow base 2 1 v xs.length (xs.map (Value.int .i64)) := by rw [← all_i64]; exact hO
  obtain ⟨g, cap, rfl, hbg, hgl, hle, hm, _, hH⟩ := Go.Lib.holds_of_ownsRow hO2 hv
  have hel : (xs.eraseIdx i).length = xs.length - 1 := List.length_eraseIdx_of_lt hi
  obtain ⟨ti, hti, _, hts, _⟩ := info_parts info_i64
  have hD := Tryd.slices_Delete (α := Int) (Value.int .i64) (fun _ => rfl) 0 (Tryd.zeroValue2) ti hti hts g 0 cap i (i + 1) xs.toArray w hH (by simpa using hle) (by unfold maxLen at hm; omega) (by omega) (by simp; omega)
  rw [show ((i + 1 : Nat) : Int) = (i : Int) + 1 by omega] at hD
  simp only [List.size_toArray] at hD
  refine hD.mono ?_
  rintro e w' ⟨rfl, q, rfl⟩
  have hrow := Go.Lib.ownsRow_putRow (q := q) (k := xs.length - 1) (ys := xs.take i ++ xs.drop (i + 1) ++ List.replicate (i + 1 - i) 0) hO2 (by simp; omega) (by omega)
  have htk : (xs.take i ++ xs.drop (i + 1) ++ List.replicate (i + 1 - i) 0).take (xs.length - 1) = xs.eraseIdx i := by
    rw [List.eraseIdx_eq_take_drop_succ, List.take_left' (by simp; omega)]
  rw [htk] at hrow
  refine ⟨some ⟨g, 0, none⟩, cap, by rw [hel, show i + 1 - i = 1 by omega], ?_, fun w0 h0 hb => Go.Lib.below_putRow h0 (Nat.le_trans hb hbg)⟩
  have hOw : Ow encI64 2 (Go.Sort.putRow (Value.int .i64) (Go.Sort.ahead w q) g 0 (xs.take i ++ xs.drop (i + 1) ++ List.replicate (i + 1 - i) 0).toArray) base (.slice (some ⟨g, 0, none⟩) (xs.length - 1) cap) (xs.eraseIdx i) := by
    unfold Ow
    rw [all_i64, hel]
    exact hrow
  exact hOw.rdA
set_option maxHeartbeats 400000 in
theorem impl_checkVocabulary (x : Mx) (hx : MxIn x) (m : Mask) (ws : List ByteArray) (A : Option Addr) (cap : Nat) (w : World) (hR : Rd encStr w A ws) (hn : ws.length ≤ 1048576) (hok : ∀ x ∈ ws, StrIn x) :
    Calls Tryd.prog 61 #[.agg #[.int .i16 x.st, .int .i16 x.sz, .int .i16 x.per], .agg #[.int .u64 (lo m), .int .u64 (hi m)], .slice A ws.length cap] w fun e w' => e = .returned (.int .i64 (askF x [m] ws 40)) ∧ Ext w w' := by
  have h1 := fun W => impl_isMix x hx W
  have h3 := fun W => impl_isMask m W
  have h2 := fun (W : World) (h : Ext w W) => impl_areWords ws A cap 40 W (hR.ext h) hn hok
  have hb := ask_bad (x := x) (ms := [m]) (ws := ws) (most := 40)
  have hf := ask_far (x := x) (ms := [m]) (ws := ws) (most := 40)
  have ho := ask_ok (x := x) (ms := [m]) (ws := ws) (most := 40)
  rw [show ([m].all isMaskB) = isMaskB m by simp] at hb hf ho
  rw [show decide ([m].length ≤ 60) = true from rfl, Bool.true_and] at hf ho
  generalize mixB x = p at h1 hb hf ho
  generalize isMaskB m = p2 at h3 hb hf ho
  generalize wordsB ws 40 = q at h2 hf ho
  obtain ⟨st, sz, per⟩ := x
  dsimp only at h1
  cases p with
  | false =>
    have hv := hd (hb rfl)
    clear hb hf ho
    go_enter Tryd.func61, Tryd.ntmps61
    go_wp2_with fail
    refine Calls.mono (h1 _) ?_
    rintro e w1 ⟨rfl, hb1⟩
    obtain ⟨hc1, hf1, hz1⟩ := bcell3 hb1
    try simp at hz1
    have hz1_0 : w.heap.size < w1.heap.size := by omega
    go_wp2
    go_ret
    exact ⟨by rw [hv.out]; rfl, by ((repeat (first | with_reducible exact Ext.refl _ | with_reducible exact hw | with_reducible exact hb9 | with_reducible exact hb8 | with_reducible exact hb7 | with_reducible exact hb6 | with_reducible exact hb5 | with_reducible exact hb4 | with_reducible exact hb3 | with_reducible exact hb2 | with_reducible exact hb1 | with_reducible refine Ext.alloc ?_ _ | with_reducible refine Ext.drew ?_ | ((with_reducible refine Ext.set ?_ ?_ _); focus (dsimp only; omega)) | with_reducible refine Ext.trans ?_ hb9 | with_reducible refine Ext.trans ?_ hb8 | with_reducible refine Ext.trans ?_ hb7 | with_reducible refine Ext.trans ?_ hb6 | with_reducible refine Ext.trans ?_ hb5 | with_reducible refine Ext.trans ?_ hb4 | with_reducible refine Ext.trans ?_ hb3 | with_reducible refine Ext.trans ?_ hb2 | with_reducible refine Ext.trans ?_ hb1 | with_reducible refine Ext.trans ?_ hw)))⟩
  | true =>
    cases p2 with
    | false =>
      have hv := hd (hb rfl)
      clear hb hf ho
      go_enter Tryd.func61, Tryd.ntmps61
      go_wp2_with fail
      refine Calls.mono (h1 _) ?_
      rintro e w1 ⟨rfl, hb1⟩
      obtain ⟨hc1, hf1, hz1⟩ := bcell3 hb1
      try simp at hz1
      have hz1_0 : w.heap.size < w1.heap.size := by omega
      have hz1_1 : w.heap.size + 1 < w1.heap.size := by omega
      go_wp2_with fail
      refine Calls.mono (h3 _) ?_
      rintro e w2 ⟨rfl, hb2⟩
      go_wp2
      go_ret
      exact ⟨by rw [hv.out]; rfl, by ((repeat (first | with_reducible exact Ext.refl _ | with_reducible exact hw | with_reducible exact hb9 | with_reducible exact hb8 | with_reducible exact hb7 | with_reducible exact hb6 | with_reducible exact hb5 | with_reducible exact hb4 | with_reducible exact hb3 | with_reducible exact hb2 | with_reducible exact hb1 | with_reducible refine Ext.alloc ?_ _ | with_reducible refine Ext.drew ?_ | ((with_reducible refine Ext.set ?_ ?_ _); focus (dsimp only; omega)) | with_reducible refine Ext.trans ?_ hb9 | with_reducible refine Ext.trans ?_ hb8 | with_reducible refine Ext.trans ?_ hb7 | with_reducible refine Ext.trans ?_ hb6 | with_reducible refine Ext.trans ?_ hb5 | with_reducible refine Ext.trans ?_ hb4 | with_reducible refine Ext.trans ?_ hb3 | with_reducible refine Ext.trans ?_ hb2 | with_reducible refine Ext.trans ?_ hb1 | with_reducible refine Ext.trans ?_ hw)))⟩
    | true =>
      cases q with
      | false =>
        have hv := hd (hf rfl rfl)
        clear hb hf ho
        go_enter Tryd.func61, Tryd.ntmps61
        go_wp2_with fail
        refine Calls.mono (h1 _) ?_
        rintro e w1 ⟨rfl, hb1⟩
        obtain ⟨hc1, hf1, hz1⟩ := bcell3 hb1
        try simp at hz1
        have hz1_0 : w.heap.size < w1.heap.size := by omega
        have hz1_1 : w.heap.size + 1 < w1.heap.size := by omega
        go_wp2_with fail
        refine Calls.mono (h3 _) ?_
        rintro e w2 ⟨rfl, hb2⟩
        go_wp2_with fail
        refine Calls.mono (h2 _ (by ((repeat (first | with_reducible exact Ext.refl _ | with_reducible exact hw | with_reducible exact hb9 | with_reducible exact hb8 | with_reducible exact hb7 | with_reducible exact hb6 | with_reducible exact hb5 | with_reducible exact hb4 | with_reducible exact hb3 | with_reducible exact hb2 | with_reducible exact hb1 | with_reducible refine Ext.alloc ?_ _ | with_reducible refine Ext.drew ?_ | ((with_reducible refine Ext.set ?_ ?_ _); focus (dsimp only; omega)) | with_reducible refine Ext.trans ?_ hb9 | with_reducible refine Ext.trans ?_ hb8 | with_reducible refine Ext.trans ?_ hb7 | with_reducible refine Ext.trans ?_ hb6 | with_reducible refine Ext.trans ?_ hb5 | with_reducible refine Ext.trans ?_ hb4 | with_reducible refine Ext.trans ?_ hb3 | with_reducible refine Ext.trans ?_ hb2 | with_reducible refine Ext.trans ?_ hb1 | with_reducible refine Ext.trans ?_ hw))))) ?_
        rintro e w3 ⟨rfl, hb3⟩
        go_wp2
        go_ret
        exact ⟨by rw [hv.out]; rfl, by ((repeat (first | with_reducible exact Ext.refl _ | with_reducible exact hw | with_reducible exact hb9 | with_reducible exact hb8 | with_reducible exact hb7 | with_reducible exact hb6 | with_reducible exact hb5 | with_reducible exact hb4 | with_reducible exact hb3 | with_reducible exact hb2 | with_reducible exact hb1 | with_reducible refine Ext.alloc ?_ _ | with_reducible refine Ext.drew ?_ | ((with_reducible refine Ext.set ?_ ?_ _); focus (dsimp only; omega)) | with_reducible refine Ext.trans ?_ hb9 | with_reducible refine Ext.trans ?_ hb8 | with_reducible refine Ext.trans ?_ hb7 | with_reducible refine Ext.trans ?_ hb6 | with_reducible refine Ext.trans ?_ hb5 | with_reducible refine Ext.trans ?_ hb4 | with_reducible refine Ext.trans ?_ hb3 | with_reducible refine Ext.trans ?_ hb2 | with_reducible refine Ext.trans ?_ hb1 | with_reducible refine Ext.trans ?_ hw)))⟩
      | true =>
        have hv := hd (ho rfl rfl)
        clear hb hf ho
        go_enter Tryd.func61, Tryd.ntmps61
        go_wp2_with fail
        refine Calls.mono (h1 _) ?_
        rintro e w1 ⟨rfl, hb1⟩
        obtain ⟨hc1, hf1, hz1⟩ := bcell3 hb1
        try simp at hz1
        have hz1_0 : w.heap.size < w1.heap.size := by omega
        have hz1_1 : w.heap.size + 1 < w1.heap.size := by omega
        go_wp2_with fail
        refine Calls.mono (h3 _) ?_
        rintro e w2 ⟨rfl, hb2⟩
        go_wp2_with fail
        refine Calls.mono (h2 _ (by ((repeat (first | with_reducible exact Ext.refl _ | with_reducible exact hw | with_reducible exact hb9 | with_reducible exact hb8 | with_reducible exact hb7 | with_reducible exact hb6 | with_reducible exact hb5 | with_reducible exact hb4 | with_reducible exact hb3 | with_reducible exact hb2 | with_reducible exact hb1 | with_reducible refine Ext.alloc ?_ _ | with_reducible refine Ext.drew ?_ | ((with_reducible refine Ext.set ?_ ?_ _); focus (dsimp only; omega)) | with_reducible refine Ext.trans ?_ hb9 | with_reducible refine Ext.trans ?_ hb8 | with_reducible refine Ext.trans ?_ hb7 | with_reducible refine Ext.trans ?_ hb6 | with_reducible refine Ext.trans ?_ hb5 | with_reducible refine Ext.trans ?_ hb4 | with_reducible refine Ext.trans ?_ hb3 | with_reducible refine Ext.trans ?_ hb2 | with_reducible refine Ext.trans ?_ hb1 | with_reducible refine Ext.trans ?_ hw))))) ?_
        rintro e w3 ⟨rfl, hb3⟩
        go_wp2
        go_ret
        exact ⟨by rw [hv.out]; rfl, by ((repeat (first | with_reducible exact Ext.refl _ | with_reducible exact hw | with_reducible exact hb9 | with_reducible exact hb8 | with_reducible exact hb7 | with_reducible exact hb6 | with_reducible exact hb5 | with_reducible exact hb4 | with_reducible exact hb3 | with_reducible exact hb2 | with_reducible exact hb1 | with_reducible refine Ext.alloc ?_ _ | with_reducible refine Ext.drew ?_ | ((with_reducible refine Ext.set ?_ ?_ _); focus (dsimp only; omega)) | with_reducible refine Ext.trans ?_ hb9 | with_reducible refine Ext.trans ?_ hb8 | with_reducible refine Ext.trans ?_ hb7 | with_reducible refine Ext.trans ?_ hb6 | with_reducible refine Ext.trans ?_ hb5 | with_reducible refine Ext.trans ?_ hb4 | with_reducible refine Ext.trans ?_ hb3 | with_reducible refine Ext.trans ?_ hb2 | with_reducible refine Ext.trans ?_ hb1 | with_reducible refine Ext.trans ?_ hw)))⟩
set_option maxHeartbeats 1000000 in
theorem impl_maybe (x : Mx) (hmx : mixB x = true) (m : Mask) (vs : List ByteArray) (A : Option Addr) (cap : Nat) (w : World) (hR : Rd encStr w A vs) (hn : vs.length ≤ 1048576) (hok : ∀ x ∈ vs, StrIn x) :
    Calls Tryd.prog 62 #[.agg #[.int .i16 x.st, .int .i16 x.sz, .int .i16 x.per], .agg #[.int .u64 (lo m), .int .u64 (hi m)], .slice A vs.length cap] w fun e w' => ∃ v, e = .returned v ∧ Ow encI64 2 w' w.heap.size v (maybeTo x m vs vs.length) ∧ Ext w w' := by
  have hwh := fun k (h : k < vs.length) W => impl_wordHoles x hmx vs[k] (hok _ (List.getElem_mem h)) W
  have hlen := maybeTo_len x m vs
  have hzz := maybeTo_zero x m vs
  have hhit0 := fun k (h : k < vs.length) => maybeTo_hit (x := x) (m := m) h
  have hmiss0 := fun k (h : k < vs.length) => maybeTo_miss (x := x) (m := m) h
  obtain ⟨st, sz, per⟩ := x
  dsimp only at hwh
  have hx := @ExtOf.cell
  go_enter Tryd.func62, Tryd.ntmps62
  go_wp2
  go_loopg [7, 13] vs.length (fun g v i wr => ∃ k : Nat, g = vs.length - k ∧ k ≤ vs.length ∧ i = .int .i64 k ∧ Ext w wr ∧ BoxAt wr w.heap.size #[.int .i16 st, .int .i16 sz, .int .i16 per] 30 ∧ BoxAt wr (w.heap.size + 1) #[.int .u64 (lo m), .int .u64 (hi m)] 53 ∧ Ow encI64 2 wr (w.heap.size + 1 + 1) v (maybeTo ⟨st, sz, per⟩ m vs k))
  case atStart => exact ⟨0, by omega, by omega, rfl, by ((repeat (first | with_reducible exact Ext.refl _ | with_reducible exact hw | with_reducible exact hb9 | with_reducible exact hb8 | with_reducible exact hb7 | with_reducible exact hb6 | with_reducible exact hb5 | with_reducible exact hb4 | with_reducible exact hb3 | with_reducible exact hb2 | with_reducible exact hb1 | with_reducible refine Ext.alloc ?_ _ | with_reducible refine Ext.drew ?_ | ((with_reducible refine Ext.set ?_ ?_ _); focus (dsimp only; omega)) | with_reducible refine Ext.trans ?_ hb9 | with_reducible refine Ext.trans ?_ hb8 | with_reducible refine Ext.trans ?_ hb7 | with_reducible refine Ext.trans ?_ hb6 | with_reducible refine Ext.trans ?_ hb5 | with_reducible refine Ext.trans ?_ hb4 | with_reducible refine Ext.trans ?_ hb3 | with_reducible refine Ext.trans ?_ hb2 | with_reducible refine Ext.trans ?_ hb1 | with_reducible refine Ext.trans ?_ hw))), ((BoxAt.new' rfl).alloc _).alloc _, (BoxAt.new' (by simp)).alloc _, by rw [hzz]; exact Ow.made0 (by simp) (by simp)⟩
  case round =>
    obtain ⟨k, hg, hk, rfl, hw, hX, hB, hO⟩ := hrel
    by_cases hkl : k < vs.length
    · obtain ⟨b, off, hA, hlt, _⟩ := hR k hkl
      subst hA
      obtain ⟨m0, m1⟩ := (hR.ext hw).strs k hkl
      have x0 : wr.cell? ⟨w.heap.size, 0, none⟩ = some (.int .i16 st) := hX.cell 0
      have x1 : wr.cell? ⟨w.heap.size, 1, none⟩ = some (.int .i16 sz) := hX.cell 1
      have x2 : wr.cell? ⟨w.heap.size, 2, none⟩ = some (.int .i16 per) := hX.cell 2
      have c0 : wr.cell? ⟨w.heap.size + 1, 0, none⟩ = some (.int .u64 (lo m)) := hB.cell 0
      have c1 : wr.cell? ⟨w.heap.size + 1, 1, none⟩ = some (.int .u64 (hi m)) := hB.cell 1
      have lX := hX.lt
      have lB := hB.lt
      have hl := hlen k
      have hcall := hwh k hkl
      have hhit := fun q => hd (hhit0 k hkl q)
      have hmiss := fun q => hd (hmiss0 k hkl q)
      generalize wholes ⟨st, sz, per⟩ vs[k] = hh at hcall hhit hmiss
      have hwi := fun W => impl_IsWithin hh m W
      cases hq : mwin hh m with
      | true =>
        rw [hq] at hwi
        have hv := hhit hq
        clear hhit hmiss hq
        go_wp2
        refine wp_region_ext (by kernel_rfl) (by kernel_rfl) ?_
        repeat (first | go_big_quiet_step ((first | (go_at_call 79; with_reducible exact Calls.ext_all (fun W _ => hcall W)) | (go_at_call 56; with_reducible exact Calls.ext_all (fun W _ => hwi W)))) | quiet_step ((first | (go_at_call 79; with_reducible exact Calls.ext_all (fun W _ => hcall W)) | (go_at_call 56; with_reducible exact Calls.ext_all (fun W _ => hwi W)))))
        refine wpQuiet_nil ?_
        intro w2 hq2
        have hb2 := ext_of_class hq2
        clear hq2
        obtain ⟨hc2, hf2, hz2⟩ := bcell3 hb2
        try simp at hz2
        have hO2 := hO.ext hb2
        have hX2 := hX.ext hb2
        have hB2 := hB.ext hb2
        have hw2 := hw.trans hb2
        clear hc2 hf2 hz2 hb2
        have hs2 := hw2.size
        have lB2 := hB2.lt
        go_wp2_with (at_builtin; refine wpList_push2 (w0 := w) (base := w.heap.size + 1 + 1) (xs := maybeTo ⟨st, sz, per⟩ m vs k) encI64 (by rfl) _ _ 41 (.int .i64 0) 8 (by rfl) Tryd.underlying41 info_i64 (by rfl) ((k : Int)) (by rfl) (by rfl) (by simp) (hO2) (by have := (hw2 : Ext w _).size; simp at this ⊢; omega) (by omega) (hw2) (by omega) (by omega) ?_)
        intro v3 w3 hO3 hb3 hg3 ho3
        have ne : ∀ b, b < w.heap.size + 1 + 1 → ¬ some b = u7.ownBlock := fun b hb e => by have := (hO2.lt b e.symm).1; omega
        go_wp2
        go_roundg (vs.length - (k + 1))
        case rel => exact ⟨k + 1, rfl, hkl, by simp, hb3, (hg3.block _ hX2.lt (ne _ (by omega))).trans hX2, (hg3.block _ hB2.lt (ne _ (by omega))).trans hB2, by rw [hv.out]; exact hO3⟩
        case measure => omega
      | false =>
        rw [hq] at hwi
        have hv := hmiss hq
        clear hhit hmiss hq
        go_wp2
        refine wp_region_ext (by kernel_rfl) (by kernel_rfl) ?_
        repeat (first | go_big_quiet_step ((first | (go_at_call 79; with_reducible exact Calls.ext_all (fun W _ => hcall W)) | (go_at_call 56; with_reducible exact Calls.ext_all (fun W _ => hwi W)))) | quiet_step ((first | (go_at_call 79; with_reducible exact Calls.ext_all (fun W _ => hcall W)) | (go_at_call 56; with_reducible exact Calls.ext_all (fun W _ => hwi W)))))
        refine wpQuiet_nil ?_
        intro w2 hq2
        have hb2 := ext_of_class hq2
        clear hq2
        obtain ⟨hc2, hf2, hz2⟩ := bcell3 hb2
        try simp at hz2
        go_wp2
        go_roundg (vs.length - (k + 1))
        case rel => exact ⟨k + 1, rfl, hkl, by simp, hw.trans hb2, hX.ext hb2, hB.ext hb2, by rw [hv.out]; exact hO.ext hb2⟩
        case measure => omega
    · obtain rfl : k = vs.length := by omega
      go_wp2
      go_ret
      exact ⟨_, rfl, hO.lower (by omega), hw⟩
set_option maxHeartbeats 1000000 in
theorem spec_l03Maybe (x : Mx) (hmx : mixB x = true) (m : Mask) (vs : List ByteArray) (A : Option Addr) (cap : Nat) (b0 o0 : Nat) (w : World) (hM : MixAt w b0 o0 x) (hR : Rd encStr w A vs) (hn : vs.length ≤ 1048576) (hok : ∀ x ∈ vs, StrIn x) :
    Calls Tryd.prog 58 #[.pointer (some ⟨b0, o0, none⟩), .agg #[.int .u64 (lo m), .int .u64 (hi m)], .slice A vs.length cap] w fun e w' => ∃ v, e = .returned v ∧ Ow encI64 2 w' w.heap.size v (maybeTo x m vs vs.length) ∧ Ext w w' := by
  have hwh := fun k (h : k < vs.length) (W : World) (hE : Ext w W) => spec_l03Holes x hmx vs[k] (hok _ (List.getElem_mem h)) b0 o0 W (hM.ext hE)
  have hlen := maybeTo_len x m vs
  have hzz := maybeTo_zero x m vs
  have hhit0 := fun k (h : k < vs.length) => maybeTo_hit (x := x) (m := m) h
  have hmiss0 := fun k (h : k < vs.length) => maybeTo_miss (x := x) (m := m) h
  have hx := @ExtOf.cell
  go_enter Tryd.func58, Tryd.ntmps58
  go_wp2
  go_loopg [7, 8] vs.length (fun g v i wr => ∃ k : Nat, g = vs.length - k ∧ k ≤ vs.length ∧ i = .int .i64 k ∧ Ext w wr ∧ BoxAt wr w.heap.size #[.int .u64 (lo m), .int .u64 (hi m)] 53 ∧ Ow encI64 2 wr (w.heap.size + 1) v (maybeTo x m vs k))
  case atStart => exact ⟨0, by omega, by omega, rfl, by ((repeat (first | with_reducible exact Ext.refl _ | with_reducible exact hw | with_reducible exact hb9 | with_reducible exact hb8 | with_reducible exact hb7 | with_reducible exact hb6 | with_reducible exact hb5 | with_reducible exact hb4 | with_reducible exact hb3 | with_reducible exact hb2 | with_reducible exact hb1 | with_reducible refine Ext.alloc ?_ _ | with_reducible refine Ext.drew ?_ | ((with_reducible refine Ext.set ?_ ?_ _); focus (dsimp only; omega)) | with_reducible refine Ext.trans ?_ hb9 | with_reducible refine Ext.trans ?_ hb8 | with_reducible refine Ext.trans ?_ hb7 | with_reducible refine Ext.trans ?_ hb6 | with_reducible refine Ext.trans ?_ hb5 | with_reducible refine Ext.trans ?_ hb4 | with_reducible refine Ext.trans ?_ hb3 | with_reducible refine Ext.trans ?_ hb2 | with_reducible refine Ext.trans ?_ hb1 | with_reducible refine Ext.trans ?_ hw))), (BoxAt.new' rfl).alloc _, by rw [hzz]; exact Ow.made0 (by simp) (by simp)⟩
  case round =>
    obtain ⟨k, hg, hk, rfl, hw, hB, hO⟩ := hrel
    by_cases hkl : k < vs.length
    · obtain ⟨b, off, hA, hlt, _⟩ := hR k hkl
      subst hA
      obtain ⟨m0, m1⟩ := (hR.ext hw).strs k hkl
      have c0 : wr.cell? ⟨w.heap.size, 0, none⟩ = some (.int .u64 (lo m)) := hB.cell 0
      have c1 : wr.cell? ⟨w.heap.size, 1, none⟩ = some (.int .u64 (hi m)) := hB.cell 1
      have lB := hB.lt
      have hl := hlen k
      have hcall := fun (W : World) (hE : Ext wr W) => hwh k hkl W (hw.trans hE)
      have hhit := fun q => hd (hhit0 k hkl q)
      have hmiss := fun q => hd (hmiss0 k hkl q)
      generalize wholes x vs[k] = hh at hcall hhit hmiss
      have hwi := fun W => spec_IsWithin hh m W
      cases hq : mwin hh m with
      | true =>
        rw [hq] at hwi
        have hv := hhit hq
        clear hhit hmiss hq
        go_wp2
        refine wp_region_ext (by kernel_rfl) (by kernel_rfl) ?_
        repeat (first | go_big_quiet_step ((first | (go_at_call 82; with_reducible exact Calls.ext_all (fun W hE => hcall W hE)) | (go_at_call 81; with_reducible exact Calls.ext_all (fun W _ => hwi W)))) | quiet_step ((first | (go_at_call 82; with_reducible exact Calls.ext_all (fun W hE => hcall W hE)) | (go_at_call 81; with_reducible exact Calls.ext_all (fun W _ => hwi W)))))
        refine wpQuiet_nil ?_
        intro w2 hq2
        have hb2 := ext_of_class hq2
        clear hq2
        obtain ⟨hc2, hf2, hz2⟩ := bcell3 hb2
        try simp at hz2
        have hO2 := hO.ext hb2
        have hB2 := hB.ext hb2
        have hw2 := hw.trans hb2
        clear hc2 hf2 hz2 hb2
        have hs2 := hw2.size
        have lB2 := hB2.lt
        go_wp2_with (at_builtin; refine wpList_push2 (w0 := w) (base := w.heap.size + 1) (xs := maybeTo x m vs k) encI64 (by rfl) _ _ 41 (.int .i64 0) 8 (by rfl) Tryd.underlying41 info_i64 (by rfl) ((k : Int)) (by rfl) (by rfl) (by simp) (hO2) (by have := (hw2 : Ext w _).size; simp at this ⊢; omega) (by omega) (hw2) (by omega) (by omega) ?_)
        intro v3 w3 hO3 hb3 hg3 ho3
        have ne : ∀ b, b < w.heap.size + 1 → ¬ some b = u7.ownBlock := fun b hb e => by have := (hO2.lt b e.symm).1; omega
        go_wp2
        go_roundg (vs.length - (k + 1))
        case rel => exact ⟨k + 1, rfl, hkl, by simp, hb3, (hg3.block _ hB2.lt (ne _ (by omega))).trans hB2, by rw [hv.out]; exact hO3⟩
        case measure => omega
      | false =>
        rw [hq] at hwi
        have hv := hmiss hq
        clear hhit hmiss hq
        go_wp2
        refine wp_region_ext (by kernel_rfl) (by kernel_rfl) ?_
        repeat (first | go_big_quiet_step ((first | (go_at_call 82; with_reducible exact Calls.ext_all (fun W hE => hcall W hE)) | (go_at_call 81; with_reducible exact Calls.ext_all (fun W _ => hwi W)))) | quiet_step ((first | (go_at_call 82; with_reducible exact Calls.ext_all (fun W hE => hcall W hE)) | (go_at_call 81; with_reducible exact Calls.ext_all (fun W _ => hwi W)))))
        refine wpQuiet_nil ?_
        intro w2 hq2
        have hb2 := ext_of_class hq2
        clear hq2
        obtain ⟨hc2, hf2, hz2⟩ := bcell3 hb2
        try simp at hz2
        go_wp2
        go_roundg (vs.length - (k + 1))
        case rel => exact ⟨k + 1, rfl, hkl, by simp, hw.trans hb2, hB.ext hb2, by rw [hv.out]; exact hO.ext hb2⟩
        case measure => omega
    · obtain rfl : k = vs.length := by omega
      go_wp2
      go_ret
      exact ⟨_, rfl, hO.lower (by omega), hw⟩
set_option maxHeartbeats 1000000 in
theorem impl_holesAt (x : Mx) (hmx : mixB x = true) (vs : List ByteArray) (A : Option Addr) (cap : Nat) (ls : List Int) (B : Option Addr) (cap' : Nat) (w : World) (hR : Rd encStr w A vs) (hn : vs.length ≤ 1048576) (hok : ∀ x ∈ vs, StrIn x) (hS : Rd encI64 w B ls) (hm : ls.length ≤ 1048576) (hin : ∀ k ∈ ls, 0 ≤ k ∧ k < vs.length) :
    Calls Tryd.prog 65 #[.agg #[.int .i16 x.st, .int .i16 x.sz, .int .i16 x.per], .slice A vs.length cap, .slice B ls.length cap'] w fun e w' => e = .returned (.agg #[.int .u64 (lo (joinL (hsL x vs ls))), .int .u64 (hi (joinL (hsL x vs ls)))]) ∧ Ext w w' := by
  have hwh := fun k (h : k < vs.length) W => impl_wordHoles x hmx vs[k] (hok _ (List.getElem_mem h)) W
  have htk := fun k (h : k < ls.length) => hsL_take x vs ls k h
  have hat := fun n (h : n < vs.length) => holeAt_nat x vs n h
  have hz : joinL ((hsL x vs ls).take 0) = 0 := by rw [List.take_zero]; rfl
  have hall : joinL ((hsL x vs ls).take ls.length) = joinL (hsL x vs ls) := by rw [← hsL_len x vs ls, List.take_length]
  generalize joinL (hsL x vs ls) = r at hall
  obtain ⟨st, sz, per⟩ := x
  dsimp only at hwh
  have hx := @ExtOf.cell
  go_enter Tryd.func65, Tryd.ntmps65
  go_wp2
  go_loopg [13] ls.length (fun g i wr => ∃ k : Nat, ∃ m : Mask, g = ls.length - k ∧ k ≤ ls.length ∧ i = .int .i64 k ∧ Hd (joinL ((hsL ⟨st, sz, per⟩ vs ls).take k) = m) ∧ Ext w wr ∧ BoxAt wr (w.heap.size + 1 + 1) #[.int .u64 (lo m), .int .u64 (hi m)] 53 ∧ BoxAt wr (w.heap.size + 1) #[.int .u64 0, .int .u64 0] 53 ∧ BoxAt wr w.heap.size #[.int .i16 st, .int .i16 sz, .int .i16 per] 30)
  case atStart => exact ⟨0, 0, by omega, by omega, rfl, hd hz, by ((repeat (first | with_reducible exact Ext.refl _ | with_reducible exact hw | with_reducible exact hb9 | with_reducible exact hb8 | with_reducible exact hb7 | with_reducible exact hb6 | with_reducible exact hb5 | with_reducible exact hb4 | with_reducible exact hb3 | with_reducible exact hb2 | with_reducible exact hb1 | with_reducible refine Ext.alloc ?_ _ | with_reducible refine Ext.drew ?_ | ((with_reducible refine Ext.set ?_ ?_ _); focus (dsimp only; omega)) | with_reducible refine Ext.trans ?_ hb9 | with_reducible refine Ext.trans ?_ hb8 | with_reducible refine Ext.trans ?_ hb7 | with_reducible refine Ext.trans ?_ hb6 | with_reducible refine Ext.trans ?_ hb5 | with_reducible refine Ext.trans ?_ hb4 | with_reducible refine Ext.trans ?_ hb3 | with_reducible refine Ext.trans ?_ hb2 | with_reducible refine Ext.trans ?_ hb1 | with_reducible refine Ext.trans ?_ hw))), BoxAt.new' (by simp), (BoxAt.new' (by simp)).alloc _, ((BoxAt.new' rfl).alloc _).alloc _⟩
  case round =>
    obtain ⟨k, m, hg, hk, rfl, hm2, hw, hB, hC, hX⟩ := hrel
    have c0 : wr.cell? ⟨w.heap.size + 1 + 1, 0, none⟩ = some (.int .u64 (lo m)) := hB.cell 0
    have c1 : wr.cell? ⟨w.heap.size + 1 + 1, 1, none⟩ = some (.int .u64 (hi m)) := hB.cell 1
    have x0 : wr.cell? ⟨w.heap.size, 0, none⟩ = some (.int .i16 st) := hX.cell 0
    have x1 : wr.cell? ⟨w.heap.size, 1, none⟩ = some (.int .i16 sz) := hX.cell 1
    have x2 : wr.cell? ⟨w.heap.size, 2, none⟩ = some (.int .i16 per) := hX.cell 2
    have lB := hB.lt
    have lX := hX.lt
    by_cases hkl : k < ls.length
    · obtain ⟨b', off', hB', hlt', _⟩ := hS k hkl
      subst hB'
      have l0 := (hS.ext hw).i64 k hkl
      have lS := World.block_lt_of_cell? _ _ l0
      dsimp only at lS
      have hnext := htk k hkl
      obtain ⟨g0, g1⟩ := hin _ (List.getElem_mem hkl)
      generalize ls[k] = z at l0 hnext g0 g1
      obtain ⟨n, rfl⟩ : ∃ n : Nat, z = n := ⟨z.toNat, by omega⟩
      have hnl : n < vs.length := by omega
      rw [hat n hnl] at hnext
      obtain ⟨b, off, hA, hlt, _⟩ := hR n hnl
      subst hA
      obtain ⟨m0, m1⟩ := (hR.ext hw).strs n hnl
      have hcall := hwh n hnl
      have hnext := hd hnext
      generalize wholes ⟨st, sz, per⟩ vs[n] = q at hcall hnext
      clear hwh htk hat
      go_wp2
      refine wp_region_ext_tail 8 8 (by kernel_rfl) (by kernel_rfl) (by intro d _ _ _ _ h; cases d <;> exact h) ?_
      simp only [List.take_succ_cons, List.take_zero, List.drop_succ_cons, List.drop_zero]
      repeat (first | go_big_quiet_step ((first | (go_at_call 79; with_reducible exact Calls.ext_all (fun W _ => hcall W)) | (go_at_call 78; with_reducible exact Calls.ext_all (fun W _ => impl_JoinMasks m q W)))) | quiet_step ((first | (go_at_call 79; with_reducible exact Calls.ext_all (fun W _ => hcall W)) | (go_at_call 78; with_reducible exact Calls.ext_all (fun W _ => impl_JoinMasks m q W)))))
      refine wpQuiet_nil ?_
      intro w2 hq2
      have hb2 := ext_of_class hq2
      clear hq2
      obtain ⟨hc2, hf2, hz2⟩ := bcell3 hb2
      try simp at hz2
      have hB := hB.ext hb2
      have hC := hC.ext hb2
      have hX := hX.ext hb2
      have f0 := hB.frozen 0
      have f1 := hB.frozen 1
      have d0 : w2.cell? ⟨w.heap.size + 1 + 1, 0, none⟩ = some (.int .u64 (lo m)) := hB.cell 0
      have d1 : w2.cell? ⟨w.heap.size + 1 + 1, 1, none⟩ = some (.int .u64 (hi m)) := hB.cell 1
      have lB := hB.lt
      clear hc2 hf2 hz2
      go_wp2
      go_roundg (ls.length - (k + 1))
      case rel => exact ⟨k + 1, mjoin m q, rfl, hkl, rfl, hd (by rw [hnext.out, hm2.out]), by ((repeat (first | with_reducible exact Ext.refl _ | with_reducible exact hw | with_reducible exact hb9 | with_reducible exact hb8 | with_reducible exact hb7 | with_reducible exact hb6 | with_reducible exact hb5 | with_reducible exact hb4 | with_reducible exact hb3 | with_reducible exact hb2 | with_reducible exact hb1 | with_reducible refine Ext.alloc ?_ _ | with_reducible refine Ext.drew ?_ | ((with_reducible refine Ext.set ?_ ?_ _); focus (dsimp only; omega)) | with_reducible refine Ext.trans ?_ hb9 | with_reducible refine Ext.trans ?_ hb8 | with_reducible refine Ext.trans ?_ hb7 | with_reducible refine Ext.trans ?_ hb6 | with_reducible refine Ext.trans ?_ hb5 | with_reducible refine Ext.trans ?_ hb4 | with_reducible refine Ext.trans ?_ hb3 | with_reducible refine Ext.trans ?_ hb2 | with_reducible refine Ext.trans ?_ hb1 | with_reducible refine Ext.trans ?_ hw))), (hB.set 0 _).set 1 _, (hC.setOther (by simp) _).setOther (by simp) _, (hX.setOther (by simp; omega) _).setOther (by simp; omega) _⟩
      case measure => omega
    · obtain rfl : k = ls.length := by omega
      have hv := hm2.out.symm.trans hall
      subst hv
      have z0 := hC.frozen 0
      have z1 := hC.frozen 1
      have y0 : wr.cell? ⟨w.heap.size + 1, 0, none⟩ = some (.int .u64 0) := hC.cell 0
      have y1 : wr.cell? ⟨w.heap.size + 1, 1, none⟩ = some (.int .u64 0) := hC.cell 1
      have lC := hC.lt
      go_wp2
      refine bodyPost_ret (v := .agg #[.int .u64 (lo m), .int .u64 (hi m)]) (by simp [results, Tryd.results65, go_sem, c0, c1, y0, y1, lC, lB]) rfl ⟨rfl, ?_⟩
      (repeat (first | with_reducible exact Ext.refl _ | with_reducible exact hw | with_reducible exact hb9 | with_reducible exact hb8 | with_reducible exact hb7 | with_reducible exact hb6 | with_reducible exact hb5 | with_reducible exact hb4 | with_reducible exact hb3 | with_reducible exact hb2 | with_reducible exact hb1 | with_reducible refine Ext.alloc ?_ _ | with_reducible refine Ext.drew ?_ | ((with_reducible refine Ext.set ?_ ?_ _); focus (dsimp only; omega)) | with_reducible refine Ext.trans ?_ hb9 | with_reducible refine Ext.trans ?_ hb8 | with_reducible refine Ext.trans ?_ hb7 | with_reducible refine Ext.trans ?_ hb6 | with_reducible refine Ext.trans ?_ hb5 | with_reducible refine Ext.trans ?_ hb4 | with_reducible refine Ext.trans ?_ hb3 | with_reducible refine Ext.trans ?_ hb2 | with_reducible refine Ext.trans ?_ hb1 | with_reducible refine Ext.trans ?_ hw))
end Go.Proofs.YtbmompanhigmnaaDoor
