/-
  ZA: the texts X7 X8 X9 Z1 Z2 Z4 Z3 Z5 in one (written by merge.py).
-/
import Derived.Test.YtegopgpnjgikeaaDoorXA
import Derived.Test.YtegopgpnjgikeaaDoorShelf
import Derived.Lib.OwnBridge
import Derived.Test.YtegopgpnjgikeaaDoorX6
import Derived.Test.YtegopgpnjgikeaaDoorL9
import Derived.Test.YtegopgpnjgikeaaDoorNS
import Derived.Test.YtegopgpnjgikeaaDoorG6
import Derived.Deep.RegionHeld
set_option linter.unusedVariables false
set_option linter.unusedSimpArgs false
set_option maxRecDepth 100000
namespace Go.Proofs.YtegopgpnjgikeaaDoor
open Go.RowKit
theorem getS (vs : List ByteArray) (k : Nat) (hk : k < vs.length) : vs.getD k ⟨#[]⟩ = vs[k] := by rw [List.getD, List.getElem?_eq_getElem hk]; rfl
/-- The holes of a word of a vocabulary, of some of them. -/
noncomputable def holeAt (x : Mx) (vs : List ByteArray) (k : Int) : Mask := wholes x (vs.getD k.toNat ⟨#[]⟩)
noncomputable def hsL (x : Mx) (vs : List ByteArray) (mb : List Int) : List Mask := mb.map (holeAt x vs)
theorem hsL_len (x : Mx) (vs : List ByteArray) (mb : List Int) : (hsL x vs mb).length = mb.length := by unfold hsL; rw [List.length_map]
theorem holeAt_nat (x : Mx) (vs : List ByteArray) (n : Nat) (h : n < vs.length) : holeAt x vs n = wholes x vs[n] := by unfold holeAt; rw [Int.toNat_natCast, getS vs n h]
theorem joinL_take (hs : List Mask) (k : Nat) (h : k < hs.length) : joinL (hs.take (k + 1)) = mjoin (joinL (hs.take k)) hs[k] := by rw [List.take_succ_eq_append_getElem h, joinL_snoc]
theorem hsL_take (x : Mx) (vs : List ByteArray) (mb : List Int) (k : Nat) (h : k < mb.length) : joinL ((hsL x vs mb).take (k + 1)) = mjoin (joinL ((hsL x vs mb).take k)) (holeAt x vs mb[k]) := by
  rw [joinL_take _ k (by rw [hsL_len]; exact h)]
  congr 1
  unfold hsL
  rw [List.getElem_map]
theorem hsL_snoc (x : Mx) (vs : List ByteArray) (mb : List Int) (k : Nat) (h : k < mb.length) : hsL x vs (mb.take (k + 1)) = hsL x vs (mb.take k) ++ [holeAt x vs mb[k]] := by
  unfold hsL
  rw [List.take_succ_eq_append_getElem h, List.map_append]
  rfl
theorem map_erase {α β : Type} (f : α → β) : ∀ (l : List α) (i : Nat), (l.eraseIdx i).map f = (l.map f).eraseIdx i
  | [], _ => rfl
  | _ :: _, 0 => rfl
  | x :: l, i + 1 => by
    show f x :: (l.eraseIdx i).map f = f x :: (l.map f).eraseIdx i
    rw [map_erase f l i]
theorem hsL_erase (x : Mx) (vs : List ByteArray) (mb : List Int) (i : Nat) : hsL x vs (mb.eraseIdx i) = (hsL x vs mb).eraseIdx i := map_erase _ _ _
/-- The words that may be in a mask. -/
noncomputable def maybeTo (x : Mx) (m : Mask) (vs : List ByteArray) (n : Nat) : List Int := idxTo (fun i => mwin (wholes x (vs.getD i ⟨#[]⟩)) m) n
theorem maybeTo_zero (x : Mx) (m : Mask) (vs : List ByteArray) : maybeTo x m vs 0 = [] := rfl
theorem maybeTo_hit {x : Mx} {m : Mask} {vs : List ByteArray} {k : Nat} (hk : k < vs.length) (hq : mwin (wholes x vs[k]) m = true) : maybeTo x m vs (k + 1) = maybeTo x m vs k ++ [(k : Int)] := idxTo_hit _ k (by rw [getS vs k hk]; exact hq)
theorem maybeTo_miss {x : Mx} {m : Mask} {vs : List ByteArray} {k : Nat} (hk : k < vs.length) (hq : mwin (wholes x vs[k]) m = false) : maybeTo x m vs (k + 1) = maybeTo x m vs k := idxTo_miss _ k (by rw [getS vs k hk]; exact hq)
theorem maybeTo_len (x : Mx) (m : Mask) (vs : List ByteArray) (n : Nat) : (maybeTo x m vs n).length ≤ n := idxTo_len _ n
theorem maybeTo_in (x : Mx) (m : Mask) (vs : List ByteArray) (n : Nat) : ∀ k ∈ maybeTo x m vs n, 0 ≤ k ∧ k < n := by
  intro k hk
  obtain ⟨i, h1, h2, _⟩ := (idxTo_mem _ n k).1 hk
  omega
attribute [irreducible] maybeTo
theorem all_i64 (xs : List Int) : encI64.all xs = xs.map (Value.int .i64) := by
  unfold Enc.all
  induction xs with
  | nil => rfl
  | cons x xs ih => rw [List.flatMap_cons, ih]; rfl
set_option maxHeartbeats 400000 in
theorem slices_Delete1 (xs : List Int) (i : Nat) (hi : i < xs.length) (hn : xs.length ≤ 1048576) (v : Value) (base : Nat) (w : World) (hO : Ow encI64 2 w base v xs) :
    Calls Tryd.prog 59 #[v, .int .i64 i, .int .i64 ((i : Int) + 1)] w fun e w' => ∃ A cap, e = .returned (.slice A (xs.eraseIdx i).length cap) ∧ Rd encI64 w' A (xs.eraseIdx i) ∧ (∀ w0 : World, Ext w0 w → w0.heap.size ≤ base → Ext w0 w') := by
  have hv : v ≠ .slice none 0 0 := fun h => by
    subst h
    rcases hO.shape with ⟨_, h⟩ | ⟨g, cap, h, _⟩
    · rw [h] at hi; simp at hi
    · cases h
  have hO2 : w.ownsRow base 2 1 v xs.length (xs.map (Value.int .i64)) := by rw [← all_i64]; exact hO
  obtain ⟨g, cap, rfl, hbg, hgl, hle, hm, _, hH⟩ := Go.Lib.holds_of_ownsRow hO2 hv
  have hel : (xs.eraseIdx i).length = xs.length - 1 := List.length_eraseIdx_of_lt hi
  obtain ⟨ti, hti, _, hts, _⟩ := info_parts info_i64
  have hD : Calls Tryd.prog 59 #[.slice (some ⟨g, 0, none⟩) xs.length cap, .int .i64 i, .int .i64 ((i + 1 : Nat) : Int)] w fun e w' => e = .returned (.slice (some ⟨g, 0, none⟩) (xs.length - (i + 1 - i)) cap) ∧ ∃ q, w' = Go.Sort.putRow (Value.int .i64) (Go.Sort.ahead w q) g 0 (xs.take i ++ xs.drop (i + 1) ++ List.replicate (i + 1 - i) 0).toArray := by
    first
    | exact Tryd.slices_Delete_int g 0 cap i (i + 1) xs w hH (by simpa using hle) (by unfold maxLen at hm; omega) (by omega) (by omega)
    | exact Tryd.slices_Delete (α := Int) (Value.int .i64) (fun _ => rfl) 0 (Tryd.zeroValue2) ti hti hts g 0 cap i (i + 1) xs.toArray w hH (by simpa using hle) (by unfold maxLen at hm; omega) (by omega) (by simp; omega)
  rw [show ((i + 1 : Nat) : Int) = (i : Int) + 1 by omega] at hD
  refine hD.mono ?_
  rintro e w' ⟨rfl, q, rfl⟩
  have hrow := Go.Lib.ownsRow_putRow (q := q) (k := xs.length - 1) (ys := xs.take i ++ xs.drop (i + 1) ++ List.replicate (i + 1 - i) 0) hO2 (by simp; omega) (by omega)
  have htk : (xs.take i ++ xs.drop (i + 1) ++ List.replicate (i + 1 - i) 0).take (xs.length - 1) = xs.eraseIdx i := by
    rw [List.eraseIdx_eq_take_drop_succ, List.take_left' (by simp; omega)]
  rw [htk] at hrow
  refine ⟨some ⟨g, 0, none⟩, cap, by rw [hel, show i + 1 - i = 1 by omega], ?_, fun w0 h0 hb => Go.Lib.below_putRow h0 (Nat.le_trans hb hbg)⟩
  have hOw : Ow encI64 2 (Go.Sort.putRow (Value.int .i64) (Go.Sort.ahead w q) g 0 (xs.take i ++ xs.drop (i + 1) ++ List.replicate (i + 1 - i) 0).toArray) base (.slice (some ⟨g, 0, none⟩) (xs.length - 1) cap) (xs.eraseIdx i) := by
    unfold Ow
    rw [all_i64, hel]
    exact hrow
  exact hOw.rdA
set_option maxHeartbeats 400000 in
theorem impl_checkVocabulary (x : Mx) (hx : MxIn x) (m : Mask) (ws : List ByteArray) (A : Option Addr) (cap : Nat) (w : World) (hR : Rd encStr w A ws) (hn : ws.length ≤ 1048576) (hok : ∀ x ∈ ws, StrIn x) :
    Calls Tryd.prog 46 #[.agg #[.int .i16 x.st, .int .i16 x.sz, .int .i16 x.per], .agg #[.int .u64 (lo m), .int .u64 (hi m)], .slice A ws.length cap] w fun e w' => e = .returned (.int .i64 (askF x [m] ws 40)) ∧ Ext w w' := by
  have h1 := fun W => impl_isMix x hx W
  have h3 := fun W => impl_isMask m W
  have h2 := fun (W : World) (h : Ext w W) => impl_areWords ws A cap 40 W (hR.ext h) hn hok
  have hb := ask_bad (x := x) (ms := [m]) (ws := ws) (most := 40)
  have hf := ask_far (x := x) (ms := [m]) (ws := ws) (most := 40)
  have ho := ask_ok (x := x) (ms := [m]) (ws := ws) (most := 40)
  rw [show ([m].all isMaskB) = isMaskB m by simp] at hb hf ho
  rw [show decide ([m].length ≤ 60) = true from rfl, Bool.true_and] at hf ho
  generalize mixB x = p at h1 hb hf ho
  generalize isMaskB m = p2 at h3 hb hf ho
  generalize wordsB ws 40 = q at h2 hf ho
  obtain ⟨st, sz, per⟩ := x
  dsimp only at h1
  cases p with
  | false =>
    have hv := hd (hb rfl)
    clear hb hf ho
    go_enter Tryd.func46, Tryd.ntmps46
    go_wp2_with fail
    refine Calls.mono (h1 _) ?_
    rintro e w1 ⟨rfl, hb1⟩
    obtain ⟨hc1, hf1, hz1⟩ := bcell3 hb1
    try simp at hz1
    have hz1_0 : w.heap.size < w1.heap.size := by omega
    go_wp2
    go_ret
    exact ⟨by rw [hv.out]; rfl, by ((repeat (first | with_reducible exact Ext.refl _ | with_reducible exact hw | with_reducible exact hb9 | with_reducible exact hb8 | with_reducible exact hb7 | with_reducible exact hb6 | with_reducible exact hb5 | with_reducible exact hb4 | with_reducible exact hb3 | with_reducible exact hb2 | with_reducible exact hb1 | with_reducible refine Ext.alloc ?_ _ | with_reducible refine Ext.drew ?_ | ((with_reducible refine Ext.set ?_ ?_ _); focus (dsimp only; omega)) | with_reducible refine Ext.trans ?_ hb9 | with_reducible refine Ext.trans ?_ hb8 | with_reducible refine Ext.trans ?_ hb7 | with_reducible refine Ext.trans ?_ hb6 | with_reducible refine Ext.trans ?_ hb5 | with_reducible refine Ext.trans ?_ hb4 | with_reducible refine Ext.trans ?_ hb3 | with_reducible refine Ext.trans ?_ hb2 | with_reducible refine Ext.trans ?_ hb1 | with_reducible refine Ext.trans ?_ hw)))⟩
  | true =>
    cases p2 with
    | false =>
      have hv := hd (hb rfl)
      clear hb hf ho
      go_enter Tryd.func46, Tryd.ntmps46
      go_wp2_with fail
      refine Calls.mono (h1 _) ?_
      rintro e w1 ⟨rfl, hb1⟩
      obtain ⟨hc1, hf1, hz1⟩ := bcell3 hb1
      try simp at hz1
      have hz1_0 : w.heap.size < w1.heap.size := by omega
      have hz1_1 : w.heap.size + 1 < w1.heap.size := by omega
      go_wp2_with fail
      refine Calls.mono (h3 _) ?_
      rintro e w2 ⟨rfl, hb2⟩
      go_wp2
      go_ret
      exact ⟨by rw [hv.out]; rfl, by ((repeat (first | with_reducible exact Ext.refl _ | with_reducible exact hw | with_reducible exact hb9 | with_reducible exact hb8 | with_reducible exact hb7 | with_reducible exact hb6 | with_reducible exact hb5 | with_reducible exact hb4 | with_reducible exact hb3 | with_reducible exact hb2 | with_reducible exact hb1 | with_reducible refine Ext.alloc ?_ _ | with_reducible refine Ext.drew ?_ | ((with_reducible refine Ext.set ?_ ?_ _); focus (dsimp only; omega)) | with_reducible refine Ext.trans ?_ hb9 | with_reducible refine Ext.trans ?_ hb8 | with_reducible refine Ext.trans ?_ hb7 | with_reducible refine Ext.trans ?_ hb6 | with_reducible refine Ext.trans ?_ hb5 | with_reducible refine Ext.trans ?_ hb4 | with_reducible refine Ext.trans ?_ hb3 | with_reducible refine Ext.trans ?_ hb2 | with_reducible refine Ext.trans ?_ hb1 | with_reducible refine Ext.trans ?_ hw)))⟩
    | true =>
      cases q with
      | false =>
        have hv := hd (hf rfl rfl)
        clear hb hf ho
        go_enter Tryd.func46, Tryd.ntmps46
        go_wp2_with fail
        refine Calls.mono (h1 _) ?_
        rintro e w1 ⟨rfl, hb1⟩
        obtain ⟨hc1, hf1, hz1⟩ := bcell3 hb1
        try simp at hz1
        have hz1_0 : w.heap.size < w1.heap.size := by omega
        have hz1_1 : w.heap.size + 1 < w1.heap.size := by omega
        go_wp2_with fail
        refine Calls.mono (h3 _) ?_
        rintro e w2 ⟨rfl, hb2⟩
        go_wp2_with fail
        refine Calls.mono (h2 _ (by ((repeat (first | with_reducible exact Ext.refl _ | with_reducible exact hw | with_reducible exact hb9 | with_reducible exact hb8 | with_reducible exact hb7 | with_reducible exact hb6 | with_reducible exact hb5 | with_reducible exact hb4 | with_reducible exact hb3 | with_reducible exact hb2 | with_reducible exact hb1 | with_reducible refine Ext.alloc ?_ _ | with_reducible refine Ext.drew ?_ | ((with_reducible refine Ext.set ?_ ?_ _); focus (dsimp only; omega)) | with_reducible refine Ext.trans ?_ hb9 | with_reducible refine Ext.trans ?_ hb8 | with_reducible refine Ext.trans ?_ hb7 | with_reducible refine Ext.trans ?_ hb6 | with_reducible refine Ext.trans ?_ hb5 | with_reducible refine Ext.trans ?_ hb4 | with_reducible refine Ext.trans ?_ hb3 | with_reducible refine Ext.trans ?_ hb2 | with_reducible refine Ext.trans ?_ hb1 | with_reducible refine Ext.trans ?_ hw))))) ?_
        rintro e w3 ⟨rfl, hb3⟩
        go_wp2
        go_ret
        exact ⟨by rw [hv.out]; rfl, by ((repeat (first | with_reducible exact Ext.refl _ | with_reducible exact hw | with_reducible exact hb9 | with_reducible exact hb8 | with_reducible exact hb7 | with_reducible exact hb6 | with_reducible exact hb5 | with_reducible exact hb4 | with_reducible exact hb3 | with_reducible exact hb2 | with_reducible exact hb1 | with_reducible refine Ext.alloc ?_ _ | with_reducible refine Ext.drew ?_ | ((with_reducible refine Ext.set ?_ ?_ _); focus (dsimp only; omega)) | with_reducible refine Ext.trans ?_ hb9 | with_reducible refine Ext.trans ?_ hb8 | with_reducible refine Ext.trans ?_ hb7 | with_reducible refine Ext.trans ?_ hb6 | with_reducible refine Ext.trans ?_ hb5 | with_reducible refine Ext.trans ?_ hb4 | with_reducible refine Ext.trans ?_ hb3 | with_reducible refine Ext.trans ?_ hb2 | with_reducible refine Ext.trans ?_ hb1 | with_reducible refine Ext.trans ?_ hw)))⟩
      | true =>
        have hv := hd (ho rfl rfl)
        clear hb hf ho
        go_enter Tryd.func46, Tryd.ntmps46
        go_wp2_with fail
        refine Calls.mono (h1 _) ?_
        rintro e w1 ⟨rfl, hb1⟩
        obtain ⟨hc1, hf1, hz1⟩ := bcell3 hb1
        try simp at hz1
        have hz1_0 : w.heap.size < w1.heap.size := by omega
        have hz1_1 : w.heap.size + 1 < w1.heap.size := by omega
        go_wp2_with fail
        refine Calls.mono (h3 _) ?_
        rintro e w2 ⟨rfl, hb2⟩
        go_wp2_with fail
        refine Calls.mono (h2 _ (by ((repeat (first | with_reducible exact Ext.refl _ | with_reducible exact hw | with_reducible exact hb9 | with_reducible exact hb8 | with_reducible exact hb7 | with_reducible exact hb6 | with_reducible exact hb5 | with_reducible exact hb4 | with_reducible exact hb3 | with_reducible exact hb2 | with_reducible exact hb1 | with_reducible refine Ext.alloc ?_ _ | with_reducible refine Ext.drew ?_ | ((with_reducible refine Ext.set ?_ ?_ _); focus (dsimp only; omega)) | with_reducible refine Ext.trans ?_ hb9 | with_reducible refine Ext.trans ?_ hb8 | with_reducible refine Ext.trans ?_ hb7 | with_reducible refine Ext.trans ?_ hb6 | with_reducible refine Ext.trans ?_ hb5 | with_reducible refine Ext.trans ?_ hb4 | with_reducible refine Ext.trans ?_ hb3 | with_reducible refine Ext.trans ?_ hb2 | with_reducible refine Ext.trans ?_ hb1 | with_reducible refine Ext.trans ?_ hw))))) ?_
        rintro e w3 ⟨rfl, hb3⟩
        go_wp2
        go_ret
        exact ⟨by rw [hv.out]; rfl, by ((repeat (first | with_reducible exact Ext.refl _ | with_reducible exact hw | with_reducible exact hb9 | with_reducible exact hb8 | with_reducible exact hb7 | with_reducible exact hb6 | with_reducible exact hb5 | with_reducible exact hb4 | with_reducible exact hb3 | with_reducible exact hb2 | with_reducible exact hb1 | with_reducible refine Ext.alloc ?_ _ | with_reducible refine Ext.drew ?_ | ((with_reducible refine Ext.set ?_ ?_ _); focus (dsimp only; omega)) | with_reducible refine Ext.trans ?_ hb9 | with_reducible refine Ext.trans ?_ hb8 | with_reducible refine Ext.trans ?_ hb7 | with_reducible refine Ext.trans ?_ hb6 | with_reducible refine Ext.trans ?_ hb5 | with_reducible refine Ext.trans ?_ hb4 | with_reducible refine Ext.trans ?_ hb3 | with_reducible refine Ext.trans ?_ hb2 | with_reducible refine Ext.trans ?_ hb1 | with_reducible refine Ext.trans ?_ hw)))⟩
set_option maxHeartbeats 1000000 in
theorem impl_maybe (x : Mx) (hmx : mixB x = true) (m : Mask) (vs : List ByteArray) (A : Option Addr) (cap : Nat) (w : World) (hR : Rd encStr w A vs) (hn : vs.length ≤ 1048576) (hok : ∀ x ∈ vs, StrIn x) :
    Calls Tryd.prog 47 #[.agg #[.int .i16 x.st, .int .i16 x.sz, .int .i16 x.per], .agg #[.int .u64 (lo m), .int .u64 (hi m)], .slice A vs.length cap] w fun e w' => ∃ v, e = .returned v ∧ Ow encI64 2 w' w.heap.size v (maybeTo x m vs vs.length) ∧ Ext w w' := by
  have hwh := fun k (h : k < vs.length) W => impl_wordHoles x hmx vs[k] (hok _ (List.getElem_mem h)) W
  have hlen := maybeTo_len x m vs
  have hzz := maybeTo_zero x m vs
  have hhit0 := fun k (h : k < vs.length) => maybeTo_hit (x := x) (m := m) h
  have hmiss0 := fun k (h : k < vs.length) => maybeTo_miss (x := x) (m := m) h
  obtain ⟨st, sz, per⟩ := x
  dsimp only at hwh
  have hx := @ExtOf.cell
  go_enter Tryd.func47, Tryd.ntmps47
  go_wp2
  go_loopg [7, 13] vs.length (fun g v i wr => ∃ k : Nat, g = vs.length - k ∧ k ≤ vs.length ∧ i = .int .i64 k ∧ Ext w wr ∧ BoxAt wr w.heap.size #[.int .i16 st, .int .i16 sz, .int .i16 per] 26 ∧ BoxAt wr (w.heap.size + 1) #[.int .u64 (lo m), .int .u64 (hi m)] 33 ∧ Ow encI64 2 wr (w.heap.size + 1 + 1) v (maybeTo ⟨st, sz, per⟩ m vs k))
  case atStart => exact ⟨0, by omega, by omega, rfl, by ((repeat (first | with_reducible exact Ext.refl _ | with_reducible exact hw | with_reducible exact hb9 | with_reducible exact hb8 | with_reducible exact hb7 | with_reducible exact hb6 | with_reducible exact hb5 | with_reducible exact hb4 | with_reducible exact hb3 | with_reducible exact hb2 | with_reducible exact hb1 | with_reducible refine Ext.alloc ?_ _ | with_reducible refine Ext.drew ?_ | ((with_reducible refine Ext.set ?_ ?_ _); focus (dsimp only; omega)) | with_reducible refine Ext.trans ?_ hb9 | with_reducible refine Ext.trans ?_ hb8 | with_reducible refine Ext.trans ?_ hb7 | with_reducible refine Ext.trans ?_ hb6 | with_reducible refine Ext.trans ?_ hb5 | with_reducible refine Ext.trans ?_ hb4 | with_reducible refine Ext.trans ?_ hb3 | with_reducible refine Ext.trans ?_ hb2 | with_reducible refine Ext.trans ?_ hb1 | with_reducible refine Ext.trans ?_ hw))), ((BoxAt.new' rfl).alloc _).alloc _, (BoxAt.new' (by simp)).alloc _, by rw [hzz]; exact Ow.made0 (by simp) (by simp)⟩
  case round =>
    obtain ⟨k, hg, hk, rfl, hw, hX, hB, hO⟩ := hrel
    by_cases hkl : k < vs.length
    · obtain ⟨b, off, hA, hlt, _⟩ := hR k hkl
      subst hA
      obtain ⟨m0, m1⟩ := (hR.ext hw).strs k hkl
      have x0 : wr.cell? ⟨w.heap.size, 0, none⟩ = some (.int .i16 st) := hX.cell 0
      have x1 : wr.cell? ⟨w.heap.size, 1, none⟩ = some (.int .i16 sz) := hX.cell 1
      have x2 : wr.cell? ⟨w.heap.size, 2, none⟩ = some (.int .i16 per) := hX.cell 2
      have c0 : wr.cell? ⟨w.heap.size + 1, 0, none⟩ = some (.int .u64 (lo m)) := hB.cell 0
      have c1 : wr.cell? ⟨w.heap.size + 1, 1, none⟩ = some (.int .u64 (hi m)) := hB.cell 1
      have lX := hX.lt
      have lB := hB.lt
      have hl := hlen k
      have hcall := hwh k hkl
      have hhit := fun q => hd (hhit0 k hkl q)
      have hmiss := fun q => hd (hmiss0 k hkl q)
      generalize wholes ⟨st, sz, per⟩ vs[k] = hh at hcall hhit hmiss
      have hwi := fun W => impl_IsWithin hh m W
      cases hq : mwin hh m with
      | true =>
        rw [hq] at hwi
        have hv := hhit hq
        clear hhit hmiss hq
        go_wp2
        refine wp_region_ext (by kernel_rfl) (by kernel_rfl) ?_
        repeat (first | go_big_quiet_step ((first | (go_at_call 96; with_reducible exact Calls.ext_all (fun W _ => hcall W)) | (go_at_call 95; with_reducible exact Calls.ext_all (fun W _ => hwi W)))) | quiet_step ((first | (go_at_call 96; with_reducible exact Calls.ext_all (fun W _ => hcall W)) | (go_at_call 95; with_reducible exact Calls.ext_all (fun W _ => hwi W)))))
        refine wpQuiet_nil ?_
        intro w2 hq2
        have hb2 := ext_of_class hq2
        clear hq2
        obtain ⟨hc2, hf2, hz2⟩ := bcell3 hb2
        try simp at hz2
        have hO2 := hO.ext hb2
        have hX2 := hX.ext hb2
        have hB2 := hB.ext hb2
        have hw2 := hw.trans hb2
        clear hc2 hf2 hz2 hb2
        have hs2 := hw2.size
        have lB2 := hB2.lt
        go_wp2_with (at_builtin; refine wpList_push2 (w0 := w) (base := w.heap.size + 1 + 1) (xs := maybeTo ⟨st, sz, per⟩ m vs k) encI64 (by rfl) _ _ 36 (.int .i64 0) 8 (by rfl) Tryd.underlying36 info_i64 (by rfl) ((k : Int)) (by rfl) (by rfl) (by simp) (hO2) (by have := (hw2 : Ext w _).size; simp at this ⊢; omega) (by omega) (hw2) (by omega) (by omega) ?_)
        intro v3 w3 hO3 hb3 hg3 ho3
        have ne : ∀ b, b < w.heap.size + 1 + 1 → ¬ some b = u7.ownBlock := fun b hb e => by have := (hO2.lt b e.symm).1; omega
        go_wp2
        go_roundg (vs.length - (k + 1))
        case rel => exact ⟨k + 1, rfl, hkl, by simp, hb3, (hg3.block _ hX2.lt (ne _ (by omega))).trans hX2, (hg3.block _ hB2.lt (ne _ (by omega))).trans hB2, by rw [hv.out]; exact hO3⟩
        case measure => omega
      | false =>
        rw [hq] at hwi
        have hv := hmiss hq
        clear hhit hmiss hq
        go_wp2
        refine wp_region_ext (by kernel_rfl) (by kernel_rfl) ?_
        repeat (first | go_big_quiet_step ((first | (go_at_call 96; with_reducible exact Calls.ext_all (fun W _ => hcall W)) | (go_at_call 95; with_reducible exact Calls.ext_all (fun W _ => hwi W)))) | quiet_step ((first | (go_at_call 96; with_reducible exact Calls.ext_all (fun W _ => hcall W)) | (go_at_call 95; with_reducible exact Calls.ext_all (fun W _ => hwi W)))))
        refine wpQuiet_nil ?_
        intro w2 hq2
        have hb2 := ext_of_class hq2
        clear hq2
        obtain ⟨hc2, hf2, hz2⟩ := bcell3 hb2
        try simp at hz2
        go_wp2
        go_roundg (vs.length - (k + 1))
        case rel => exact ⟨k + 1, rfl, hkl, by simp, hw.trans hb2, hX.ext hb2, hB.ext hb2, by rw [hv.out]; exact hO.ext hb2⟩
        case measure => omega
    · obtain rfl : k = vs.length := by omega
      go_wp2
      go_ret
      exact ⟨_, rfl, hO.lower (by omega), hw⟩
set_option maxHeartbeats 1000000 in
theorem spec_l03Maybe (x : Mx) (hmx : mixB x = true) (m : Mask) (vs : List ByteArray) (A : Option Addr) (cap : Nat) (b0 o0 : Nat) (w : World) (hM : MixAt w b0 o0 x) (hR : Rd encStr w A vs) (hn : vs.length ≤ 1048576) (hok : ∀ x ∈ vs, StrIn x) :
    Calls Tryd.prog 48 #[.pointer (some ⟨b0, o0, none⟩), .agg #[.int .u64 (lo m), .int .u64 (hi m)], .slice A vs.length cap] w fun e w' => ∃ v, e = .returned v ∧ Ow encI64 2 w' w.heap.size v (maybeTo x m vs vs.length) ∧ Ext w w' := by
  have hwh := fun k (h : k < vs.length) (W : World) (hE : Ext w W) => spec_l03Holes x hmx vs[k] (hok _ (List.getElem_mem h)) b0 o0 W (hM.ext hE)
  have hlen := maybeTo_len x m vs
  have hzz := maybeTo_zero x m vs
  have hhit0 := fun k (h : k < vs.length) => maybeTo_hit (x := x) (m := m) h
  have hmiss0 := fun k (h : k < vs.length) => maybeTo_miss (x := x) (m := m) h
  have hx := @ExtOf.cell
  go_enter Tryd.func48, Tryd.ntmps48
  go_wp2
  go_loopg [7, 8] vs.length (fun g v i wr => ∃ k : Nat, g = vs.length - k ∧ k ≤ vs.length ∧ i = .int .i64 k ∧ Ext w wr ∧ BoxAt wr w.heap.size #[.int .u64 (lo m), .int .u64 (hi m)] 33 ∧ Ow encI64 2 wr (w.heap.size + 1) v (maybeTo x m vs k))
  case atStart => exact ⟨0, by omega, by omega, rfl, by ((repeat (first | with_reducible exact Ext.refl _ | with_reducible exact hw | with_reducible exact hb9 | with_reducible exact hb8 | with_reducible exact hb7 | with_reducible exact hb6 | with_reducible exact hb5 | with_reducible exact hb4 | with_reducible exact hb3 | with_reducible exact hb2 | with_reducible exact hb1 | with_reducible refine Ext.alloc ?_ _ | with_reducible refine Ext.drew ?_ | ((with_reducible refine Ext.set ?_ ?_ _); focus (dsimp only; omega)) | with_reducible refine Ext.trans ?_ hb9 | with_reducible refine Ext.trans ?_ hb8 | with_reducible refine Ext.trans ?_ hb7 | with_reducible refine Ext.trans ?_ hb6 | with_reducible refine Ext.trans ?_ hb5 | with_reducible refine Ext.trans ?_ hb4 | with_reducible refine Ext.trans ?_ hb3 | with_reducible refine Ext.trans ?_ hb2 | with_reducible refine Ext.trans ?_ hb1 | with_reducible refine Ext.trans ?_ hw))), (BoxAt.new' rfl).alloc _, by rw [hzz]; exact Ow.made0 (by simp) (by simp)⟩
  case round =>
    obtain ⟨k, hg, hk, rfl, hw, hB, hO⟩ := hrel
    by_cases hkl : k < vs.length
    · obtain ⟨b, off, hA, hlt, _⟩ := hR k hkl
      subst hA
      obtain ⟨m0, m1⟩ := (hR.ext hw).strs k hkl
      have c0 : wr.cell? ⟨w.heap.size, 0, none⟩ = some (.int .u64 (lo m)) := hB.cell 0
      have c1 : wr.cell? ⟨w.heap.size, 1, none⟩ = some (.int .u64 (hi m)) := hB.cell 1
      have lB := hB.lt
      have hl := hlen k
      have hcall := fun (W : World) (hE : Ext wr W) => hwh k hkl W (hw.trans hE)
      have hhit := fun q => hd (hhit0 k hkl q)
      have hmiss := fun q => hd (hmiss0 k hkl q)
      generalize wholes x vs[k] = hh at hcall hhit hmiss
      have hwi := fun W => spec_IsWithin hh m W
      cases hq : mwin hh m with
      | true =>
        rw [hq] at hwi
        have hv := hhit hq
        clear hhit hmiss hq
        go_wp2
        refine wp_region_ext (by kernel_rfl) (by kernel_rfl) ?_
        repeat (first | go_big_quiet_step ((first | (go_at_call 60; with_reducible exact Calls.ext_all (fun W hE => hcall W hE)) | (go_at_call 97; with_reducible exact Calls.ext_all (fun W _ => hwi W)))) | quiet_step ((first | (go_at_call 60; with_reducible exact Calls.ext_all (fun W hE => hcall W hE)) | (go_at_call 97; with_reducible exact Calls.ext_all (fun W _ => hwi W)))))
        refine wpQuiet_nil ?_
        intro w2 hq2
        have hb2 := ext_of_class hq2
        clear hq2
        obtain ⟨hc2, hf2, hz2⟩ := bcell3 hb2
        try simp at hz2
        have hO2 := hO.ext hb2
        have hB2 := hB.ext hb2
        have hw2 := hw.trans hb2
        clear hc2 hf2 hz2 hb2
        have hs2 := hw2.size
        have lB2 := hB2.lt
        go_wp2_with (at_builtin; refine wpList_push2 (w0 := w) (base := w.heap.size + 1) (xs := maybeTo x m vs k) encI64 (by rfl) _ _ 36 (.int .i64 0) 8 (by rfl) Tryd.underlying36 info_i64 (by rfl) ((k : Int)) (by rfl) (by rfl) (by simp) (hO2) (by have := (hw2 : Ext w _).size; simp at this ⊢; omega) (by omega) (hw2) (by omega) (by omega) ?_)
        intro v3 w3 hO3 hb3 hg3 ho3
        have ne : ∀ b, b < w.heap.size + 1 → ¬ some b = u7.ownBlock := fun b hb e => by have := (hO2.lt b e.symm).1; omega
        go_wp2
        go_roundg (vs.length - (k + 1))
        case rel => exact ⟨k + 1, rfl, hkl, by simp, hb3, (hg3.block _ hB2.lt (ne _ (by omega))).trans hB2, by rw [hv.out]; exact hO3⟩
        case measure => omega
      | false =>
        rw [hq] at hwi
        have hv := hmiss hq
        clear hhit hmiss hq
        go_wp2
        refine wp_region_ext (by kernel_rfl) (by kernel_rfl) ?_
        repeat (first | go_big_quiet_step ((first | (go_at_call 60; with_reducible exact Calls.ext_all (fun W hE => hcall W hE)) | (go_at_call 97; with_reducible exact Calls.ext_all (fun W _ => hwi W)))) | quiet_step ((first | (go_at_call 60; with_reducible exact Calls.ext_all (fun W hE => hcall W hE)) | (go_at_call 97; with_reducible exact Calls.ext_all (fun W _ => hwi W)))))
        refine wpQuiet_nil ?_
        intro w2 hq2
        have hb2 := ext_of_class hq2
        clear hq2
        obtain ⟨hc2, hf2, hz2⟩ := bcell3 hb2
        try simp at hz2
        go_wp2
        go_roundg (vs.length - (k + 1))
        case rel => exact ⟨k + 1, rfl, hkl, by simp, hw.trans hb2, hB.ext hb2, by rw [hv.out]; exact hO.ext hb2⟩
        case measure => omega
    · obtain rfl : k = vs.length := by omega
      go_wp2
      go_ret
      exact ⟨_, rfl, hO.lower (by omega), hw⟩
set_option maxHeartbeats 1000000 in
theorem impl_holesAt (x : Mx) (hmx : mixB x = true) (vs : List ByteArray) (A : Option Addr) (cap : Nat) (ls : List Int) (B : Option Addr) (cap' : Nat) (w : World) (hR : Rd encStr w A vs) (hn : vs.length ≤ 1048576) (hok : ∀ x ∈ vs, StrIn x) (hS : Rd encI64 w B ls) (hm : ls.length ≤ 1048576) (hin : ∀ k ∈ ls, 0 ≤ k ∧ k < vs.length) :
    Calls Tryd.prog 54 #[.agg #[.int .i16 x.st, .int .i16 x.sz, .int .i16 x.per], .slice A vs.length cap, .slice B ls.length cap'] w fun e w' => e = .returned (.agg #[.int .u64 (lo (joinL (hsL x vs ls))), .int .u64 (hi (joinL (hsL x vs ls)))]) ∧ Ext w w' := by
  have hwh := fun k (h : k < vs.length) W => impl_wordHoles x hmx vs[k] (hok _ (List.getElem_mem h)) W
  have htk := fun k (h : k < ls.length) => hsL_take x vs ls k h
  have hat := fun n (h : n < vs.length) => holeAt_nat x vs n h
  have hz : joinL ((hsL x vs ls).take 0) = 0 := by rw [List.take_zero]; rfl
  have hall : joinL ((hsL x vs ls).take ls.length) = joinL (hsL x vs ls) := by rw [← hsL_len x vs ls, List.take_length]
  generalize joinL (hsL x vs ls) = r at hall
  obtain ⟨st, sz, per⟩ := x
  dsimp only at hwh
  have hx := @ExtOf.cell
  go_enter Tryd.func54, Tryd.ntmps54
  go_wp2
  go_loopg [13] ls.length (fun g i wr => ∃ k : Nat, ∃ m : Mask, g = ls.length - k ∧ k ≤ ls.length ∧ i = .int .i64 k ∧ Hd (joinL ((hsL ⟨st, sz, per⟩ vs ls).take k) = m) ∧ Ext w wr ∧ BoxAt wr (w.heap.size + 1 + 1) #[.int .u64 (lo m), .int .u64 (hi m)] 33 ∧ BoxAt wr (w.heap.size + 1) #[.int .u64 0, .int .u64 0] 33 ∧ BoxAt wr w.heap.size #[.int .i16 st, .int .i16 sz, .int .i16 per] 26)
  case atStart => exact ⟨0, 0, by omega, by omega, rfl, hd hz, by ((repeat (first | with_reducible exact Ext.refl _ | with_reducible exact hw | with_reducible exact hb9 | with_reducible exact hb8 | with_reducible exact hb7 | with_reducible exact hb6 | with_reducible exact hb5 | with_reducible exact hb4 | with_reducible exact hb3 | with_reducible exact hb2 | with_reducible exact hb1 | with_reducible refine Ext.alloc ?_ _ | with_reducible refine Ext.drew ?_ | ((with_reducible refine Ext.set ?_ ?_ _); focus (dsimp only; omega)) | with_reducible refine Ext.trans ?_ hb9 | with_reducible refine Ext.trans ?_ hb8 | with_reducible refine Ext.trans ?_ hb7 | with_reducible refine Ext.trans ?_ hb6 | with_reducible refine Ext.trans ?_ hb5 | with_reducible refine Ext.trans ?_ hb4 | with_reducible refine Ext.trans ?_ hb3 | with_reducible refine Ext.trans ?_ hb2 | with_reducible refine Ext.trans ?_ hb1 | with_reducible refine Ext.trans ?_ hw))), BoxAt.new' (by simp), (BoxAt.new' (by simp)).alloc _, ((BoxAt.new' rfl).alloc _).alloc _⟩
  case round =>
    obtain ⟨k, m, hg, hk, rfl, hm2, hw, hB, hC, hX⟩ := hrel
    have c0 : wr.cell? ⟨w.heap.size + 1 + 1, 0, none⟩ = some (.int .u64 (lo m)) := hB.cell 0
    have c1 : wr.cell? ⟨w.heap.size + 1 + 1, 1, none⟩ = some (.int .u64 (hi m)) := hB.cell 1
    have x0 : wr.cell? ⟨w.heap.size, 0, none⟩ = some (.int .i16 st) := hX.cell 0
    have x1 : wr.cell? ⟨w.heap.size, 1, none⟩ = some (.int .i16 sz) := hX.cell 1
    have x2 : wr.cell? ⟨w.heap.size, 2, none⟩ = some (.int .i16 per) := hX.cell 2
    have lB := hB.lt
    have lX := hX.lt
    by_cases hkl : k < ls.length
    · obtain ⟨b', off', hB', hlt', _⟩ := hS k hkl
      subst hB'
      have l0 := (hS.ext hw).i64 k hkl
      have lS := World.block_lt_of_cell? _ _ l0
      dsimp only at lS
      have hnext := htk k hkl
      obtain ⟨g0, g1⟩ := hin _ (List.getElem_mem hkl)
      generalize ls[k] = z at l0 hnext g0 g1
      obtain ⟨n, rfl⟩ : ∃ n : Nat, z = n := ⟨z.toNat, by omega⟩
      have hnl : n < vs.length := by omega
      rw [hat n hnl] at hnext
      obtain ⟨b, off, hA, hlt, _⟩ := hR n hnl
      subst hA
      obtain ⟨m0, m1⟩ := (hR.ext hw).strs n hnl
      have hcall := hwh n hnl
      have hnext := hd hnext
      generalize wholes ⟨st, sz, per⟩ vs[n] = q at hcall hnext
      clear hwh htk hat
      go_wp2
      refine wp_region_ext_tail 8 8 (by kernel_rfl) (by kernel_rfl) (by intro d _ _ _ _ h; cases d <;> exact h) ?_
      simp only [List.take_succ_cons, List.take_zero, List.drop_succ_cons, List.drop_zero]
      repeat (first | go_big_quiet_step ((first | (go_at_call 96; with_reducible exact Calls.ext_all (fun W _ => hcall W)) | (go_at_call 99; with_reducible exact Calls.ext_all (fun W _ => impl_JoinMasks m q W)))) | quiet_step ((first | (go_at_call 96; with_reducible exact Calls.ext_all (fun W _ => hcall W)) | (go_at_call 99; with_reducible exact Calls.ext_all (fun W _ => impl_JoinMasks m q W)))))
      refine wpQuiet_nil ?_
      intro w2 hq2
      have hb2 := ext_of_class hq2
      clear hq2
      obtain ⟨hc2, hf2, hz2⟩ := bcell3 hb2
      try simp at hz2
      have hB := hB.ext hb2
      have hC := hC.ext hb2
      have hX := hX.ext hb2
      have f0 := hB.frozen 0
      have f1 := hB.frozen 1
      have d0 : w2.cell? ⟨w.heap.size + 1 + 1, 0, none⟩ = some (.int .u64 (lo m)) := hB.cell 0
      have d1 : w2.cell? ⟨w.heap.size + 1 + 1, 1, none⟩ = some (.int .u64 (hi m)) := hB.cell 1
      have lB := hB.lt
      clear hc2 hf2 hz2
      go_wp2
      go_roundg (ls.length - (k + 1))
      case rel => exact ⟨k + 1, mjoin m q, rfl, hkl, rfl, hd (by rw [hnext.out, hm2.out]), by ((repeat (first | with_reducible exact Ext.refl _ | with_reducible exact hw | with_reducible exact hb9 | with_reducible exact hb8 | with_reducible exact hb7 | with_reducible exact hb6 | with_reducible exact hb5 | with_reducible exact hb4 | with_reducible exact hb3 | with_reducible exact hb2 | with_reducible exact hb1 | with_reducible refine Ext.alloc ?_ _ | with_reducible refine Ext.drew ?_ | ((with_reducible refine Ext.set ?_ ?_ _); focus (dsimp only; omega)) | with_reducible refine Ext.trans ?_ hb9 | with_reducible refine Ext.trans ?_ hb8 | with_reducible refine Ext.trans ?_ hb7 | with_reducible refine Ext.trans ?_ hb6 | with_reducible refine Ext.trans ?_ hb5 | with_reducible refine Ext.trans ?_ hb4 | with_reducible refine Ext.trans ?_ hb3 | with_reducible refine Ext.trans ?_ hb2 | with_reducible refine Ext.trans ?_ hb1 | with_reducible refine Ext.trans ?_ hw))), (hB.set 0 _).set 1 _, (hC.setOther (by simp) _).setOther (by simp) _, (hX.setOther (by simp; omega) _).setOther (by simp; omega) _⟩
      case measure => omega
    · obtain rfl : k = ls.length := by omega
      have hv := hm2.out.symm.trans hall
      subst hv
      have z0 := hC.frozen 0
      have z1 := hC.frozen 1
      have y0 : wr.cell? ⟨w.heap.size + 1, 0, none⟩ = some (.int .u64 0) := hC.cell 0
      have y1 : wr.cell? ⟨w.heap.size + 1, 1, none⟩ = some (.int .u64 0) := hC.cell 1
      have lC := hC.lt
      go_wp2
      refine bodyPost_ret (v := .agg #[.int .u64 (lo m), .int .u64 (hi m)]) (by simp [results, Tryd.results54, go_sem, c0, c1, y0, y1, lC, lB]) rfl ⟨rfl, ?_⟩
      (repeat (first | with_reducible exact Ext.refl _ | with_reducible exact hw | with_reducible exact hb9 | with_reducible exact hb8 | with_reducible exact hb7 | with_reducible exact hb6 | with_reducible exact hb5 | with_reducible exact hb4 | with_reducible exact hb3 | with_reducible exact hb2 | with_reducible exact hb1 | with_reducible refine Ext.alloc ?_ _ | with_reducible refine Ext.drew ?_ | ((with_reducible refine Ext.set ?_ ?_ _); focus (dsimp only; omega)) | with_reducible refine Ext.trans ?_ hb9 | with_reducible refine Ext.trans ?_ hb8 | with_reducible refine Ext.trans ?_ hb7 | with_reducible refine Ext.trans ?_ hb6 | with_reducible refine Ext.trans ?_ hb5 | with_reducible refine Ext.trans ?_ hb4 | with_reducible refine Ext.trans ?_ hb3 | with_reducible refine Ext.trans ?_ hb2 | with_reducible refine Ext.trans ?_ hb1 | with_reducible refine Ext.trans ?_ hw))
end Go.Proofs.YtegopgpnjgikeaaDoor
set_option linter.unusedVariables false
set_option linter.unusedSimpArgs false
set_option maxRecDepth 100000
namespace Go.Proofs.YtegopgpnjgikeaaDoor
open Go.RowKit
def sureTo (hs : List Mask) (T : Mask) (mb : List Int) : Nat → List Int
  | 0 => []
  | n + 1 => if meqB (joinL (hs.eraseIdx n)) T = true then sureTo hs T mb n else sureTo hs T mb n ++ [mb.getD n 0]
theorem sureTo_zero (hs : List Mask) (T : Mask) (mb : List Int) : sureTo hs T mb 0 = [] := rfl
theorem sureTo_hit {hs : List Mask} {T : Mask} {mb : List Int} {k : Nat} (hk : k < mb.length) (h : meqB (joinL (hs.eraseIdx k)) T = false) : sureTo hs T mb (k + 1) = sureTo hs T mb k ++ [mb[k]] := by
  rw [sureTo, if_neg (by rw [h]; decide), List.getD, List.getElem?_eq_getElem hk]; rfl
theorem sureTo_miss {hs : List Mask} {T : Mask} {mb : List Int} {k : Nat} (h : meqB (joinL (hs.eraseIdx k)) T = true) : sureTo hs T mb (k + 1) = sureTo hs T mb k := by rw [sureTo, if_pos h]
theorem sureTo_len (hs : List Mask) (T : Mask) (mb : List Int) : ∀ n, (sureTo hs T mb n).length ≤ n
  | 0 => Nat.le_refl _
  | n + 1 => by
    have := sureTo_len hs T mb n
    rw [sureTo]
    split
    · omega
    · rw [List.length_append, List.length_singleton]; omega
attribute [irreducible] sureTo
/-- What has to be covered. -/
def wantX (x : Mx) (m : Mask) : Mask := mmeet m (partX x)
noncomputable def mbX (x : Mx) (m : Mask) (vs : List ByteArray) : List Int := maybeTo x m vs vs.length
noncomputable def sureF (x : Mx) (m : Mask) (vs : List ByteArray) : List Int × Int :=
  if askF x [m] vs 40 = 0 then (if meqB (joinL (hsL x vs (mbX x m vs))) (wantX x m) = true then (sureTo (hsL x vs (mbX x m vs)) (wantX x m) (mbX x m vs) (mbX x m vs).length, 0) else ([], 6)) else ([], askF x [m] vs 40)
theorem sure_no {x : Mx} {m : Mask} {vs : List ByteArray} (h : ¬ askF x [m] vs 40 = 0) : sureF x m vs = ([], askF x [m] vs 40) := by unfold sureF; rw [if_neg h]
theorem sure_none {x : Mx} {m : Mask} {vs : List ByteArray} (h : askF x [m] vs 40 = 0) (h2 : meqB (joinL (hsL x vs (mbX x m vs))) (wantX x m) = false) : sureF x m vs = ([], 6) := by unfold sureF; rw [if_pos h, h2]; rfl
theorem sure_ok {x : Mx} {m : Mask} {vs : List ByteArray} (h : askF x [m] vs 40 = 0) (h2 : meqB (joinL (hsL x vs (mbX x m vs))) (wantX x m) = true) :
    sureF x m vs = (sureTo (hsL x vs (mbX x m vs)) (wantX x m) (mbX x m vs) (mbX x m vs).length, 0) := by unfold sureF; rw [if_pos h, if_pos h2]
theorem mbX_len (x : Mx) (m : Mask) (vs : List ByteArray) : (mbX x m vs).length ≤ vs.length := maybeTo_len _ _ _ _
theorem sure_len (x : Mx) (m : Mask) (vs : List ByteArray) (h : vs.length ≤ 1048576) : (sureF x m vs).1.length ≤ 1048576 := by
  unfold sureF
  split
  · split
    · exact Nat.le_trans (sureTo_len _ _ _ _) (Nat.le_trans (mbX_len x m vs) h)
    · simp
  · simp
theorem sure_inv (hs : List Mask) : ∀ {n}, n ∈ hs → True := fun _ => trivial
set_option maxHeartbeats 2000000 in
theorem impl_SureWords (x : Mx) (hxi : MxIn x) (m : Mask) (vs : List ByteArray) (A : Option Addr) (cap : Nat) (w : World) (hR : Rd encStr w A vs) (hn : vs.length ≤ 1048576) (hok : ∀ x ∈ vs, StrIn x) :
    Calls Tryd.prog 17 #[.agg #[.int .i16 x.st, .int .i16 x.sz, .int .i16 x.per], .agg #[.int .u64 (lo m), .int .u64 (hi m)], .slice A vs.length cap] w fun e w' => ∃ v, e = .returned (.tuple #[v, .int .i64 (sureF x m vs).2]) ∧ Ow encI64 2 w' w.heap.size v (sureF x m vs).1 ∧ Ext w w' := by
  have hcv := fun (W : World) (hE : Ext w W) => impl_checkVocabulary x hxi m vs A cap W (hR.ext hE) hn hok
  have hmb := fun (hq : mixB x = true) (W : World) (hE : Ext w W) => impl_maybe x hq m vs A cap W (hR.ext hE) hn hok
  have hpa := fun (hq : mixB x = true) (W : World) => impl_partX x hq W
  have hha := fun (hq : mixB x = true) (ls : List Int) (B : Option Addr) (cap' : Nat) (W : World) (hE : Ext w W) (hS : Rd encI64 W B ls) (hm : ls.length ≤ 1048576) (hin : ∀ k ∈ ls, 0 ≤ k ∧ k < vs.length) => impl_holesAt x hq vs A cap ls B cap' W (hR.ext hE) hn hok hS hm hin
  have hno := sure_no (x := x) (m := m) (vs := vs)
  have hnone := sure_none (x := x) (m := m) (vs := vs)
  have hok1 := sure_ok (x := x) (m := m) (vs := vs)
  have hz := ask_zero (x := x) (ms := [m]) (ws := vs) (most := 40)
  have hmbl := mbX_len x m vs
  have hmbi : ∀ k ∈ mbX x m vs, 0 ≤ k ∧ k < vs.length := maybeTo_in x m vs vs.length
  rw [show maybeTo x m vs vs.length = mbX x m vs from rfl] at hmb
  have hT : wantX x m = mmeet m (partX x) := rfl
  have her := fun i => hsL_erase x vs (mbX x m vs) i
  generalize mbX x m vs = mb at hmb hmbl hmbi hnone hok1 her
  generalize askF x [m] vs 40 = c at hcv hno hnone hok1 hz
  obtain ⟨st, sz, per⟩ := x
  dsimp only at hcv hmb hpa hha
  have e2 := eqA_Mask
  have hx := @ExtOf.cell
  by_cases hc : c = 0
  · subst hc
    have hmx := (hz rfl).1
    replace hmb := hmb hmx
    replace hpa := hpa hmx
    replace hha := hha hmx
    replace hnone := hnone rfl
    replace hok1 := hok1 rfl
    clear hno hz
    generalize partX ⟨st, sz, per⟩ = pm at hpa hT
    generalize wantX ⟨st, sz, per⟩ m = T at hT hnone hok1
    generalize hhs : hsL ⟨st, sz, per⟩ vs mb = hs at hnone hok1 her
    go_enter Tryd.func17, Tryd.ntmps17
    go_wp2_with fail
    refine Calls.mono (hcv _ (by ((repeat (first | with_reducible exact Ext.refl _ | with_reducible exact hw | with_reducible exact hb9 | with_reducible exact hb8 | with_reducible exact hb7 | with_reducible exact hb6 | with_reducible exact hb5 | with_reducible exact hb4 | with_reducible exact hb3 | with_reducible exact hb2 | with_reducible exact hb1 | with_reducible refine Ext.alloc ?_ _ | with_reducible refine Ext.drew ?_ | ((with_reducible refine Ext.set ?_ ?_ _); focus (dsimp only; omega)) | with_reducible refine Ext.trans ?_ hb9 | with_reducible refine Ext.trans ?_ hb8 | with_reducible refine Ext.trans ?_ hb7 | with_reducible refine Ext.trans ?_ hb6 | with_reducible refine Ext.trans ?_ hb5 | with_reducible refine Ext.trans ?_ hb4 | with_reducible refine Ext.trans ?_ hb3 | with_reducible refine Ext.trans ?_ hb2 | with_reducible refine Ext.trans ?_ hb1 | with_reducible refine Ext.trans ?_ hw))))) ?_
    rintro e w1 ⟨rfl, hb1⟩
    have hX : BoxAt w1 w.heap.size #[.int .i16 st, .int .i16 sz, .int .i16 per] 26 := ((BoxAt.new' rfl).alloc _).ext hb1
    have hM : BoxAt w1 (w.heap.size + 1) #[.int .u64 (lo m), .int .u64 (hi m)] 33 := (BoxAt.new' (by simp)).ext hb1
    have hw1 : Ext w w1 := (((Ext.refl _).alloc _).alloc _).trans hb1
    clear hb1
    have x0 : w1.cell? ⟨w.heap.size, 0, none⟩ = some (.int .i16 st) := hX.cell 0
    have x1 : w1.cell? ⟨w.heap.size, 1, none⟩ = some (.int .i16 sz) := hX.cell 1
    have x2 : w1.cell? ⟨w.heap.size, 2, none⟩ = some (.int .i16 per) := hX.cell 2
    have y0 : w1.cell? ⟨w.heap.size + 1, 0, none⟩ = some (.int .u64 (lo m)) := hM.cell 0
    have y1 : w1.cell? ⟨w.heap.size + 1, 1, none⟩ = some (.int .u64 (hi m)) := hM.cell 1
    have lX := hX.lt
    have lM := hM.lt
    go_wp2_with fail
    refine Calls.mono (hmb _ hw1) ?_
    rintro e w2 ⟨v2, rfl, hO2, hb2⟩
    obtain ⟨B, capB, rfl, hleB, hRB⟩ := hO2.slice
    have hw2 := hw1.trans hb2
    have hX := hX.ext hb2
    have hM := hM.ext hb2
    clear x0 x1 x2 y0 y1 lX lM hb2 hO2
    have x0 : w2.cell? ⟨w.heap.size, 0, none⟩ = some (.int .i16 st) := hX.cell 0
    have x1 : w2.cell? ⟨w.heap.size, 1, none⟩ = some (.int .i16 sz) := hX.cell 1
    have x2 : w2.cell? ⟨w.heap.size, 2, none⟩ = some (.int .i16 per) := hX.cell 2
    have y0 : w2.cell? ⟨w.heap.size + 1, 0, none⟩ = some (.int .u64 (lo m)) := hM.cell 0
    have y1 : w2.cell? ⟨w.heap.size + 1, 1, none⟩ = some (.int .u64 (hi m)) := hM.cell 1
    have lX := hX.lt
    have lM := hM.lt
    have hme := fun W => impl_MeetMasks m pm W
    rw [← hT] at hme
    clear hT
    go_wp2
    refine wp_region_float 4 4 10 _ #[.int .u64 0, .int .u64 0] 33 (by kernel_rfl) (by kernel_rfl) rfl rfl rfl rfl (fun _ _ => by go_simp) (by intro d _ _ _ _ h; cases d <;> exact h) ?_
    simp only [List.take_succ_cons, List.take_zero, List.drop_succ_cons, List.drop_zero]
    repeat (refine wpX_step (fun K hK => ?_); go_simp; first | (refine hK _ ?_; clear hK K) | (apply Exists.intro; refine ⟨fun x => ?_, hK _ ?_⟩; ((first | (go_at_call 53; with_reducible exact hpa _) | (go_at_call 52; with_reducible exact hme _))); clear hK K))
    refine wpX_nil ?_
    intro b5 w5 hb5 hbb5 hcb5
    obtain ⟨hc5, hf5, hz5⟩ := bcell3 hb5
    try simp at hz5
    try simp at hbb5
    have hz5_0 : w.heap.size < w5.heap.size := by omega
    have hn5_0 : ¬ (b5 = w.heap.size) := by omega
    have hz5_1 : w.heap.size + 1 < w5.heap.size := by omega
    have hn5_1 : ¬ (b5 = w.heap.size + 1) := by omega
    have hbl5 := blk_lt hcb5
    have hbf5 := blk_free hcb5
    have hbc5_0 : w5.cell? ⟨b5, 0, none⟩ = some (.int .u64 0) := blk_cell hcb5 0 rfl
    have hbc5_1 : w5.cell? ⟨b5, 1, none⟩ = some (.int .u64 0) := blk_cell hcb5 1 rfl
    have hX5 : BoxAt w5 b5 #[.int .u64 0, .int .u64 0] 33 := hcb5
    clear hcb5
    go_wp2
    refine intro_world (R := fun W => Code.wp _ _ _ _ W) (fun W6 hW6 => ?_)
    have hE6 : Ext w2 W6 := by rw [hW6]; exact Ext.set hbb5 (Ext.set hbb5 hb5 _) _
    have hT6 : BoxAt W6 b5 #[.int .u64 (lo T), .int .u64 (hi T)] 33 := by rw [hW6]; exact (hX5.set 0 _).set 1 _
    clear hW6 hb5 hc5 hf5 hz5 hz5_0 hn5_0 hz5_1 hn5_1 hbl5 hbf5 hbc5_0 hbc5_1 hX5 hM
    have hX := hX.ext hE6
    have hRB := hRB.ext hE6
    have hw6 := hw2.trans hE6
    clear x0 x1 x2 y0 y1 lX lM hE6
    have x0 : W6.cell? ⟨w.heap.size, 0, none⟩ = some (.int .i16 st) := hX.cell 0
    have x1 : W6.cell? ⟨w.heap.size, 1, none⟩ = some (.int .i16 sz) := hX.cell 1
    have x2 : W6.cell? ⟨w.heap.size, 2, none⟩ = some (.int .i16 per) := hX.cell 2
    have y0 : W6.cell? ⟨b5, 0, none⟩ = some (.int .u64 (lo T)) := hT6.cell 0
    have y1 : W6.cell? ⟨b5, 1, none⟩ = some (.int .u64 (hi T)) := hT6.cell 1
    have lX := hX.lt
    have lM := hT6.lt
    have hha6 := fun (W : World) (hE : Ext W6 W) => hha mb B capB W (hw6.trans hE) (hRB.ext hE) (by omega) hmbi
    rw [hhs] at hha6
    have e1 := lohi_meq (joinL hs) T
    cases hq : meqB (joinL hs) T with
    | false =>
      have hv := hd (hnone hq)
      rw [hq] at e1
      clear hnone hok1 hq
      refine wp_region_ext (by kernel_rfl) (by kernel_rfl) ?_
      repeat (first | go_big_quiet_step (((go_at_call 54; with_reducible exact Calls.ext_all (fun W hE => hha6 W hE)))) | quiet_step (((go_at_call 54; with_reducible exact Calls.ext_all (fun W hE => hha6 W hE)))))
      refine wpQuiet_nil ?_
      intro w7 hq7
      have hb7 := ext_of_class hq7
      clear hq7
      obtain ⟨hc7, hf7, hz7⟩ := bcell3 hb7
      try simp at hz7
      go_wp2
      refine bodyPost_ret (v := .tuple #[.slice none 0 0, .int .i64 6]) (by simp [results, Tryd.results17, go_sem]) rfl ⟨_, by rw [hv.out], by rw [hv.out]; exact Ow.nil _ _ _ _, hw6.trans hb7⟩
    | true =>
      have hv := hd (hok1 hq)
      rw [hq] at e1
      have hzero := sureTo_zero hs T mb
      have hhit0 := fun k (h : k < mb.length) => sureTo_hit (hs := hs) (T := T) h
      have hmiss0 := fun k => sureTo_miss (hs := hs) (T := T) (mb := mb) (k := k)
      have hlen := sureTo_len hs T mb
      clear hnone hok1 hq
      refine wp_region_ext (by kernel_rfl) (by kernel_rfl) ?_
      repeat (first | go_big_quiet_step (((go_at_call 54; with_reducible exact Calls.ext_all (fun W hE => hha6 W hE)))) | quiet_step (((go_at_call 54; with_reducible exact Calls.ext_all (fun W hE => hha6 W hE)))))
      refine wpQuiet_nil ?_
      intro w7 hq7
      have hb7 := ext_of_class hq7
      clear hq7
      obtain ⟨hc7, hf7, hz7⟩ := bcell3 hb7
      try simp at hz7
      have hX := hX.ext hb7
      have hT7 := hT6.ext hb7
      have hRB := hRB.ext hb7
      have hw7 := hw6.trans hb7
      clear hc7 hf7 hz7 hb7 x0 x1 x2 y0 y1 lX lM hT6 hw6 hha6 e1
      go_wp2
      go_loopg [11, 39] mb.length (fun g v i wr => ∃ k : Nat, g = mb.length - k ∧ k ≤ mb.length ∧ i = .int .i64 k ∧ Ext w7 wr ∧ Ow encI64 2 wr w7.heap.size v (sureTo hs T mb k))
      case atStart => exact ⟨0, by omega, by omega, rfl, (Ext.refl _).alloc _, by rw [hzero]; exact Ow.made0 rfl (Nat.le_refl _)⟩
      case round =>
        obtain ⟨k, hg, hk, rfl, hw, hO⟩ := hrel
        by_cases hkl : k < mb.length
        · obtain ⟨bB, oB, hB, hltB, _⟩ := hRB k hkl
          subst hB
          have l0 := (hRB.ext hw).i64 k hkl
          have lS := World.block_lt_of_cell? _ _ l0
          dsimp only at lS
          have hl := hlen k
          have hwr := hw7.trans hw
          have hhit := fun q => hd (hhit0 k hkl q)
          have hmiss := fun q => hd (hmiss0 k q)
          go_wp2_with (at_builtin; refine wpList_addAll (w0 := wr) (base := wr.heap.size) (xs := []) encI64 (by rfl) _ _ 36 (.int .i64 0) 8 (by rfl) Tryd.underlying36 info_i64 (by rfl) mb ⟨bB, oB, none⟩ capB (by rfl) (by rfl) ((hRB.ext hw).ext ((Ext.refl _).alloc _)) (Ow.made0 rfl (Nat.le_refl _)) (by simp) (Nat.le_refl _) ((Ext.refl _).alloc _) (by simp; omega) (by simp; omega) ?_)
          intro v3 w3 hO3 hb3 hg3
          go_wp2_with fail
          refine Calls.mono (slices_Delete1 mb k hkl (by omega) v3 wr.heap.size _ hO3) ?_
          rintro e w4 ⟨A4, cap4, rfl, hR4, hE4⟩
          have hb4 := hE4 wr hb3 (Nat.le_refl _)
          clear hE4 hO3 hb3 hg3 l0 lS
          have hW4 := hw.trans hb4
          have hO4 := hO.ext hb4
          have hX4 := hX.ext hW4
          have hT4 := hT7.ext hW4
          have x0 : w4.cell? ⟨w.heap.size, 0, none⟩ = some (.int .i16 st) := hX4.cell 0
          have x1 : w4.cell? ⟨w.heap.size, 1, none⟩ = some (.int .i16 sz) := hX4.cell 1
          have x2 : w4.cell? ⟨w.heap.size, 2, none⟩ = some (.int .i16 per) := hX4.cell 2
          have y0 : w4.cell? ⟨b5, 0, none⟩ = some (.int .u64 (lo T)) := hT4.cell 0
          have y1 : w4.cell? ⟨b5, 1, none⟩ = some (.int .u64 (hi T)) := hT4.cell 1
          have lX := hX4.lt
          have lM := hT4.lt
          have hha4 := fun (W : World) (hE : Ext w4 W) => hha (mb.eraseIdx k) A4 cap4 W ((hw7.trans hW4).trans hE) (hR4.ext hE) (by rw [List.length_eraseIdx_of_lt hkl]; omega) (fun z hz => hmbi z (List.mem_of_mem_eraseIdx hz))
          rw [her k] at hha4
          have e1 := lohi_meq (joinL (hs.eraseIdx k)) T
          have l1 := (hRB.ext hW4).i64 k hkl
          clear hO
          cases hq : meqB (joinL (hs.eraseIdx k)) T with
          | false =>
            have hv1 := hhit hq
            rw [hq] at e1
            clear hhit hmiss hq
            generalize joinL (hs.eraseIdx k) = js at e1 hha4
            go_wp2
            refine wp_region_ext (by kernel_rfl) (by kernel_rfl) ?_
            repeat (first | go_big_quiet_step (((go_at_call 54; with_reducible exact Calls.ext_all (fun W hE => hha4 W hE)))) | quiet_step (((go_at_call 54; with_reducible exact Calls.ext_all (fun W hE => hha4 W hE)))))
            refine wpQuiet_nil ?_
            intro w9 hq9
            have hb9 := ext_of_class hq9
            clear hq9
            obtain ⟨hc9, hf9, hz9⟩ := bcell3 hb9
            try simp at hz9
            have hO9 := hO4.ext hb9
            have hW9 := hW4.trans hb9
            clear hc9 hf9 hz9 hb9 x0 x1 x2 y0 y1 lX lM
            go_wp2_with (at_builtin; refine wpList_push2 (w0 := w7) (base := w7.heap.size) (xs := sureTo hs T mb k) encI64 (by rfl) _ _ 36 (.int .i64 0) 8 (by rfl) Tryd.underlying36 info_i64 (by rfl) (mb[k]) (by rfl) (by rfl) (by simp) (hO9) ((hW9 : Ext w7 _).size) (Nat.le_refl _) (hW9) (by omega) (by omega) ?_)
            intro v10 w10 hO10 hb10 hg10 _
            go_wp2
            go_roundg (mb.length - (k + 1))
            case rel => exact ⟨k + 1, rfl, hkl, by simp, hb10, by rw [hv1.out]; exact hO10⟩
            case measure => omega
          | true =>
            have hv1 := hmiss hq
            rw [hq] at e1
            clear hhit hmiss hq
            generalize joinL (hs.eraseIdx k) = js at e1 hha4
            go_wp2
            refine wp_region_ext (by kernel_rfl) (by kernel_rfl) ?_
            repeat (first | go_big_quiet_step (((go_at_call 54; with_reducible exact Calls.ext_all (fun W hE => hha4 W hE)))) | quiet_step (((go_at_call 54; with_reducible exact Calls.ext_all (fun W hE => hha4 W hE)))))
            refine wpQuiet_nil ?_
            intro w9 hq9
            have hb9 := ext_of_class hq9
            clear hq9
            obtain ⟨hc9, hf9, hz9⟩ := bcell3 hb9
            try simp at hz9
            go_wp2
            go_roundg (mb.length - (k + 1))
            case rel => exact ⟨k + 1, rfl, hkl, by simp, hW4.trans hb9, by rw [hv1.out]; exact hO4.ext hb9⟩
            case measure => omega
        · obtain rfl : k = mb.length := by omega
          go_wp2
          refine bodyPost_ret (v := .tuple #[_, .int .i64 0]) (by simp [results, Tryd.results17, go_sem]; rfl) rfl ⟨_, by rw [hv.out], by rw [hv.out]; exact hO.lower hw7.size, hw7.trans hw⟩
  · have hv := hd (hno hc)
    have hcb : (c != 0) = true := by simp [hc]
    clear hno hz hnone hok1
    go_enter Tryd.func17, Tryd.ntmps17
    go_wp2_with fail
    refine Calls.mono (hcv _ (by ((repeat (first | with_reducible exact Ext.refl _ | with_reducible exact hw | with_reducible exact hb9 | with_reducible exact hb8 | with_reducible exact hb7 | with_reducible exact hb6 | with_reducible exact hb5 | with_reducible exact hb4 | with_reducible exact hb3 | with_reducible exact hb2 | with_reducible exact hb1 | with_reducible refine Ext.alloc ?_ _ | with_reducible refine Ext.drew ?_ | ((with_reducible refine Ext.set ?_ ?_ _); focus (dsimp only; omega)) | with_reducible refine Ext.trans ?_ hb9 | with_reducible refine Ext.trans ?_ hb8 | with_reducible refine Ext.trans ?_ hb7 | with_reducible refine Ext.trans ?_ hb6 | with_reducible refine Ext.trans ?_ hb5 | with_reducible refine Ext.trans ?_ hb4 | with_reducible refine Ext.trans ?_ hb3 | with_reducible refine Ext.trans ?_ hb2 | with_reducible refine Ext.trans ?_ hb1 | with_reducible refine Ext.trans ?_ hw))))) ?_
    rintro e w1 ⟨rfl, hb1⟩
    have hw1 : Ext w w1 := (((Ext.refl _).alloc _).alloc _).trans hb1
    go_wp2
    refine bodyPost_ret (v := .tuple #[.slice none 0 0, .int .i64 c]) (by simp [results, Tryd.results17, go_sem]) rfl ⟨_, by rw [hv.out], by rw [hv.out]; exact Ow.nil _ _ _ _, hw1⟩
end Go.Proofs.YtegopgpnjgikeaaDoor
set_option linter.unusedVariables false
set_option linter.unusedSimpArgs false
set_option maxRecDepth 100000
namespace Go.Proofs.YtegopgpnjgikeaaDoor
open Go.RowKit
set_option maxHeartbeats 2000000 in
theorem spec_l03Begin (x : Mx) (hmx : mixB x = true) (m : Mask) (vs : List ByteArray) (A : Option Addr) (cap : Nat) (ls : List Int) (B : Option Addr) (cap' : Nat) (b0 o0 : Nat) (w : World) (hMx : MixAt w b0 o0 x) (hR : Rd encStr w A vs) (hn : vs.length ≤ 1048576) (hok : ∀ x ∈ vs, StrIn x) (hS : Rd encI64 w B ls) (hm : ls.length ≤ 1048576) (hin : ∀ k ∈ ls, 0 ≤ k ∧ k < vs.length) :
    Calls Tryd.prog 57 #[.pointer (some ⟨b0, o0, none⟩), .agg #[.int .u64 (lo m), .int .u64 (hi m)], .slice A vs.length cap, .slice B ls.length cap'] w fun e w' => ∃ b v, e = .returned (.tuple #[.pointer (some ⟨b, 0, none⟩), .bool (meqB (joinL (hsL x vs ls)) (wantX x m))]) ∧ BoxAt w' b #[v, .int .u64 (lo (wantX x m)), .int .u64 (hi (wantX x m)), .int .i64 0, .bool false] 91 ∧ Ow encMask 33 w' w.heap.size v (hsL x vs ls) ∧ v.ownBlock ≠ some b ∧ w.heap.size ≤ b ∧ Ext w w' := by
  have hwh := fun k (h : k < vs.length) (W : World) (hE : Ext w W) => spec_l03Holes x hmx vs[k] (hok _ (List.getElem_mem h)) b0 o0 W (hMx.ext hE)
  have htk := fun k (h : k < ls.length) => hsL_take x vs ls k h
  have hsn := fun k (h : k < ls.length) => hsL_snoc x vs ls k h
  have hat := fun n (h : n < vs.length) => holeAt_nat x vs n h
  have hz : joinL ((hsL x vs ls).take 0) = 0 := by rw [List.take_zero]; rfl
  have hz2 : hsL x vs (ls.take 0) = [] := by rw [List.take_zero]; rfl
  have hlt := fun k => (by have := hsL_len x vs (ls.take k); rw [List.length_take] at this; omega : (hsL x vs (ls.take k)).length ≤ k)
  have hall2 : hsL x vs (ls.take ls.length) = hsL x vs ls := by rw [List.take_length]
  have hall : joinL ((hsL x vs ls).take ls.length) = joinL (hsL x vs ls) := by rw [← hsL_len x vs ls, List.take_length]
  have hpa := fun (W : World) (hE : Ext w W) => spec_l03Part x hmx b0 o0 W (hMx.ext hE)
  have hme := fun W => spec_MeetMasks m (partX x) W
  rw [show mmeet m (partX x) = wantX x m from rfl] at hme
  generalize wantX x m = T at hme
  generalize partX x = pm at hpa hme
  generalize hjl : joinL (hsL x vs ls) = r at hall
  have e2 := eqA_Mask
  have e1 := lohi_meq r T
  have hE0 : Ext w (w.alloc (.cells #[.int .u64 (lo m), .int .u64 (hi m)] 33)) := (Ext.refl _).alloc _
  have hx := @ExtOf.cell
  go_enter Tryd.func57, Tryd.ntmps57
  go_wp2
  refine wp_region_ext_tail 4 4 (by kernel_rfl) (by kernel_rfl) (by intro d _ _ _ _ h; cases d <;> exact h) ?_
  simp only [List.take_succ_cons, List.take_zero, List.drop_succ_cons, List.drop_zero]
  repeat (first | go_big_quiet_step ((first | (go_at_call 100; with_reducible exact Calls.ext_all (fun W hE => hpa W (hE0.trans hE))) | (go_at_call 34; with_reducible exact Calls.ext_all (fun W _ => hme W)))) | quiet_step ((first | (go_at_call 100; with_reducible exact Calls.ext_all (fun W hE => hpa W (hE0.trans hE))) | (go_at_call 34; with_reducible exact Calls.ext_all (fun W _ => hme W)))))
  refine wpQuiet_nil ?_
  intro w1 hq1
  have hb1 := ext_of_class hq1
  clear hq1
  obtain ⟨hc1, hf1, hz1⟩ := bcell3 hb1
  try simp at hz1
  have hz1_0 : w.heap.size < w1.heap.size := by omega
  have hw1 := hE0.trans hb1
  have sz1 : w.heap.size < w1.heap.size := hz1_0
  clear hc1 hf1 hz1 hz1_0 hb1 hE0 hpa hme
  go_wp2
  go_loopg [12] ls.length (fun g i wr => ∃ k : Nat, ∃ a : Mask, ∃ v : Value, g = ls.length - k ∧ k ≤ ls.length ∧ i = .int .i64 k ∧ Hd (joinL ((hsL x vs ls).take k) = a) ∧ Ext w1 wr ∧ BoxAt wr w1.heap.size #[v, .int .u64 (lo T), .int .u64 (hi T), .int .i64 0, .bool false] 91 ∧ BoxAt wr (w1.heap.size + 1) #[.int .u64 (lo a), .int .u64 (hi a)] 33 ∧ Ow encMask 33 wr (w1.heap.size + 1 + 1) v (hsL x vs (ls.take k)))
  case atStart => exact ⟨0, 0, .slice none 0 0, by omega, by omega, rfl, hd hz, by ((repeat (first | with_reducible exact Ext.refl _ | with_reducible exact hw | with_reducible exact hb9 | with_reducible exact hb8 | with_reducible exact hb7 | with_reducible exact hb6 | with_reducible exact hb5 | with_reducible exact hb4 | with_reducible exact hb3 | with_reducible exact hb2 | with_reducible exact hb1 | with_reducible refine Ext.alloc ?_ _ | with_reducible refine Ext.drew ?_ | ((with_reducible refine Ext.set ?_ ?_ _); focus (dsimp only; omega)) | with_reducible refine Ext.trans ?_ hb9 | with_reducible refine Ext.trans ?_ hb8 | with_reducible refine Ext.trans ?_ hb7 | with_reducible refine Ext.trans ?_ hb6 | with_reducible refine Ext.trans ?_ hb5 | with_reducible refine Ext.trans ?_ hb4 | with_reducible refine Ext.trans ?_ hb3 | with_reducible refine Ext.trans ?_ hb2 | with_reducible refine Ext.trans ?_ hb1 | with_reducible refine Ext.trans ?_ hw))), (BoxAt.new' rfl).alloc _, BoxAt.new' (by simp), by rw [hz2]; exact Ow.nil _ _ _ _⟩
  case round =>
    obtain ⟨k, a, v, hg, hk, rfl, ha, hw, hC, hB, hO⟩ := hrel
    have c0 : wr.cell? ⟨w1.heap.size, 0, none⟩ = some v := hC.cell 0
    have c1 : wr.cell? ⟨w1.heap.size, 1, none⟩ = some (.int .u64 (lo T)) := hC.cell 1
    have c2 : wr.cell? ⟨w1.heap.size, 2, none⟩ = some (.int .u64 (hi T)) := hC.cell 2
    have d0 : wr.cell? ⟨w1.heap.size + 1, 0, none⟩ = some (.int .u64 (lo a)) := hB.cell 0
    have d1 : wr.cell? ⟨w1.heap.size + 1, 1, none⟩ = some (.int .u64 (hi a)) := hB.cell 1
    have lC := hC.lt
    have lB := hB.lt
    have hwr := hw1.trans hw
    by_cases hkl : k < ls.length
    · obtain ⟨b', off', hB', hlt', _⟩ := hS k hkl
      subst hB'
      have l0 := (hS.ext hwr).i64 k hkl
      have lS := World.block_lt_of_cell? _ _ l0
      dsimp only at lS
      have hnext := htk k hkl
      have hsnoc := hsn k hkl
      obtain ⟨g0, g1⟩ := hin _ (List.getElem_mem hkl)
      generalize ls[k] = z at l0 hnext hsnoc g0 g1
      obtain ⟨n, rfl⟩ : ∃ n : Nat, z = n := ⟨z.toNat, by omega⟩
      have hnl : n < vs.length := by omega
      rw [hat n hnl] at hnext hsnoc
      obtain ⟨b, off, hA, hltA, _⟩ := hR n hnl
      subst hA
      obtain ⟨m0, m1⟩ := (hR.ext hwr).strs n hnl
      have hcall := hwh n hnl
      have hl3 := hlt k
      have hnext := hd hnext
      have hsnoc := hd hsnoc
      generalize wholes x vs[n] = q at hcall hnext hsnoc
      generalize hsL x vs (ls.take k) = ys at hO hsnoc hl3
      clear hwh htk hat hsn hlt c0 c1 c2 d0 d1
      go_wp2_with fail
      refine Calls.mono (hcall _ hwr) ?_
      rintro e w2 ⟨rfl, hb2⟩
      have hC := hC.ext hb2
      have hB := hB.ext hb2
      have hOld := hO
      have hO := hO.ext hb2
      have hw2 := hw.trans hb2
      have hs2 := hw2.size
      have sw2 := hB.lt
      have hvb : ∀ b, v.ownBlock = some b → w1.heap.size + 1 + 1 ≤ b ∧ b < w2.heap.size := fun b hb => hO.lt b hb
      clear hb2 hOld m0 m1 l0 lS lC lB hcall
      go_wp2
      refine wp_region_any (by kernel_rfl) ?_
      change wpAny _ _ _ _ _ _ _ (World.drew _)
      refine intro_world (fun WD hWD => ?_)
      have hH : BoxAt WD w2.heap.size #[.int .u64 (lo q), .int .u64 (hi q)] 33 := by rw [hWD]; exact BoxAt.new' rfl
      have eD : Ext w2 WD := by rw [hWD]; exact ((Ext.refl _).alloc _).drew
      have sD : w2.heap.size < WD.heap.size := hH.lt
      clear hWD
      have hC := hC.ext eD
      have hB := hB.ext eD
      have hO := hO.ext eD
      have hw3 := hw2.trans eD
      clear eD
      have c0 : WD.cell? ⟨w1.heap.size, 0, none⟩ = some v := hC.cell 0
      have h0 : WD.cell? ⟨w2.heap.size, 0, none⟩ = some (.int .u64 (lo q)) := hH.cell 0
      have h1 : WD.cell? ⟨w2.heap.size, 1, none⟩ = some (.int .u64 (hi q)) := hH.cell 1
      have lC := hC.lt
      refine wpAny_take (i := 0) (v := ?_) rfl (by kernel_rfl) (by kernel_rfl) (by kernel_rfl) (fun _ _ _ h => h) (Or.inl ⟨by rfl, ?_⟩) ?_
      rotate_left
      · (intro W9; go_simp; try with_reducible rfl)
      refine wpAny_take (i := 1) (v := ?_) rfl (by kernel_rfl) (by kernel_rfl) (by kernel_rfl) (fun _ _ _ h => h) (Or.inl ⟨by rfl, ?_⟩) ?_
      rotate_left
      · (intro W9; go_simp; try with_reducible rfl)
      refine wpAny_take (i := 2) (v := ?_) rfl (by kernel_rfl) (by kernel_rfl) (by kernel_rfl) (fun _ _ _ h => h) (Or.inl ⟨by rfl, ?_⟩) ?_
      rotate_left
      · (intro W9; go_simp; try with_reducible rfl)
      refine wpAny_take (i := 3) (v := ?_) rfl (by kernel_rfl) (by kernel_rfl) (by kernel_rfl) (fun _ _ _ h => h) (Or.inl ⟨by rfl, ?_⟩) ?_
      rotate_left
      · (intro W9; go_simp; try with_reducible rfl)
      apply Conv.conv (C := fun W => W = WD.alloc (.cells #[.int .u64 (lo q), .int .u64 (hi q)] 33))
      case h =>
        intro hkC
        refine wpAny_ready (rs := [4, 5]) (by kernel_rfl) (by simp) ?_
        refine AllReady.cons rfl (fun K hK => ?_) (AllReady.cons rfl (fun K hK => ?_) (AllReady.nil))
        · go_simp
          refine hK _ _ ?_
          clear hK K
          refine wpAny_ready (rs := [5]) (by kernel_rfl) (by simp) ?_
          refine AllReady.cons rfl (fun K hK => ?_) (AllReady.nil)
          · go_simp
            refine hK _ _ ?_
            clear hK K
            refine wpAny_ready (rs := [6]) (by kernel_rfl) (by simp) ?_
            refine AllReady.cons rfl (fun K hK => ?_) (AllReady.nil)
            · go_simp
              refine hK _ _ ?_
              clear hK K
              exact hkC _ (rfl)
        · go_simp
          refine hK _ _ ?_
          clear hK K
          refine wpAny_ready (rs := [4, 6]) (by kernel_rfl) (by simp) ?_
          refine AllReady.cons rfl (fun K hK => ?_) (AllReady.cons rfl (fun K hK => ?_) (AllReady.nil))
          · go_simp
            refine hK _ _ ?_
            clear hK K
            refine wpAny_ready (rs := [6]) (by kernel_rfl) (by simp) ?_
            refine AllReady.cons rfl (fun K hK => ?_) (AllReady.nil)
            · go_simp
              refine hK _ _ ?_
              clear hK K
              exact hkC _ (rfl)
          · go_simp
            refine hK _ _ ?_
            clear hK K
            refine wpAny_ready (rs := [4]) (by kernel_rfl) (by simp) ?_
            refine AllReady.cons rfl (fun K hK => ?_) (AllReady.nil)
            · go_simp
              refine hK _ _ ?_
              clear hK K
              exact hkC _ (rfl)
      intro W5 hW5
      have e5 : Ext WD W5 := by rw [hW5]; exact (Ext.refl _).alloc _
      have hL : Rd encMask W5 (some ⟨WD.heap.size, 0, none⟩) [q] := by rw [hW5]; exact Rd.lit encMask _ [q] _ _ (by simp) rfl
      clear hW5 c0 h0 h1 lC
      have hC := hC.ext e5
      have hB := hB.ext e5
      have hH := hH.ext e5
      have hO := hO.ext e5
      have hw5 := hw3.trans e5
      have hs5 := hw5.size
      clear e5
      refine wpAny_ready (rs := [7]) (by kernel_rfl) (by simp) ?_
      refine AllReady.cons rfl (fun K hK => ?_) ?_
      rotate_left
      · exact AllReady.nil
      refine step_addAll (w0 := w1) (base := w1.heap.size + 1 + 1) encMask (by rfl) _ _ 75 (.agg #[.int .u64 0, .int .u64 0]) 16 (by rfl) Tryd.underlying75 info_Mask (by rfl) [q] ⟨WD.heap.size, 0, none⟩ 1 (by rfl) (by rfl) hL hO (by have := hB.lt; omega) (by omega) hw5 (by simp; omega) (by simp; omega) ?_
      intro v6 W6 hO6 hE6 hg6 ho6
      refine hK _ _ ?_
      clear hK K hL
      have hC6 : BoxAt W6 w1.heap.size #[v, .int .u64 (lo T), .int .u64 (hi T), .int .i64 0, .bool false] 91 := (hg6.block _ hC.lt (fun e => by have := (hvb _ e.symm).1; omega)).trans hC
      have hB6 : BoxAt W6 (w1.heap.size + 1) #[.int .u64 (lo a), .int .u64 (hi a)] 33 := (hg6.block _ hB.lt (fun e => by have := (hvb _ e.symm).1; omega)).trans hB
      have hH6 : BoxAt W6 w2.heap.size #[.int .u64 (lo q), .int .u64 (hi q)] 33 := (hg6.block _ hH.lt (fun e => by have := (hvb _ e.symm).2; omega)).trans hH
      obtain ⟨A6, c6, rfl, _, _⟩ := hO6.slice
      rw [List.length_append, List.length_singleton] at hO6
      have hne6 : (Value.slice A6 (ys.length + 1) c6).ownBlock ≠ some w1.heap.size := fun e => by have := (hO6.lt _ e).1; omega
      have f0 := hC6.frozen 0
      have c0 : W6.cell? ⟨w1.heap.size, 0, none⟩ = some v := hC6.cell 0
      have lC := hC6.lt
      clear hC hB hH hO hg6
      refine wpAny_take (i := 8) (v := ?_) rfl (by kernel_rfl) (by kernel_rfl) (by kernel_rfl) (fun _ _ _ h => h) (Or.inl ⟨by rfl, ?_⟩) ?_
      rotate_left
      · (intro W9; go_simp; try with_reducible rfl)
      refine wpAny_take (i := 9) (v := ?_) rfl (by kernel_rfl) (by kernel_rfl) (by kernel_rfl) (fun _ _ _ h => h) (Or.inl ⟨by rfl, ?_⟩) ?_
      rotate_left
      · (intro W9; go_simp; try with_reducible rfl)
      refine wpAny_ready (rs := [10]) (by kernel_rfl) (by simp) ?_
      refine AllReady.cons rfl (fun K hK => ?_) ?_
      rotate_left
      · exact AllReady.nil
      go_simp
      refine hK _ _ ?_
      clear hK K
      refine wpAny_done (by kernel_rfl) ?_ _
      refine intro_world (fun W7 hW7 => ?_)
      have hC7 : BoxAt W7 w1.heap.size #[(.slice A6 (ys.length + 1) c6), .int .u64 (lo T), .int .u64 (hi T), .int .i64 0, .bool false] 91 := by rw [hW7]; exact hC6.set 0 _
      have hB7 : BoxAt W7 (w1.heap.size + 1) #[.int .u64 (lo a), .int .u64 (hi a)] 33 := by rw [hW7]; exact hB6.setOther (by simp) _
      have hH7 : BoxAt W7 w2.heap.size #[.int .u64 (lo q), .int .u64 (hi q)] 33 := by rw [hW7]; exact hH6.setOther (by simp; omega) _
      have hO7 : Ow encMask 33 W7 (w1.heap.size + 1 + 1) (.slice A6 (ys.length + 1) c6) (ys ++ [q]) := by rw [hW7]; exact hO6.far hne6 _
      have hw7 : Ext w1 W7 := by rw [hW7]; exact Ext.set (Nat.le_refl _) hE6 _
      clear hW7 hC6 hB6 hH6 hO6 hE6 f0 c0 lC
      have d0 : W7.cell? ⟨w1.heap.size + 1, 0, none⟩ = some (.int .u64 (lo a)) := hB7.cell 0
      have d1 : W7.cell? ⟨w1.heap.size + 1, 1, none⟩ = some (.int .u64 (hi a)) := hB7.cell 1
      have h0 : W7.cell? ⟨w2.heap.size, 0, none⟩ = some (.int .u64 (lo q)) := hH7.cell 0
      have h1 : W7.cell? ⟨w2.heap.size, 1, none⟩ = some (.int .u64 (hi q)) := hH7.cell 1
      have lB := hB7.lt
      have lH := hH7.lt
      go_wp2_with fail
      refine Calls.mono (spec_JoinMasks a q _) ?_
      rintro e w8 ⟨rfl, hb8⟩
      have hB8 := hB7.ext hb8
      have f0 := hB8.frozen 0
      have f1 := hB8.frozen 1
      have hC8 := hC7.ext hb8
      have hO8 := hO7.ext hb8
      have hw8 := hw7.trans hb8
      have d0 : w8.cell? ⟨w1.heap.size + 1, 0, none⟩ = some (.int .u64 (lo a)) := hB8.cell 0
      have d1 : w8.cell? ⟨w1.heap.size + 1, 1, none⟩ = some (.int .u64 (hi a)) := hB8.cell 1
      have lB := hB8.lt
      clear hb8 hB7 hC7 hO7 hw7
      have hne8 : (Value.slice A6 (ys.length + 1) c6).ownBlock ≠ some (w1.heap.size + 1) := fun e => by have := (hO8.lt _ e).1; omega
      go_wp2
      go_roundg (ls.length - (k + 1))
      case rel => exact ⟨k + 1, mjoin a q, (.slice A6 (ys.length + 1) c6), rfl, hkl, rfl, hd (by rw [hnext.out, ha.out]), Ext.set (by dsimp only; omega) (Ext.set (by dsimp only; omega) hw8 _) _, (hC8.setOther (by simp) _).setOther (by simp) _, (hB8.set 0 _).set 1 _, by rw [hsnoc.out]; exact (hO8.far hne8 _).far hne8 _⟩
      case measure => omega
    · obtain rfl : k = ls.length := by omega
      have hv := ha.out.symm.trans hall
      subst hv
      rw [hall2] at hO
      have hne : v.ownBlock ≠ some w1.heap.size := fun e => by have := (hO.lt _ e).1; omega
      go_wp2
      refine wp_region_ext (by kernel_rfl) (by kernel_rfl) ?_
      repeat (first | go_big_quiet_step (fail) | quiet_step (fail))
      refine wpQuiet_nil ?_
      intro w9 hq9
      have hb9 := ext_of_class hq9
      clear hq9
      obtain ⟨hc9, hf9, hz9⟩ := bcell3 hb9
      try simp at hz9
      go_wp2
      refine bodyPost_ret (v := .tuple #[.pointer (some ⟨w1.heap.size, 0, none⟩), .bool (meqB a T)]) (by simp [results, Tryd.results57, go_sem]) rfl ⟨w1.heap.size, v, rfl, hC.ext hb9, (hO.ext hb9).lower (by omega), hne, by omega, hwr.trans hb9⟩
theorem rest_skip (hs : List Mask) (i : Nat) : restTo hs i (i + 1) = restTo hs i i := by rw [restTo, if_pos rfl]
theorem rest_next (hs : List Mask) (i k : Nat) (h : ¬ k = i) (hk : k < hs.length) : restTo hs i (k + 1) = mjoin (restTo hs i k) hs[k] := by rw [restTo, if_neg h, getD_at hs k hk]
set_option maxHeartbeats 2000000 in
theorem spec_SureWords (x : Mx) (hxi : MxIn x) (m : Mask) (vs : List ByteArray) (A : Option Addr) (cap : Nat) (w : World) (hR : Rd encStr w A vs) (hn : vs.length ≤ 1048576) (hok : ∀ x ∈ vs, StrIn x) :
    Calls Tryd.prog 18 #[.agg #[.int .i16 x.st, .int .i16 x.sz, .int .i16 x.per], .agg #[.int .u64 (lo m), .int .u64 (hi m)], .slice A vs.length cap] w fun e w' => ∃ v, e = .returned (.tuple #[v, .int .i64 (sureF x m vs).2]) ∧ Ow encI64 2 w' w.heap.size v (sureF x m vs).1 ∧ Ext w w' := by
  have hM0 : ∀ W, BoxAt W w.heap.size #[.int .i16 x.st, .int .i16 x.sz, .int .i16 x.per] 26 → MixAt W w.heap.size 0 x := fun W h => ⟨h.cell 0, h.cell 1, h.cell 2⟩
  have hask := fun (B : Option Addr) (W : World) (h : MixAt W w.heap.size 0 x) (hE : Ext w W) (hS : Rd encMask W B [m]) => spec_l03Asked x hxi w.heap.size 0 [m] B 1 vs A cap 40 W h hS (by simp) (hR.ext hE) hn hok
  have hmb := fun (hq : mixB x = true) (W : World) (h : MixAt W w.heap.size 0 x) (hE : Ext w W) => spec_l03Maybe x hq m vs A cap w.heap.size 0 W h (hR.ext hE) hn hok
  have hbg := fun (hq : mixB x = true) (B : Option Addr) (cap' : Nat) (W : World) (h : MixAt W w.heap.size 0 x) (hE : Ext w W) (hS : Rd encI64 W B (mbX x m vs)) (hm : (mbX x m vs).length ≤ 1048576) (hin : ∀ k ∈ mbX x m vs, 0 ≤ k ∧ k < vs.length) => spec_l03Begin x hq m vs A cap (mbX x m vs) B cap' w.heap.size 0 W h (hR.ext hE) hn hok hS hm hin
  have hno := sure_no (x := x) (m := m) (vs := vs)
  have hnone := sure_none (x := x) (m := m) (vs := vs)
  have hok1 := sure_ok (x := x) (m := m) (vs := vs)
  have hz := ask_zero (x := x) (ms := [m]) (ws := vs) (most := 40)
  have hmbl := mbX_len x m vs
  have hmbi : ∀ k ∈ mbX x m vs, 0 ≤ k ∧ k < vs.length := maybeTo_in x m vs vs.length
  rw [show maybeTo x m vs vs.length = mbX x m vs from rfl] at hmb
  have hhl : (hsL x vs (mbX x m vs)).length = (mbX x m vs).length := hsL_len _ _ _
  generalize mbX x m vs = mb at hmb hmbl hmbi hnone hok1 hbg hhl
  generalize askF x [m] vs 40 = c at hask hno hnone hok1 hz
  have e2 := eqA_Mask
  have hx := @ExtOf.cell
  by_cases hc : c = 0
  · subst hc
    have hmx := (hz rfl).1
    replace hmb := hmb hmx
    replace hbg := hbg hmx
    replace hnone := hnone rfl
    replace hok1 := hok1 rfl
    clear hno hz
    generalize wantX x m = T at hbg hnone hok1
    generalize hsL x vs mb = hs at hbg hnone hok1 hhl
    go_enter Tryd.func18, Tryd.ntmps18
    go_wp2_with fail
    refine Calls.mono (hask (some ⟨w.heap.size + 1 + 1, 0, none⟩) _ (hM0 _ (((BoxAt.new' rfl).alloc _).alloc _)) (by ((repeat (first | with_reducible exact Ext.refl _ | with_reducible exact hw | with_reducible exact hb9 | with_reducible exact hb8 | with_reducible exact hb7 | with_reducible exact hb6 | with_reducible exact hb5 | with_reducible exact hb4 | with_reducible exact hb3 | with_reducible exact hb2 | with_reducible exact hb1 | with_reducible refine Ext.alloc ?_ _ | with_reducible refine Ext.drew ?_ | ((with_reducible refine Ext.set ?_ ?_ _); focus (dsimp only; omega)) | with_reducible refine Ext.trans ?_ hb9 | with_reducible refine Ext.trans ?_ hb8 | with_reducible refine Ext.trans ?_ hb7 | with_reducible refine Ext.trans ?_ hb6 | with_reducible refine Ext.trans ?_ hb5 | with_reducible refine Ext.trans ?_ hb4 | with_reducible refine Ext.trans ?_ hb3 | with_reducible refine Ext.trans ?_ hb2 | with_reducible refine Ext.trans ?_ hb1 | with_reducible refine Ext.trans ?_ hw)))) (by simpa using Rd.lit encMask ((w.alloc (.cells #[.int .i16 x.st, .int .i16 x.sz, .int .i16 x.per] 26)).alloc (.cells #[.int .u64 (lo m), .int .u64 (hi m)] 33)) [m] #[.int .u64 (lo m), .int .u64 (hi m)] 33 (by simp) rfl)) ?_
    rintro e w1 ⟨rfl, hb1⟩
    have hX : BoxAt w1 w.heap.size #[.int .i16 x.st, .int .i16 x.sz, .int .i16 x.per] 26 := (((BoxAt.new' rfl).alloc _).alloc _).ext hb1
    have hM : BoxAt w1 (w.heap.size + 1) #[.int .u64 (lo m), .int .u64 (hi m)] 33 := ((BoxAt.new' (by simp)).alloc _).ext hb1
    have hw1 : Ext w w1 := ((((Ext.refl _).alloc _).alloc _).alloc _).trans hb1
    clear hb1
    have y0 : w1.cell? ⟨w.heap.size + 1, 0, none⟩ = some (.int .u64 (lo m)) := hM.cell 0
    have y1 : w1.cell? ⟨w.heap.size + 1, 1, none⟩ = some (.int .u64 (hi m)) := hM.cell 1
    have lM := hM.lt
    go_wp2_with fail
    refine Calls.mono (hmb _ (hM0 _ hX) hw1) ?_
    rintro e w2 ⟨v2, rfl, hO2, hb2⟩
    obtain ⟨B, capB, rfl, hleB, hRB⟩ := hO2.slice
    have hw2 := hw1.trans hb2
    have hX := hX.ext hb2
    have hM := hM.ext hb2
    clear y0 y1 lM hb2 hO2
    have y0 : w2.cell? ⟨w.heap.size + 1, 0, none⟩ = some (.int .u64 (lo m)) := hM.cell 0
    have y1 : w2.cell? ⟨w.heap.size + 1, 1, none⟩ = some (.int .u64 (hi m)) := hM.cell 1
    have lM := hM.lt
    go_wp2_with fail
    refine Calls.mono (hbg B capB _ (hM0 _ hX) hw2 hRB (by omega) hmbi) ?_
    rintro e w3 ⟨b3, v3, rfl, hC3, hO3, hne3, hb3l, hb3⟩
    have hw3 := hw2.trans hb3
    have hRB := hRB.ext hb3
    clear y0 y1 lM hb3 hM hX hM0 hask hmb hbg
    cases hq : meqB (joinL hs) T with
    | false =>
      have hv := hd (hnone hq)
      clear hnone hok1 hq
      go_wp2
      refine bodyPost_ret (v := .tuple #[.slice (some ⟨w3.heap.size, 0, none⟩) 0 0, .int .i64 6]) (by simp [results, Tryd.results18, go_sem]) rfl ⟨_, by rw [hv.out], by rw [hv.out]; exact Ow.made0 rfl hw3.size, hw3.alloc _⟩
    | true =>
      have hv := hd (hok1 hq)
      have hzero := sureTo_zero hs T mb
      have hhit0 := fun k (h : k < mb.length) => sureTo_hit (hs := hs) (T := T) h
      have hmiss0 := fun k => sureTo_miss (hs := hs) (T := T) (mb := mb) (k := k)
      have hlen := sureTo_len hs T mb
      have hrest := restTo_all hs
      rw [hhl] at hrest
      clear hnone hok1 hq
      obtain ⟨AH, capH, rfl, hleH, hRH⟩ := hO3.slice
      clear hO3 hne3
      rw [hhl] at hC3
      go_wp2
      go_loopg [12, 13] mb.length (fun g v i wr => ∃ k : Nat, g = mb.length - k ∧ k ≤ mb.length ∧ i = .int .i64 k ∧ Ext w3 wr ∧ Ow encI64 2 wr w3.heap.size v (sureTo hs T mb k))
      case atStart => exact ⟨0, by omega, by omega, rfl, (Ext.refl _).alloc _, by rw [hzero]; exact Ow.made0 rfl (Nat.le_refl _)⟩
      case round =>
        obtain ⟨k, hg, hk, rfl, hw, hO⟩ := hrel
        obtain ⟨wo, hwo⟩ : ∃ x, x = wr := ⟨_, rfl⟩
        subst hwo
        by_cases hkl : k < mb.length
        · have hskip := hd (rest_skip hs k)
          have hnx0 := fun j (h : ¬ j = k) (hj : j < hs.length) => hd (rest_next hs k j h hj)
          have hrk := hd (hrest k hkl)
          have hwo := hw3.trans hw
          have hlo := hO.lt
          have hl := hlen k
          go_wp2
          go_loopg [15] mb.length (fun g i wr2 => ∃ j : Nat, ∃ a : Mask, g = mb.length - j ∧ j ≤ mb.length ∧ i = .int .i64 j ∧ Hd (restTo hs k j = a) ∧ Ext wo wr2 ∧ BoxAt wr2 wo.heap.size #[.int .u64 (lo a), .int .u64 (hi a)] 33)
          case atStart => exact ⟨0, 0, by omega, by omega, rfl, hd rfl, by ((repeat (first | with_reducible exact Ext.refl _ | with_reducible exact hw | with_reducible exact hb9 | with_reducible exact hb8 | with_reducible exact hb7 | with_reducible exact hb6 | with_reducible exact hb5 | with_reducible exact hb4 | with_reducible exact hb3 | with_reducible exact hb2 | with_reducible exact hb1 | with_reducible refine Ext.alloc ?_ _ | with_reducible refine Ext.drew ?_ | ((with_reducible refine Ext.set ?_ ?_ _); focus (dsimp only; omega)) | with_reducible refine Ext.trans ?_ hb9 | with_reducible refine Ext.trans ?_ hb8 | with_reducible refine Ext.trans ?_ hb7 | with_reducible refine Ext.trans ?_ hb6 | with_reducible refine Ext.trans ?_ hb5 | with_reducible refine Ext.trans ?_ hb4 | with_reducible refine Ext.trans ?_ hb3 | with_reducible refine Ext.trans ?_ hb2 | with_reducible refine Ext.trans ?_ hb1 | with_reducible refine Ext.trans ?_ hw))), BoxAt.new' rfl⟩
          case round =>
            obtain ⟨j, a, hg2, hj, rfl, ha, hE, hB⟩ := hrel
            by_cases hjl : j < mb.length
            · by_cases hjk : j = k
              · have hjb : ((j : Int) != (k : Int)) = false := by simp; omega
                subst hjk
                go_wp2
                go_roundg (mb.length - (j + 1))
                case rel => exact ⟨j + 1, a, rfl, hjl, by simp, hd (by rw [hskip.out, ha.out]), hE, hB⟩
                case measure => omega
              · have hjb : ((j : Int) != (k : Int)) = true := by simp; omega
                have hnx := hnx0 j hjk (by omega)
                have hWE := hw.trans hE
                have hC := hC3.ext hWE
                obtain ⟨bH, oH, hH, hltH, _⟩ := hRH j (by omega)
                subst hH
                obtain ⟨m0, m1, m2⟩ := (hRH.ext hWE).mask j (by omega)
                have c0 : wr.cell? ⟨b3, 0, none⟩ = some (.slice (some ⟨bH, oH, none⟩) mb.length capH) := hC.cell 0
                have d0 : wr.cell? ⟨wo.heap.size, 0, none⟩ = some (.int .u64 (lo a)) := hB.cell 0
                have d1 : wr.cell? ⟨wo.heap.size, 1, none⟩ = some (.int .u64 (hi a)) := hB.cell 1
                have lC := hC.lt
                have lB := hB.lt
                generalize hs[j]'(by omega) = q at m0 m1 hnx
                go_wp2
                refine wp_region_ext_tail 9 9 (by kernel_rfl) (by kernel_rfl) (by intro d _ _ _ _ h; cases d <;> exact h) ?_
                simp only [List.take_succ_cons, List.take_zero, List.drop_succ_cons, List.drop_zero]
                repeat (first | go_big_quiet_step (((go_at_call 20; with_reducible exact Calls.ext_all (fun W _ => spec_JoinMasks a q W)))) | quiet_step (((go_at_call 20; with_reducible exact Calls.ext_all (fun W _ => spec_JoinMasks a q W)))))
                refine wpQuiet_nil ?_
                intro w5 hq5
                have hb5 := ext_of_class hq5
                clear hq5
                obtain ⟨hc5, hf5, hz5⟩ := bcell3 hb5
                try simp at hz5
                have hB5 := hB.ext hb5
                have f0 := hB5.frozen 0
                have f1 := hB5.frozen 1
                have d0 : w5.cell? ⟨wo.heap.size, 0, none⟩ = some (.int .u64 (lo a)) := hB5.cell 0
                have d1 : w5.cell? ⟨wo.heap.size, 1, none⟩ = some (.int .u64 (hi a)) := hB5.cell 1
                have lB := hB5.lt
                have hE5 := hE.trans hb5
                clear hc5 hf5 hz5 hb5
                go_wp2
                go_roundg (mb.length - (j + 1))
                case rel => exact ⟨j + 1, mjoin a q, rfl, hjl, by simp, hd (by rw [hnx.out, ha.out]), Ext.set (Nat.le_refl _) (Ext.set (Nat.le_refl _) hE5 _) _, (hB5.set 0 _).set 1 _⟩
                case measure => omega
            · obtain rfl : j = mb.length := by omega
              have hja := hd (hrk.out.symm.trans ha.out)
              have hWE := hw.trans hE
              have hC := hC3.ext hWE
              have hO2 := hO.ext hE
              have c1 : wr.cell? ⟨b3, 1, none⟩ = some (.int .u64 (lo T)) := hC.cell 1
              have c2 : wr.cell? ⟨b3, 2, none⟩ = some (.int .u64 (hi T)) := hC.cell 2
              have d0 : wr.cell? ⟨wo.heap.size, 0, none⟩ = some (.int .u64 (lo a)) := hB.cell 0
              have d1 : wr.cell? ⟨wo.heap.size, 1, none⟩ = some (.int .u64 (hi a)) := hB.cell 1
              have lC := hC.lt
              have lB := hB.lt
              have e1 := lohi_meq a T
              have hhit := fun q => hd (hhit0 k hkl q)
              have hmiss := fun q => hd (hmiss0 k q)
              rw [hja.out] at hhit hmiss
              obtain ⟨bB, oB, hB2, hltB, _⟩ := hRB k hkl
              subst hB2
              have l1 := (hRB.ext hWE).i64 k hkl
              have lS := World.block_lt_of_cell? _ _ l1
              dsimp only at lS
              cases hq : meqB a T with
              | false =>
                have hv1 := hhit hq
                rw [hq] at e1
                clear hhit hmiss hq ha hja
                go_wp2
                refine wp_region_ext (by kernel_rfl) (by kernel_rfl) ?_
                repeat (first | go_big_quiet_step (fail) | quiet_step (fail))
                refine wpQuiet_nil ?_
                intro w9 hq9
                have hb9 := ext_of_class hq9
                clear hq9
                obtain ⟨hc9, hf9, hz9⟩ := bcell3 hb9
                try simp at hz9
                have hO9 := hO2.ext hb9
                have hW9 := hWE.trans hb9
                have l2 := hb9.cell l1
                have lS2 := Nat.lt_of_lt_of_le lS hb9.size
                clear hc9 hf9 hz9 hb9 c1 c2 d0 d1 lC lB l1 lS
                go_wp2_with (at_builtin; refine wpList_push2 (w0 := w3) (base := w3.heap.size) (xs := sureTo hs T mb k) encI64 (by rfl) _ _ 36 (.int .i64 0) 8 (by rfl) Tryd.underlying36 info_i64 (by rfl) (mb[k]) (by rfl) (by rfl) (by simp) (hO9) ((hW9 : Ext w3 _).size) (Nat.le_refl _) (hW9) (by omega) (by omega) ?_)
                intro v10 w10 hO10 hb10 hg10 _
                go_wp2
                go_roundg (mb.length - (k + 1))
                case rel => exact ⟨k + 1, rfl, hkl, by simp, hb10, by rw [hv1.out]; exact hO10⟩
                case measure => omega
              | true =>
                have hv1 := hmiss hq
                rw [hq] at e1
                clear hhit hmiss hq ha hja
                go_wp2
                refine wp_region_ext (by kernel_rfl) (by kernel_rfl) ?_
                repeat (first | go_big_quiet_step (fail) | quiet_step (fail))
                refine wpQuiet_nil ?_
                intro w9 hq9
                have hb9 := ext_of_class hq9
                clear hq9
                obtain ⟨hc9, hf9, hz9⟩ := bcell3 hb9
                try simp at hz9
                go_wp2
                go_roundg (mb.length - (k + 1))
                case rel => exact ⟨k + 1, rfl, hkl, by simp, hWE.trans hb9, by rw [hv1.out]; exact hO2.ext hb9⟩
                case measure => omega
        · obtain rfl : k = mb.length := by omega
          go_wp2
          refine bodyPost_ret (v := .tuple #[_, .int .i64 0]) (by simp [results, Tryd.results18, go_sem]; rfl) rfl ⟨_, by rw [hv.out], by rw [hv.out]; exact hO.lower hw3.size, hw3.trans hw⟩
  · have hv := hd (hno hc)
    have hcb : (c != 0) = true := by simp [hc]
    clear hno hz hnone hok1
    go_enter Tryd.func18, Tryd.ntmps18
    go_wp2_with fail
    refine Calls.mono (hask (some ⟨w.heap.size + 1 + 1, 0, none⟩) _ (hM0 _ (((BoxAt.new' rfl).alloc _).alloc _)) (by ((repeat (first | with_reducible exact Ext.refl _ | with_reducible exact hw | with_reducible exact hb9 | with_reducible exact hb8 | with_reducible exact hb7 | with_reducible exact hb6 | with_reducible exact hb5 | with_reducible exact hb4 | with_reducible exact hb3 | with_reducible exact hb2 | with_reducible exact hb1 | with_reducible refine Ext.alloc ?_ _ | with_reducible refine Ext.drew ?_ | ((with_reducible refine Ext.set ?_ ?_ _); focus (dsimp only; omega)) | with_reducible refine Ext.trans ?_ hb9 | with_reducible refine Ext.trans ?_ hb8 | with_reducible refine Ext.trans ?_ hb7 | with_reducible refine Ext.trans ?_ hb6 | with_reducible refine Ext.trans ?_ hb5 | with_reducible refine Ext.trans ?_ hb4 | with_reducible refine Ext.trans ?_ hb3 | with_reducible refine Ext.trans ?_ hb2 | with_reducible refine Ext.trans ?_ hb1 | with_reducible refine Ext.trans ?_ hw)))) (by simpa using Rd.lit encMask ((w.alloc (.cells #[.int .i16 x.st, .int .i16 x.sz, .int .i16 x.per] 26)).alloc (.cells #[.int .u64 (lo m), .int .u64 (hi m)] 33)) [m] #[.int .u64 (lo m), .int .u64 (hi m)] 33 (by simp) rfl)) ?_
    rintro e w1 ⟨rfl, hb1⟩
    have hw1 : Ext w w1 := ((((Ext.refl _).alloc _).alloc _).alloc _).trans hb1
    go_wp2
    refine bodyPost_ret (v := .tuple #[.slice (some ⟨w1.heap.size, 0, none⟩) 0 0, .int .i64 c]) (by simp [results, Tryd.results18, go_sem]) rfl ⟨_, by rw [hv.out], by rw [hv.out]; exact Ow.made0 rfl hw1.size, hw1.alloc _⟩
end Go.Proofs.YtegopgpnjgikeaaDoor
set_option linter.unusedVariables false
set_option linter.unusedSimpArgs false
set_option maxRecDepth 100000
namespace Go.Proofs.YtegopgpnjgikeaaDoor
open Go.RowKit
/-- The values at places. -/
def pickI (mb l : List Int) : List Int := l.map fun i => mb.getD i.toNat 0
theorem pickI_nil (mb : List Int) : pickI mb [] = [] := rfl
theorem pickI_len (mb l : List Int) : (pickI mb l).length = l.length := List.length_map _
theorem getI (mb : List Int) (k : Nat) (h : k < mb.length) : mb.getD k 0 = mb[k] := by rw [List.getD, List.getElem?_eq_getElem h]; rfl
theorem pickI_snoc (mb l : List Int) (k : Nat) (h : k < mb.length) : pickI mb (l ++ [(k : Int)]) = pickI mb l ++ [mb[k]] := by
  unfold pickI; rw [List.map_append, List.map_singleton, Int.toNat_natCast, getI mb k h]
theorem pickI_in {mb l : List Int} {P : Int → Prop} (hm : ∀ k ∈ mb, P k) (hl : ∀ k ∈ l, 0 ≤ k ∧ k < mb.length) : ∀ k ∈ pickI mb l, P k := by
  intro k hk
  obtain ⟨i, hi, rfl⟩ := List.mem_map.1 hk
  obtain ⟨h0, h1⟩ := hl i hi
  rw [getI mb i.toNat (by omega)]
  exact hm _ (List.getElem_mem _)
theorem pickI_at (mb l : List Int) (k : Nat) (h : k < l.length) : (pickI mb l)[k]'(by rw [pickI_len]; exact h) = mb.getD (l[k]).toNat 0 := List.getElem_map _
theorem pickI_take (mb l : List Int) (k : Nat) (h : k < l.length) : pickI mb (l.take (k + 1)) = pickI mb (l.take k) ++ [mb.getD (l[k]).toNat 0] := by
  unfold pickI; rw [List.take_succ_eq_append_getElem h, List.map_append]; rfl
/-- All holes of the words at places. -/
def holesI (hs : List Mask) (l : List Int) : Mask := joinL (l.map fun i => hs.getD i.toNat 0)
theorem holesI_nil (hs : List Mask) : holesI hs [] = 0 := rfl
theorem holesI_snoc (hs : List Mask) (l : List Int) (k : Nat) (h : k < hs.length) : holesI hs (l ++ [(k : Int)]) = mjoin (holesI hs l) hs[k] := by
  unfold holesI; rw [List.map_append, List.map_singleton, joinL_snoc, Int.toNat_natCast, getD_at hs k h]
theorem holesI_pick (x : Mx) (vs : List ByteArray) (mb l : List Int) (hl : ∀ k ∈ l, 0 ≤ k ∧ k < mb.length) : joinL (hsL x vs (pickI mb l)) = holesI (hsL x vs mb) l := by
  unfold holesI hsL pickI
  rw [List.map_map]
  congr 1
  refine List.map_congr_left (fun i hi => ?_)
  obtain ⟨h0, h1⟩ := hl i hi
  rw [Function.comp, getI mb i.toNat (by omega), getD_at _ i.toNat (by rw [List.length_map]; omega), List.getElem_map]
theorem map_places (hs : List Mask) : ∀ (n i : Nat), i + n = hs.length → (placesFrom i n).map (fun i => hs.getD i.toNat 0) = hs.drop i
  | 0, i, h => by rw [placesFrom, List.map_nil, List.drop_eq_nil_of_le (by omega)]
  | n + 1, i, h => by
    rw [placesFrom, List.map_cons, map_places hs n (i + 1) (by omega), Int.toNat_natCast, getD_at hs i (by omega), List.drop_eq_getElem_cons (i := i) (by omega)]
theorem holesI_full (hs : List Mask) : holesI hs (placesFrom 0 hs.length) = joinL hs := by unfold holesI; rw [map_places hs _ 0 (by omega), List.drop_zero]
/-- Do these places cover the mask? -/
def okC (hs : List Mask) (T : Mask) (l : List Int) : Bool := meqB (holesI hs l) T
def srch (hs : List Mask) (T : Mask) (n i : Nat) (l : List Int) (b : Nat) : Cov × Nat := covN (okC hs T) hs.length n i l b
def srchL (hs : List Mask) (T : Mask) (n : Nat) (l : List Int) (c i b : Nat) : Cov × Nat := covL (covN (okC hs T) hs.length n) l c i b
def srchA (hs : List Mask) (T : Mask) (c m b : Nat) : Cov × Nat := covAll (okC hs T) hs.length c m b
def stopB : Cov → Bool
  | .no => false
  | _ => true
def hitB : Cov → Bool
  | .hit _ => true
  | _ => false
def overB : Cov → Bool
  | .over => true
  | _ => false
def overI : Cov → Int
  | .over => 7
  | _ => 0
theorem srch_over (hs : List Mask) (T : Mask) (i : Nat) (l : List Int) : srch hs T 0 i l 0 = (.over, 0) := rfl
theorem srch_hit {hs : List Mask} {T : Mask} {i : Nat} {l : List Int} {b : Nat} (h : meqB (holesI hs l) T = true) : srch hs T 0 i l (b + 1) = (.hit l, b) := by
  unfold srch; rw [covN, if_neg (by omega)]; unfold okC; rw [if_pos h]; rfl
theorem srch_miss {hs : List Mask} {T : Mask} {i : Nat} {l : List Int} {b : Nat} (h : meqB (holesI hs l) T = false) : srch hs T 0 i l (b + 1) = (.no, b) := by
  unfold srch; rw [covN, if_neg (by omega)]; unfold okC; rw [h]; rfl
theorem srch_succ (hs : List Mask) (T : Mask) (n i : Nat) (l : List Int) (b : Nat) : srchL hs T n l (hs.length - n - i) i b = srch hs T (n + 1) i l b := rfl
theorem srchL_zero (hs : List Mask) (T : Mask) (n : Nat) (l : List Int) (i b : Nat) : srchL hs T n l 0 i b = (.no, b) := rfl
theorem srchL_no {hs : List Mask} {T : Mask} {n : Nat} {l : List Int} {c i b b' : Nat} (h : srch hs T n (i + 1) (l ++ [(i : Int)]) b = (.no, b')) : srchL hs T n l (c + 1) i b = srchL hs T n l c (i + 1) b' := by
  unfold srchL srch at *; rw [covL, h]
theorem srchL_hit {hs : List Mask} {T : Mask} {n : Nat} {l l' : List Int} {c i b b' : Nat} (h : srch hs T n (i + 1) (l ++ [(i : Int)]) b = (.hit l', b')) : srchL hs T n l (c + 1) i b = (.hit l', b') := by
  unfold srchL srch at *; rw [covL, h]
theorem srchL_over {hs : List Mask} {T : Mask} {n : Nat} {l : List Int} {c i b b' : Nat} (h : srch hs T n (i + 1) (l ++ [(i : Int)]) b = (.over, b')) : srchL hs T n l (c + 1) i b = (.over, b') := by
  unfold srchL srch at *; rw [covL, h]
theorem srchA_zero (hs : List Mask) (T : Mask) (m b : Nat) : srchA hs T 0 m b = (.no, b) := rfl
theorem srchA_no {hs : List Mask} {T : Mask} {c m b b' : Nat} (h : srch hs T m 0 [] b = (.no, b')) : srchA hs T (c + 1) m b = srchA hs T c (m + 1) b' := by
  unfold srchA srch at *; rw [covAll, h]
theorem srchA_hit {hs : List Mask} {T : Mask} {c m b b' : Nat} {l : List Int} (h : srch hs T m 0 [] b = (.hit l, b')) : srchA hs T (c + 1) m b = (.hit l, b') := by
  unfold srchA srch at *; rw [covAll, h]
theorem srchA_over {hs : List Mask} {T : Mask} {c m b b' : Nat} (h : srch hs T m 0 [] b = (.over, b')) : srchA hs T (c + 1) m b = (.over, b') := by
  unfold srchA srch at *; rw [covAll, h]
theorem srchA_full {hs : List Mask} {T : Mask} (h : meqB (joinL hs) T = true) (b : Nat) : (srchA hs T (hs.length + 1) 0 b).1 ≠ .no :=
  covAll_full (okC hs T) hs.length (by unfold okC; rw [holesI_full]; exact h) (hs.length + 1) 0 b (by omega) (by omega)
/-- Nothing is given back to the budget, and a list that is found has so many places, all of them within. -/
def CovIn (N n : Nat) (l : List Int) (b : Nat) (r : Cov × Nat) : Prop := r.2 ≤ b ∧ ∀ l', r.1 = .hit l' → l'.length = l.length + n ∧ ((∀ k ∈ l, 0 ≤ k ∧ k < (N : Int)) → ∀ k ∈ l', 0 ≤ k ∧ k < (N : Int))
theorem covL_in (f : Nat → List Int → Nat → Cov × Nat) (N n : Nat) (l : List Int) (hf : ∀ i l b, CovIn N n l b (f i l b)) : ∀ (c i b : Nat), i + c ≤ N → CovIn N (n + 1) l b (covL f l c i b)
  | 0, i, b, _ => ⟨Nat.le_refl _, fun l' h => by cases h⟩
  | c + 1, i, b, hc => by
    rw [covL]
    have h := hf (i + 1) (l ++ [(i : Int)]) b
    generalize f (i + 1) (l ++ [(i : Int)]) b = r at h
    obtain ⟨r, b'⟩ := r
    cases r with
    | hit l' =>
      refine ⟨h.1, fun l'' he => ?_⟩
      obtain ⟨g1, g2⟩ := h.2 l'' he
      refine ⟨by rw [g1, List.length_append, List.length_singleton]; omega, fun hl => g2 (fun k hk => ?_)⟩
      rcases List.mem_append.1 hk with hk | hk
      · exact hl k hk
      · rw [List.mem_singleton.1 hk]; omega
    | over => exact ⟨h.1, fun l'' he => by cases he⟩
    | no =>
      have := covL_in f N n l hf c (i + 1) b' (by omega)
      exact ⟨Nat.le_trans this.1 h.1, this.2⟩
theorem covN_in (ok : List Int → Bool) (N : Nat) : ∀ (n i : Nat) (l : List Int) (b : Nat), CovIn N n l b (covN ok N n i l b)
  | 0, i, l, b => by
    rw [covN]
    by_cases e : b = 0
    · rw [if_pos e]; exact ⟨Nat.zero_le _, fun l' h => by cases h⟩
    · rw [if_neg e]
      refine ⟨Nat.sub_le _ _, fun l' h => ?_⟩
      by_cases hk : ok l = true
      · rw [if_pos hk] at h; cases h; exact ⟨rfl, fun h => h⟩
      · rw [if_neg hk] at h; cases h
  | n + 1, i, l, b => by
    rw [covN]
    by_cases h : N - n - i = 0
    · rw [h]; exact ⟨Nat.le_refl _, fun l' h => by cases h⟩
    · exact covL_in _ N n l (fun i l b => covN_in ok N n i l b) _ _ _ (by omega)
theorem covAll_in (ok : List Int → Bool) (N : Nat) : ∀ (c m b : Nat), m + c = N + 1 → (covAll ok N c m b).2 ≤ b ∧ ∀ l', (covAll ok N c m b).1 = .hit l' → l'.length ≤ N ∧ ∀ k ∈ l', 0 ≤ k ∧ k < (N : Int)
  | 0, m, b, _ => ⟨Nat.le_refl _, fun l' h => by cases h⟩
  | c + 1, m, b, hm => by
    rw [covAll]
    have h := covN_in ok N m 0 [] b
    generalize covN ok N m 0 [] b = r at h
    obtain ⟨r, b'⟩ := r
    cases r with
    | hit l' =>
      refine ⟨h.1, fun l'' he => ?_⟩
      obtain ⟨g1, g2⟩ := h.2 l'' he
      exact ⟨by rw [g1, List.length_nil]; omega, g2 (fun k hk => by cases hk)⟩
    | over => exact ⟨h.1, fun l'' he => by cases he⟩
    | no =>
      have := covAll_in ok N c (m + 1) b' (by omega)
      exact ⟨Nat.le_trans this.1 h.1, this.2⟩
theorem srch_le (hs : List Mask) (T : Mask) (n i : Nat) (l : List Int) (b : Nat) : (srch hs T n i l b).2 ≤ b := (covN_in (okC hs T) hs.length n i l b).1
theorem srch_len {hs : List Mask} {T : Mask} {n i : Nat} {l l' : List Int} {b b' : Nat} (h : srch hs T n i l b = (.hit l', b')) : l'.length = l.length + n := ((covN_in (okC hs T) hs.length n i l b).2 l' (by rw [show covN (okC hs T) hs.length n i l b = _ from h])).1
theorem srch_in {hs : List Mask} {T : Mask} {n i : Nat} {l l' : List Int} {b b' : Nat} (h : srch hs T n i l b = (.hit l', b')) (hl : ∀ k ∈ l, 0 ≤ k ∧ k < (hs.length : Int)) : ∀ k ∈ l', 0 ≤ k ∧ k < (hs.length : Int) := ((covN_in (okC hs T) hs.length n i l b).2 l' (by rw [show covN (okC hs T) hs.length n i l b = _ from h])).2 hl
theorem srchA_in {hs : List Mask} {T : Mask} {b : Nat} {l' : List Int} (h : (srchA hs T (hs.length + 1) 0 b).1 = .hit l') : l'.length ≤ hs.length ∧ ∀ k ∈ l', 0 ≤ k ∧ k < (hs.length : Int) := (covAll_in (okC hs T) hs.length (hs.length + 1) 0 b (by omega)).2 l' h
/-- What the search ends with, as values and a code. -/
def resC (mb : List Int) : Cov → List Int × Int
  | .hit l => (pickI mb l, 0)
  | .no => ([], 6)
  | .over => ([], 7)
noncomputable def expF (x : Mx) (m : Mask) (vs : List ByteArray) (a : Int) : List Int × Int :=
  if askF x [m] vs 40 = 0 then (if 0 ≤ a ∧ a ≤ 2000 then (if meqB (joinL (hsL x vs (mbX x m vs))) (wantX x m) = true then resC (mbX x m vs) (srchA (hsL x vs (mbX x m vs)) (wantX x m) ((hsL x vs (mbX x m vs)).length + 1) 0 a.toNat).1 else ([], 6)) else ([], 2)) else ([], askF x [m] vs 40)
theorem exp_no {x : Mx} {m : Mask} {vs : List ByteArray} {a : Int} (h : ¬ askF x [m] vs 40 = 0) : expF x m vs a = ([], askF x [m] vs 40) := by unfold expF; rw [if_neg h]
theorem exp_far {x : Mx} {m : Mask} {vs : List ByteArray} {a : Int} (h : askF x [m] vs 40 = 0) (h2 : ¬ (0 ≤ a ∧ a ≤ 2000)) : expF x m vs a = ([], 2) := by unfold expF; rw [if_pos h, if_neg h2]
theorem exp_none {x : Mx} {m : Mask} {vs : List ByteArray} {a : Int} (h : askF x [m] vs 40 = 0) (h2 : 0 ≤ a ∧ a ≤ 2000) (h3 : meqB (joinL (hsL x vs (mbX x m vs))) (wantX x m) = false) : expF x m vs a = ([], 6) := by unfold expF; rw [if_pos h, if_pos h2, h3]; rfl
theorem exp_ok {x : Mx} {m : Mask} {vs : List ByteArray} {a : Int} (h : askF x [m] vs 40 = 0) (h2 : 0 ≤ a ∧ a ≤ 2000) (h3 : meqB (joinL (hsL x vs (mbX x m vs))) (wantX x m) = true) :
    expF x m vs a = resC (mbX x m vs) (srchA (hsL x vs (mbX x m vs)) (wantX x m) ((hsL x vs (mbX x m vs)).length + 1) 0 a.toNat).1 := by unfold expF; rw [if_pos h, if_pos h2, if_pos h3]
theorem exp_len (x : Mx) (m : Mask) (vs : List ByteArray) (a : Int) (h : vs.length ≤ 1048576) : (expF x m vs a).1.length ≤ 1048576 := by
  unfold expF
  split
  · split
    · split
      · have hi := fun l' => srchA_in (hs := hsL x vs (mbX x m vs)) (T := wantX x m) (b := a.toNat) (l' := l')
        generalize srchA (hsL x vs (mbX x m vs)) (wantX x m) ((hsL x vs (mbX x m vs)).length + 1) 0 a.toNat = r at hi
        obtain ⟨r, b⟩ := r
        cases r with
        | hit l =>
          have := (hi l rfl).1
          rw [hsL_len] at this
          have := mbX_len x m vs
          show (pickI (mbX x m vs) l).length ≤ _
          rw [pickI_len]; omega
        | no => exact Nat.zero_le _
        | over => exact Nat.zero_le _
      · exact Nat.zero_le _
    · exact Nat.zero_le _
  · exact Nat.zero_le _
attribute [irreducible] srch srchL srchA
theorem run_append_nilS {P : Program} (W : World) (t ty e : TypeId) (i : TypeInfo) (ht : P.underlying t = some (.slice e)) (hi : P.info? e = some i) (A : Option Addr) (n cap c : Nat) (hle : n ≤ cap) :
    (Builtin.append_ #[t, t] ty #[.slice A n cap, .slice none 0 c]).run P W = .ok (.slice A n cap) W := by
  cases A with
  | none => simp [Builtin.append_, run_underlying ht, sizeOf, typeInfo, hi, Builtin.lenOf, Builtin.firstCells, hle]
  | some a => simp [Builtin.append_, run_underlying ht, sizeOf, typeInfo, hi, Builtin.lenOf, Builtin.firstCells, hle, storeCells]

theorem step_addAny {α : Type} {w0 : World} {xs : List α} {T : TypeId} {base : Nat} {v : Value} {P : Program} {ops : Array Oper} {o : Oper} {a : Act} {K : Act → World → Prop} {Q : Exit → Act → World → Prop} {E : Prop} (e : Enc α) {W : World} (hgd : o.guard = none) (s y : Operand) (t : TypeId) (z : Value) (bytes : Nat)
    (ho : o.op = .call { callee := .builtin .append, args := #[s, y], argTypes := #[t, t] })
    (ht : P.underlying t = some (.slice T)) (hinfo : (P.info? T).map (fun i => (i.zero, i.size, i.bytes)) = some (some z, e.sz, bytes)) (hz : z.cells.size = e.sz)
    (ys : List α) (B : Option Addr) (n c : Nat) (hn : n = ys.length) (hs : a.eval s = v) (hy : a.eval y = .slice B n c) (HR : Rd e W B ys) (HO : Ow e T W base v xs) (hbase : base ≤ W.heap.size) (hw0 : w0.heap.size ≤ base) (HE : Ext w0 W)
    (hl : (xs.length + ys.length) * bytes ≤ 140737488355328) (hl2 : xs.length + ys.length ≤ 9223372036854775807)
    (h : ∀ v1 w1, Ow e T w1 base v1 (xs ++ ys) → Ext w0 w1 → Ext W w1 ∨ W.grownBy w1 v.ownBlock → K (a.put o.dst v1) w1) :
    if Region.wanted o (yielded ops a.tmps) = true then Oper.wp P o a W K Q else E := by
  subst hn
  cases B with
  | some B => exact step_addAll e hgd s y t z bytes ho ht hinfo hz ys B c hs hy HR HO hbase hw0 HE hl hl2 (fun v1 w1 h1 h2 h3 _ => h v1 w1 h1 h2 (.inr h3))
  | none =>
    have hys : ys = [] := by
      cases ys with
      | nil => rfl
      | cons y ys => obtain ⟨b, off, hb, _⟩ := HR 0 (Nat.zero_lt_succ _); cases hb
    subst hys
    obtain ⟨i, hi, hz0, hz1, hz2⟩ := info_parts hinfo
    obtain ⟨A, cap, rfl, hle, _⟩ := HO.slice
    have hw : Region.wanted o (yielded ops a.tmps) = true := by simp [Region.wanted, hgd]
    rw [if_pos hw]
    have hr := run_append_nilS (P := P) W t o.type T i ht hi A xs.length cap c hle
    unfold Oper.wp execOp
    simp only [ho, resolve, invoke, builtin, Sem.run_bind, Sem.run_pure, Result.andThen_ok, List.map_toArray, List.map_cons, List.map_nil, hs, hy, List.length_nil, hr]
    exact h _ _ (by rw [List.append_nil]; exact HO) HE (.inl (Ext.refl _))
theorem Conv.convV {G C : Value → Value → Value → World → Prop} {T : Prop} (ht : ∀ a b c W, C a b c W → G a b c W) (h : (∀ a b c W, C a b c W → G a b c W) → T) : T := h ht
end Go.Proofs.YtegopgpnjgikeaaDoor
set_option linter.unusedVariables false
set_option linter.unusedSimpArgs false
set_option maxRecDepth 100000
namespace Go.Proofs.YtegopgpnjgikeaaDoor
open Go.RowKit
def FoundO (T : TypeId) (w : World) (base : Nat) (mb : List Int) (r : Cov) (v : Value) : Prop := ∀ l', r = .hit l' → Ow encI64 T w base v (pickI mb l')
set_option maxHeartbeats 4000000 in
theorem impl_search (x : Mx) (hmx : mixB x = true) (vs : List ByteArray) (VA : Option Addr) (vcap : Nat) (mb : List Int) (MA : Option Addr) (mcap : Nat) (T : Mask) (bE : Nat) (w0 : World)
    (hV : Rd encStr w0 VA vs) (hn : vs.length ≤ 1048576) (hok : ∀ x ∈ vs, StrIn x) (hM : Rd encI64 w0 MA mb) (hml : mb.length ≤ 40) (hmi : ∀ k ∈ mb, 0 ≤ k ∧ k < vs.length) (hbE : w0.heap.size ≤ bE) :
    ∀ (n i : Nat) (l : List Int) (A : Option Addr) (cap b : Nat) (fv : Value) (w : World), n ≤ 40 → i ≤ 41 → l.length + n ≤ 80 → b ≤ 2000 → (∀ k ∈ l, 0 ≤ k ∧ k < (mb.length : Int)) → Ow encI64 2 w (bE + 1) (.slice A l.length cap) (pickI mb l) → Ext w0 w → BoxAt w bE #[.int .i16 x.st, .int .i16 x.sz, .int .i16 x.per, .slice VA vs.length vcap, .slice MA mb.length mcap, .int .u64 (lo T), .int .u64 (hi T), .int .i64 (b), .int .i64 (0), fv] 84 →
    Calls Tryd.prog 55 #[.pointer (some ⟨bE, 0, none⟩), .slice A l.length cap, .int .i64 i, .int .i64 n] w fun e w' => e = .returned (.bool (stopB (srch (hsL x vs mb) T n i l b).1)) ∧ ∃ fv', BoxAt w' bE #[.int .i16 x.st, .int .i16 x.sz, .int .i16 x.per, .slice VA vs.length vcap, .slice MA mb.length mcap, .int .u64 (lo T), .int .u64 (hi T), .int .i64 ((srch (hsL x vs mb) T n i l b).2), .int .i64 (overI (srch (hsL x vs mb) T n i l b).1), fv'] 84 ∧ Ext w0 w' ∧ Win bE (bE + 1) w w' ∧ FoundO 2 w' (bE + 1) mb (srch (hsL x vs mb) T n i l b).1 fv' := by
  have hha := fun (ls : List Int) (B : Option Addr) (cap' : Nat) (W : World) (hE : Ext w0 W) (hS : Rd encI64 W B ls) (hm : ls.length ≤ 1048576) (hin : ∀ k ∈ ls, 0 ≤ k ∧ k < vs.length) => impl_holesAt x hmx vs VA vcap ls B cap' W (hV.ext hE) hn hok hS hm hin
  have hpk := fun l h => holesI_pick x vs mb l h
  have hhl := hsL_len x vs mb
  generalize hsL x vs mb = hs at hpk hhl
  obtain ⟨st, sz, per⟩ := x
  dsimp only at hha ⊢
  have e2 := eqA_Mask
  have hx := @ExtOf.cell
  intro n
  induction n with
  | zero =>
    intro i l A cap b fv w hn0 hi41 hll hb hin hL hE hX
    have hO0 := srch_over hs T i l
    have hO1 := fun b => srch_hit (hs := hs) (T := T) (i := i) (l := l) (b := b)
    have hO2 := fun b => srch_miss (hs := hs) (T := T) (i := i) (l := l) (b := b)
    have x7 : w.cell? ⟨bE, 7, none⟩ = some (.int .i64 b) := hX.cell 7
    have x8 : w.cell? ⟨bE, 8, none⟩ = some (.int .i64 0) := hX.cell 8
    have x9 : w.cell? ⟨bE, 9, none⟩ = some fv := hX.cell 9
    have f7 := hX.frozen 7
    have f8 := hX.frozen 8
    have f9 := hX.frozen 9
    have lX := hX.lt
    cases b with
    | zero =>
      have hv := hd hO0
      replace x7 : w.cell? ⟨bE, 7, none⟩ = some (.int .i64 0) := x7
      clear hO0 hO1 hO2
      go_enter Tryd.func55, Tryd.ntmps55
      go_wp2
      refine bodyPost_ret (v := .bool true) (by simp [results, Tryd.results55, go_sem]) rfl ⟨by rw [hv.out]; rfl, fv, by rw [hv.out]; exact hX.set 8 (.int .i64 7), Ext.set hbE hE _, (Win.refl _ _ _).set1 _, by rw [hv.out]; intro l' h; cases h⟩
    | succ b =>
      replace x7 : w.cell? ⟨bE, 7, none⟩ = some (.int .i64 ((b : Int) + 1)) := x7
      have hb0 : (((b : Int) + 1) == 0) = false := beq_eq_false_iff_ne.2 (by omega)
      have hW6s : ∀ W, W = (w.setCell ⟨bE, 7, none⟩ (.int .i64 b)).setCell ⟨bE, 9, none⟩ (.slice A l.length cap) → BoxAt W bE #[.int .i16 st, .int .i16 sz, .int .i16 per, .slice VA vs.length vcap, .slice MA mb.length mcap, .int .u64 (lo T), .int .u64 (hi T), .int .i64 b, .int .i64 0, .slice A l.length cap] 84 ∧ Ext w0 W ∧ Win bE (bE + 1) w W := fun W h => by
        subst h
        exact ⟨(hX.set 7 (.int .i64 b)).set 9 (.slice A l.length cap), Ext.set hbE (Ext.set hbE hE _) _, ((Win.refl _ _ _).set1 _).set1 _⟩
      clear hO0 hX
      go_enter Tryd.func55, Tryd.ntmps55
      go_wp2
      refine intro_world (R := fun W => Code.wp _ _ _ _ W) (fun W6 hW6 => ?_)
      obtain ⟨hX6, hE6, hN6⟩ := hW6s W6 hW6
      have hL6 := hL.win hN6 (fun p hp => by have := (hL.lt p hp).1; omega)
      clear hW6 hW6s x7 x8 x9 f7 f8 f9 lX hE hL
      have x0 : W6.cell? ⟨bE, 0, none⟩ = some (.int .i16 st) := hX6.cell 0
      have x1 : W6.cell? ⟨bE, 1, none⟩ = some (.int .i16 sz) := hX6.cell 1
      have x2 : W6.cell? ⟨bE, 2, none⟩ = some (.int .i16 per) := hX6.cell 2
      have x3 : W6.cell? ⟨bE, 3, none⟩ = some (.slice VA vs.length vcap) := hX6.cell 3
      have x5 : W6.cell? ⟨bE, 5, none⟩ = some (.int .u64 (lo T)) := hX6.cell 5
      have x6 : W6.cell? ⟨bE, 6, none⟩ = some (.int .u64 (hi T)) := hX6.cell 6
      have lX := hX6.lt
      have hpl := pickI_len mb l
      have hha6 := fun (W : World) (hE : Ext W6 W) => hha (pickI mb l) A cap W (hE6.trans hE) (hL6.rdA.ext hE) (by omega) (pickI_in hmi hin)
      rw [hpl, hpk l hin] at hha6
      have e1 := lohi_meq (holesI hs l) T
      clear hpl
      cases hq : meqB (holesI hs l) T with
      | true =>
        have hv := hd (hO1 b hq)
        rw [hq] at e1
        clear hO1 hO2 hq
        generalize holesI hs l = js at e1 hha6
        refine wp_region_ext (by kernel_rfl) (by kernel_rfl) ?_
        repeat (first | go_big_quiet_step (((go_at_call 54; with_reducible exact Calls.ext_all (fun W hE => hha6 W hE)))) | quiet_step (((go_at_call 54; with_reducible exact Calls.ext_all (fun W hE => hha6 W hE)))))
        refine wpQuiet_nil ?_
        intro w7 hq7
        have hb7 := ext_of_class hq7
        clear hq7
        obtain ⟨hc7, hf7, hz7⟩ := bcell3 hb7
        try simp at hz7
        go_wp2
        refine bodyPost_ret (v := .bool true) (by simp [results, Tryd.results55, go_sem]) rfl ⟨by rw [hv.out]; rfl, _, by rw [hv.out]; exact hX6.ext hb7, hE6.trans hb7, hN6.ext hb7, by rw [hv.out]; intro l' h; cases h; exact hL6.ext hb7⟩
      | false =>
        have hv := hd (hO2 b hq)
        rw [hq] at e1
        clear hO1 hO2 hq
        generalize holesI hs l = js at e1 hha6
        refine wp_region_ext (by kernel_rfl) (by kernel_rfl) ?_
        repeat (first | go_big_quiet_step (((go_at_call 54; with_reducible exact Calls.ext_all (fun W hE => hha6 W hE)))) | quiet_step (((go_at_call 54; with_reducible exact Calls.ext_all (fun W hE => hha6 W hE)))))
        refine wpQuiet_nil ?_
        intro w7 hq7
        have hb7 := ext_of_class hq7
        clear hq7
        obtain ⟨hc7, hf7, hz7⟩ := bcell3 hb7
        try simp at hz7
        go_wp2
        refine bodyPost_ret (v := .bool false) (by simp [results, Tryd.results55, go_sem]) rfl ⟨by rw [hv.out]; rfl, _, by rw [hv.out]; exact hX6.ext hb7, hE6.trans hb7, hN6.ext hb7, by rw [hv.out]; intro l' h; cases h⟩
  | succ n ih =>
    intro i l A cap b fv w hn0 hi41 hll hb hin hL hE hX
    have hinv := srch_succ hs T n i l b
    generalize srch hs T (n + 1) i l b = R at hinv ⊢
    rw [hhl] at hinv
    have hinv := hd hinv
    have hzero := srchL_zero hs T n l
    have hno := fun c i b b' => srchL_no (hs := hs) (T := T) (n := n) (l := l) (c := c) (i := i) (b := b) (b' := b')
    have hhit := fun l' c i b b' => srchL_hit (hs := hs) (T := T) (n := n) (l := l) (l' := l') (c := c) (i := i) (b := b) (b' := b')
    have hover := fun c i b b' => srchL_over (hs := hs) (T := T) (n := n) (l := l) (c := c) (i := i) (b := b) (b' := b')
    have hle := fun k bk => srch_le hs T n (k + 1) (l ++ [(k : Int)]) bk
    have hps := fun k h => pickI_snoc mb l k h
    have hn1 : (((n : Int) + 1) == 0) = false := beq_eq_false_iff_ne.2 (by omega)
    have hwr : IntKind.i64.wrap ((mb.length : Int) - ((n : Int) + 1)) = (mb.length : Int) - ((n : Int) + 1) := IntWalk.i64_in _ (by omega)
    rw [show ((n + 1 : Nat) : Int) = (n : Int) + 1 from rfl]
    go_enter Tryd.func55, Tryd.ntmps55
    go_wp2
    go_loopg [9] (mb.length - n - i) (fun g iv wr => ∃ k bk : Nat, ∃ f : Value, g = mb.length - n - k ∧ iv = .int .i64 k ∧ k ≤ 41 ∧ bk ≤ 2000 ∧ Hd (srchL hs T n l (mb.length - n - k) k bk = R) ∧ Ext w0 wr ∧ Win bE (bE + 1) w wr ∧ BoxAt wr bE #[.int .i16 st, .int .i16 sz, .int .i16 per, .slice VA vs.length vcap, .slice MA mb.length mcap, .int .u64 (lo T), .int .u64 (hi T), .int .i64 bk, .int .i64 0, f] 84)
    case atStart => exact ⟨i, b, fv, rfl, rfl, hi41, hb, hinv, hE, Win.refl _ _ _, hX⟩
    case round =>
      obtain ⟨k, bk, f, hg, rfl, hk, hbk, hI, hw, hN, hXr⟩ := hrel
      obtain ⟨wo, hwo⟩ : ∃ x, x = wr := ⟨_, rfl⟩
      subst hwo
      have x4 : wo.cell? ⟨bE, 4, none⟩ = some (.slice MA mb.length mcap) := hXr.cell 4
      have lX := hXr.lt
      by_cases hkl : k + n < mb.length
      · have hc : ((k : Int) ≤ (mb.length : Int) - ((n : Int) + 1)) = True := eq_true (by omega)
        obtain ⟨bM, oM, hMe, hltM, _⟩ := hM k (by omega)
        subst hMe
        have m0 := (hM.ext hw).i64 k (by omega)
        have hm0 := hM.i64 k (by omega)
        have hLr := hL.win hN (fun p hp => by have := (hL.lt p hp).1; omega)
        have hsn := hd (hps k (by omega))
        generalize mb[k]'(by omega) = z at m0 hm0 hsn
        have hkm : k < mb.length := by omega
        have hwk : IntKind.i64.wrap ((k : Int) + 1) = (k : Int) + 1 := IntWalk.i64_in _ (by omega)
        have hwn : IntKind.i64.wrap (n : Int) = (n : Int) := IntWalk.i64_in _ (by omega)
        have hce : mb.length - n - k = (mb.length - n - (k + 1)) + 1 := by omega
        go_wp2
        refine wp_region_held (S := fun W => W.cell? ⟨bE, 4, none⟩ = some (.slice (some ⟨bM, oM, none⟩) mb.length mcap) ∧ W.cell? ⟨bM, oM + k, none⟩ = some (.int .i64 z)) (by kernel_rfl) ?_
        change wpAnyH _ _ _ _ _ _ _ _ (World.drew _)
        refine intro_world (fun WD hWD => ?_)
        have eD : Ext wo WD := by rw [hWD]; exact (Ext.refl _).drew
        clear hWD
        have hS := fun (W : World) (h : Ext wo W) => (⟨h.cell x4, h.cell m0⟩ : (W.cell? ⟨bE, 4, none⟩ = some (.slice (some ⟨bM, oM, none⟩) mb.length mcap) ∧ W.cell? ⟨bM, oM + k, none⟩ = some (.int .i64 z)))
        refine wpAnyH_take (i := 0) (v := ?_) rfl (by kernel_rfl) (by kernel_rfl) (by kernel_rfl) (fun _ _ _ h => h) (Or.inl ⟨by rfl, ?_⟩) (hS _ eD) ?_
        rotate_left
        · (intro W9 hW9; obtain ⟨z0, z1⟩ := hW9; go_simp; try with_reducible rfl)
        try simp only [Act.put, List.setIfInBounds_toArray, List.set_cons_zero, List.set_cons_succ]
        refine wpAnyH_take (i := 2) (v := ?_) rfl (by kernel_rfl) (by kernel_rfl) (by kernel_rfl) (fun _ _ _ h => h) (Or.inl ⟨by rfl, ?_⟩) (hS _ eD) ?_
        rotate_left
        · (intro W9 hW9; obtain ⟨z0, z1⟩ := hW9; go_simp; try with_reducible rfl)
        try simp only [Act.put, List.setIfInBounds_toArray, List.set_cons_zero, List.set_cons_succ]
        refine wpAnyH_take (i := 4) (v := ?_) rfl (by kernel_rfl) (by kernel_rfl) (by kernel_rfl) (fun _ _ _ h => h) (Or.inl ⟨by rfl, ?_⟩) (hS _ eD) ?_
        rotate_left
        · (intro W9 hW9; obtain ⟨z0, z1⟩ := hW9; go_simp; try with_reducible rfl)
        try simp only [Act.put, List.setIfInBounds_toArray, List.set_cons_zero, List.set_cons_succ]
        refine wpAnyH_take (i := 5) (v := ?_) rfl (by kernel_rfl) (by kernel_rfl) (by kernel_rfl) (fun _ _ _ h => h) (Or.inl ⟨by rfl, ?_⟩) (hS _ eD) ?_
        rotate_left
        · (intro W9 hW9; obtain ⟨z0, z1⟩ := hW9; go_simp; try with_reducible rfl)
        try simp only [Act.put, List.setIfInBounds_toArray, List.set_cons_zero, List.set_cons_succ]
        refine wpAnyH_take (i := 6) (v := ?_) rfl (by kernel_rfl) (by kernel_rfl) (by kernel_rfl) (fun _ _ _ h => h) (Or.inl ⟨by rfl, ?_⟩) (hS _ eD) ?_
        rotate_left
        · (intro W9 hW9; obtain ⟨z0, z1⟩ := hW9; go_simp; try with_reducible rfl)
        try simp only [Act.put, List.setIfInBounds_toArray, List.set_cons_zero, List.set_cons_succ]
        refine wpAnyH_take (i := 7) (v := ?_) rfl (by kernel_rfl) (by kernel_rfl) (by kernel_rfl) (fun _ _ _ h => h) (Or.inl ⟨by rfl, ?_⟩) (hS _ eD) ?_
        rotate_left
        · (intro W9 hW9; obtain ⟨z0, z1⟩ := hW9; go_simp; try with_reducible rfl)
        try simp only [Act.put, List.setIfInBounds_toArray, List.set_cons_zero, List.set_cons_succ]
        refine wpAnyH_take (i := 8) (v := ?_) rfl (by kernel_rfl) (by kernel_rfl) (by kernel_rfl) (fun _ _ _ h => h) (Or.inl ⟨by rfl, ?_⟩) (hS _ eD) ?_
        rotate_left
        · (intro W9 hW9; obtain ⟨z0, z1⟩ := hW9; go_simp; try with_reducible rfl)
        try simp only [Act.put, List.setIfInBounds_toArray, List.set_cons_zero, List.set_cons_succ]
        refine wpAnyH_take (i := 9) (v := ?_) rfl (by kernel_rfl) (by kernel_rfl) (by kernel_rfl) (fun _ _ _ h => h) (Or.inl ⟨by rfl, ?_⟩) (hS _ eD) ?_
        rotate_left
        · (intro W9 hW9; obtain ⟨z0, z1⟩ := hW9; go_simp; try with_reducible rfl)
        try simp only [Act.put, List.setIfInBounds_toArray, List.set_cons_zero, List.set_cons_succ]
        refine wpAnyH_take (i := 10) (v := ?_) rfl (by kernel_rfl) (by kernel_rfl) (by kernel_rfl) (fun _ _ _ h => h) (Or.inl ⟨by rfl, ?_⟩) (hS _ eD) ?_
        rotate_left
        · (intro W9 hW9; obtain ⟨z0, z1⟩ := hW9; go_simp; try with_reducible rfl)
        try simp only [Act.put, List.setIfInBounds_toArray, List.set_cons_zero, List.set_cons_succ]
        refine wpAnyH_take (i := 13) (v := ?_) rfl (by kernel_rfl) (by kernel_rfl) (by kernel_rfl) (fun _ _ _ h => h) (Or.inl ⟨by rfl, ?_⟩) (hS _ eD) ?_
        rotate_left
        · (intro W9 hW9; obtain ⟨z0, z1⟩ := hW9; go_simp; try with_reducible rfl)
        try simp only [Act.put, List.setIfInBounds_toArray, List.set_cons_zero, List.set_cons_succ]
        refine wpAnyH_take (i := 14) (v := ?_) rfl (by kernel_rfl) (by kernel_rfl) (by kernel_rfl) (fun _ _ _ h => h) (Or.inl ⟨by rfl, ?_⟩) (hS _ eD) ?_
        rotate_left
        · (intro W9 hW9; obtain ⟨z0, z1⟩ := hW9; go_simp; try with_reducible rfl)
        try simp only [Act.put, List.setIfInBounds_toArray, List.set_cons_zero, List.set_cons_succ]
        refine wpAnyH_take (i := 15) (v := ?_) rfl (by kernel_rfl) (by kernel_rfl) (by kernel_rfl) (fun _ _ _ h => h) (Or.inl ⟨by rfl, ?_⟩) (hS _ eD) ?_
        rotate_left
        · (intro W9 hW9; obtain ⟨z0, z1⟩ := hW9; go_simp; try with_reducible rfl)
        try simp only [Act.put, List.setIfInBounds_toArray, List.set_cons_zero, List.set_cons_succ]
        refine wpAnyH_take (i := 16) (v := ?_) rfl (by kernel_rfl) (by kernel_rfl) (by kernel_rfl) (fun _ _ _ h => h) (Or.inl ⟨by rfl, ?_⟩) (hS _ eD) ?_
        rotate_left
        · (intro W9 hW9; obtain ⟨z0, z1⟩ := hW9; go_simp; try with_reducible rfl)
        try simp only [Act.put, List.setIfInBounds_toArray, List.set_cons_zero, List.set_cons_succ]
        have hRl := fun (W : World) (h : Ext wo W) => hLr.rdA.ext h
        apply Conv.convV (C := fun _ v61 v69 W => Ext wo W ∧ Ow encI64 2 W wo.heap.size v61 (pickI mb l) ∧ ∃ b, v69 = .slice (some ⟨b, 0, none⟩) 1 1 ∧ Rd encI64 W (some ⟨b, 0, none⟩) [z])
        case h =>
          intro hk
          refine wpAnyH_ready (rs := [1, 11]) (by kernel_rfl) (by simp) ?_
          refine AllReadyH.cons rfl (fun K hK => ?_) (AllReadyH.cons rfl (fun K hK => ?_) (AllReadyH.nil))
          · go_simp
            refine hK.out _ _ (hS _ (eD.alloc _)) (fun _ => ?_)
            clear hK K
            refine intro_world (fun W1 hW => ?_)
            have k1 : Ext WD W1 := by rw [hW]; exact (Ext.refl _).alloc _
            have hL : Ow encI64 2 W1 WD.heap.size (.slice (some ⟨WD.heap.size, 0, none⟩) 0 0) [] := by rw [hW]; exact Ow.made0 rfl (Nat.le_refl _)
            have s1 : WD.heap.size < W1.heap.size := by rw [hW]; simp
            have E1 := eD.trans k1
            clear hW
            have lL : wo.heap.size ≤ WD.heap.size := eD.size
            generalize hbL : WD.heap.size = bL at hL lL s1 ⊢
            refine wpAnyH_ready (rs := [3, 11]) (by kernel_rfl) (by simp) ?_
            refine AllReadyH.cons rfl (fun K hK => ?_) (AllReadyH.cons rfl (fun K hK => ?_) (AllReadyH.nil))
            · refine step_addAny (w0 := wo) (base := wo.heap.size) encI64 (by rfl) _ _ 36 (.int .i64 0) 8 (by rfl) Tryd.underlying36 info_i64 (by rfl) (pickI mb l) A _ cap ((pickI_len mb l).symm) (by rfl) (by rfl) (hRl _ E1) (hL.lower lL) E1.size (Nat.le_refl _) E1 (by have := pickI_len mb l; simp only [List.length_nil]; omega) (by have := pickI_len mb l; simp only [List.length_nil]; omega) ?_
              intro v2 W2 hL E2 hg
              refine hK.out _ _ (hS _ E2) (fun _ => ?_)
              clear hK K
              have hL : Ow encI64 2 W2 wo.heap.size v2 (pickI mb l) := hL
              clear hg
              refine wpAnyH_ready (rs := [11]) (by kernel_rfl) (by simp) ?_
              refine AllReadyH.cons rfl (fun K hK => ?_) (AllReadyH.nil)
              go_simp
              refine hK.out _ _ (hS _ (E2.alloc _)) (fun _ => ?_)
              clear hK K
              refine intro_world (fun W3 hW => ?_)
              have k3 : Ext W2 W3 := by rw [hW]; exact (Ext.refl _).alloc _
              have hZ : Ow encI64 2 W3 W2.heap.size (.slice (some ⟨W2.heap.size, 0, none⟩) 1 1) [z] := by rw [hW]; exact Ow.made encI64 _ _ [z] _ (Nat.le_refl _) (by simp) rfl
              have s3 : W2.heap.size < W3.heap.size := by rw [hW]; simp
              have E3 := E2.trans k3
              clear hW
              have hL0 := hL
              have hL := hL.ext k3
              generalize hbZ : W2.heap.size = bZ at hZ s3 ⊢
              generalize hv59 : Value.slice (some ⟨bL, 0, none⟩) 0 0 = v59
              generalize hv69 : Value.slice (some ⟨bZ, 0, none⟩) 1 1 = v69
              exact hk v59 v2 v69 W3 ⟨E3, hL, bZ, hv69.symm, hZ.rdA⟩
            · go_simp
              refine hK.out _ _ (hS _ (E1.alloc _)) (fun _ => ?_)
              clear hK K
              refine intro_world (fun W4 hW => ?_)
              have k4 : Ext W1 W4 := by rw [hW]; exact (Ext.refl _).alloc _
              have hZ : Ow encI64 2 W4 W1.heap.size (.slice (some ⟨W1.heap.size, 0, none⟩) 1 1) [z] := by rw [hW]; exact Ow.made encI64 _ _ [z] _ (Nat.le_refl _) (by simp) rfl
              have s4 : W1.heap.size < W4.heap.size := by rw [hW]; simp
              have E4 := E1.trans k4
              clear hW
              have hL0 := hL
              have hL := hL.ext k4
              generalize hbZ : W1.heap.size = bZ at hZ s4 ⊢
              have hne : bL ≠ bZ := by have := (hL0.lt bL rfl).2; omega
              refine wpAnyH_ready (rs := [3]) (by kernel_rfl) (by simp) ?_
              refine AllReadyH.cons rfl (fun K hK => ?_) (AllReadyH.nil)
              refine step_addAny (w0 := wo) (base := wo.heap.size) encI64 (by rfl) _ _ 36 (.int .i64 0) 8 (by rfl) Tryd.underlying36 info_i64 (by rfl) (pickI mb l) A _ cap ((pickI_len mb l).symm) (by rfl) (by rfl) (hRl _ E4) (hL.lower lL) E4.size (Nat.le_refl _) E4 (by have := pickI_len mb l; simp only [List.length_nil]; omega) (by have := pickI_len mb l; simp only [List.length_nil]; omega) ?_
              intro v5 W5 hL E5 hg
              refine hK.out _ _ (hS _ E5) (fun _ => ?_)
              clear hK K
              have hL : Ow encI64 2 W5 wo.heap.size v5 (pickI mb l) := hL
              have hZ : Ow encI64 2 W5 _ _ _ := hg.elim (fun h => hZ.ext h) (fun h => hZ.grown h (.inr (fun e => hne (Option.some.inj e).symm)))
              clear hg
              generalize hv59 : Value.slice (some ⟨bL, 0, none⟩) 0 0 = v59
              generalize hv69 : Value.slice (some ⟨bZ, 0, none⟩) 1 1 = v69
              exact hk v59 v5 v69 W5 ⟨E5, hL, bZ, hv69.symm, hZ.rdA⟩
          · go_simp
            refine hK.out _ _ (hS _ (eD.alloc _)) (fun _ => ?_)
            clear hK K
            refine intro_world (fun W6 hW => ?_)
            have k6 : Ext WD W6 := by rw [hW]; exact (Ext.refl _).alloc _
            have hZ : Ow encI64 2 W6 WD.heap.size (.slice (some ⟨WD.heap.size, 0, none⟩) 1 1) [z] := by rw [hW]; exact Ow.made encI64 _ _ [z] _ (Nat.le_refl _) (by simp) rfl
            have s6 : WD.heap.size < W6.heap.size := by rw [hW]; simp
            have E6 := eD.trans k6
            clear hW
            generalize hbZ : WD.heap.size = bZ at hZ s6 ⊢
            refine wpAnyH_ready (rs := [1]) (by kernel_rfl) (by simp) ?_
            refine AllReadyH.cons rfl (fun K hK => ?_) (AllReadyH.nil)
            go_simp
            refine hK.out _ _ (hS _ (E6.alloc _)) (fun _ => ?_)
            clear hK K
            refine intro_world (fun W7 hW => ?_)
            have k7 : Ext W6 W7 := by rw [hW]; exact (Ext.refl _).alloc _
            have hL : Ow encI64 2 W7 W6.heap.size (.slice (some ⟨W6.heap.size, 0, none⟩) 0 0) [] := by rw [hW]; exact Ow.made0 rfl (Nat.le_refl _)
            have s7 : W6.heap.size < W7.heap.size := by rw [hW]; simp
            have E7 := E6.trans k7
            clear hW
            have hZ0 := hZ
            have hZ := hZ.ext k7
            have lL : wo.heap.size ≤ W6.heap.size := E6.size
            generalize hbL : W6.heap.size = bL at hL lL s7 ⊢
            have hne : bL ≠ bZ := by have := (hZ0.lt bZ rfl).2; omega
            clear hZ0
            refine wpAnyH_ready (rs := [3]) (by kernel_rfl) (by simp) ?_
            refine AllReadyH.cons rfl (fun K hK => ?_) (AllReadyH.nil)
            refine step_addAny (w0 := wo) (base := wo.heap.size) encI64 (by rfl) _ _ 36 (.int .i64 0) 8 (by rfl) Tryd.underlying36 info_i64 (by rfl) (pickI mb l) A _ cap ((pickI_len mb l).symm) (by rfl) (by rfl) (hRl _ E7) (hL.lower lL) E7.size (Nat.le_refl _) E7 (by have := pickI_len mb l; simp only [List.length_nil]; omega) (by have := pickI_len mb l; simp only [List.length_nil]; omega) ?_
            intro v8 W8 hL E8 hg
            refine hK.out _ _ (hS _ E8) (fun _ => ?_)
            clear hK K
            have hL : Ow encI64 2 W8 wo.heap.size v8 (pickI mb l) := hL
            have hZ : Ow encI64 2 W8 _ _ _ := hg.elim (fun h => hZ.ext h) (fun h => hZ.grown h (.inr (fun e => hne (Option.some.inj e).symm)))
            clear hg
            generalize hv59 : Value.slice (some ⟨bL, 0, none⟩) 0 0 = v59
            generalize hv69 : Value.slice (some ⟨bZ, 0, none⟩) 1 1 = v69
            exact hk v59 v8 v69 W8 ⟨E8, hL, bZ, hv69.symm, hZ.rdA⟩
        rintro v59 v61 v69 W5 ⟨E5, hO61, bZ, rfl, hZ⟩
        refine wpAnyH_ready (rs := [12]) (by kernel_rfl) (by simp) ?_
        refine AllReadyH.cons rfl (fun K hK => ?_) (AllReadyH.nil)
        refine step_addAny (w0 := wo) (base := wo.heap.size) encI64 (by rfl) _ _ 36 (.int .i64 0) 8 (by rfl) Tryd.underlying36 info_i64 (by rfl) [z] _ _ 1 (by rfl) (by rfl) (by rfl) hZ hO61 E5.size (Nat.le_refl _) E5 (by rw [pickI_len]; simp only [List.length_singleton]; omega) (by rw [pickI_len]; simp only [List.length_singleton]; omega) ?_
        intro v70 W6 hO70 E6 hg
        refine hK.out _ _ (hS _ E6) (fun _ => ?_)
        clear hK K hg hZ hO61 E5 eD
        have hO70 : Ow encI64 2 W6 wo.heap.size v70 (pickI mb l ++ [z]) := hO70
        rw [← hsn.out] at hO70
        obtain ⟨A70, c70, rfl, _, _⟩ := hO70.slice
        rw [pickI_len, List.length_append, List.length_singleton] at hO70 ⊢
        have hin2 : ∀ j ∈ l ++ [(k : Int)], 0 ≤ j ∧ j < (mb.length : Int) := fun j hj => by
          rcases List.mem_append.1 hj with hj | hj
          · exact hin j hj
          · rw [List.mem_singleton.1 hj]; omega
        have hcall := ih (k + 1) (l ++ [(k : Int)]) A70 c70 bk f W6 (by omega) (by omega) (by rw [List.length_append, List.length_singleton]; omega) hbk hin2
        rw [List.length_append, List.length_singleton] at hcall
        replace hcall := hcall (hO70.lower (by omega)) (hw.trans E6) (hXr.ext E6)
        rw [show ((k + 1 : Nat) : Int) = (k : Int) + 1 from rfl] at hcall
        have hle2 := hle k bk
        have hno2 := fun b' => hno (mb.length - n - (k + 1)) k bk b'
        have hhit2 := fun l' b' => hhit l' (mb.length - n - (k + 1)) k bk b'
        have hover2 := fun b' => hover (mb.length - n - (k + 1)) k bk b'
        generalize srch hs T n (k + 1) (l ++ [(k : Int)]) bk = r at hcall hle2 hno2 hhit2 hover2
        obtain ⟨rc, rb⟩ := r
        dsimp only at hcall hle2
        rw [hce] at hI
        refine wpAnyH_ready (rs := [17]) (by kernel_rfl) (by simp) ?_
        refine AllReadyH.cons rfl (fun K hK => ?_) (AllReadyH.nil)
        clear hno hhit hover hle ih hps
        go_simp
        go_wp2_with fail
        refine Calls.mono hcall ?_
        rintro e w8 ⟨rfl, f8, hX8, hw8, hN8, hF8⟩
        have hN8 := (hN.ext E6).trans hN8
        have hS8 : w8.cell? ⟨bE, 4, none⟩ = some (.slice (some ⟨bM, oM, none⟩) mb.length mcap) ∧ w8.cell? ⟨bM, oM + k, none⟩ = some (.int .i64 z) := ⟨hX8.cell 4, hw8.cell hm0⟩
        clear hcall hO70 E6 hXr hLr hRl hS x4 m0 hw hN
        cases rc with
        | no =>
          have hI2 := hd ((hno2 rb rfl).symm.trans hI.out)
          go_simp
          refine hK.out _ _ hS8 (fun _ => ?_)
          clear hK K hno2 hhit2 hover2 hS8
          refine wpAnyH_done (by kernel_rfl) ?_ _
          go_wp2
          go_roundg (mb.length - n - (k + 1))
          case rel => exact ⟨k + 1, rb, f8, rfl, rfl, by omega, by omega, hI2, hw8, hN8, hX8⟩
          case measure => omega
        | hit l' =>
          have hI2 := (hhit2 l' rb rfl).symm.trans hI.out
          subst hI2
          go_simp
          refine hK.out _ _ hS8 (fun _ => ?_)
          clear hK K hno2 hhit2 hover2 hS8
          refine wpAnyH_done (by kernel_rfl) ?_ _
          go_wp2
          refine bodyPost_ret (v := .bool true) (by simp [results, Tryd.results55, go_sem]) rfl ⟨rfl, f8, hX8, hw8, hN8, hF8⟩
        | over =>
          have hI2 := (hover2 rb rfl).symm.trans hI.out
          subst hI2
          go_simp
          refine hK.out _ _ hS8 (fun _ => ?_)
          clear hK K hno2 hhit2 hover2 hS8
          refine wpAnyH_done (by kernel_rfl) ?_ _
          go_wp2
          refine bodyPost_ret (v := .bool true) (by simp [results, Tryd.results55, go_sem]) rfl ⟨rfl, f8, hX8, hw8, hN8, hF8⟩
      · have hc : ((k : Int) ≤ (mb.length : Int) - ((n : Int) + 1)) = False := eq_false (by omega)
        have hv := hI.out
        rw [show mb.length - n - k = 0 by omega, hzero] at hv
        subst hv
        clear hno hhit hover hle hps
        go_wp2
        refine bodyPost_ret (v := .bool false) (by simp [results, Tryd.results55, go_sem]) rfl ⟨rfl, f, hXr, hw, hN, fun l' h => by cases h⟩
end Go.Proofs.YtegopgpnjgikeaaDoor
set_option linter.unusedVariables false
set_option linter.unusedSimpArgs false
set_option maxRecDepth 100000
namespace Go.Proofs.YtegopgpnjgikeaaDoor
open Go.RowKit
def FoundR (w : World) (r : Cov) (v : Value) : Prop := ∀ l', r = .hit l' → ∃ B c, v = .slice B l'.length c ∧ Rd encI64 w B l'
set_option maxHeartbeats 4000000 in
theorem spec_fits (hs : List Mask) (hml : hs.length ≤ 40) (HA : Option Addr) (hcap : Nat) (T : Mask) (bC : Nat) (w0 : World) (hbC : w0.heap.size ≤ bC) (hHb : ∀ p, HA = some p → p.block ≠ bC) :
    ∀ (n i : Nat) (l : List Int) (p : Addr) (cap b : Nat) (a : Mask) (w : World), n ≤ 40 → i ≤ 41 → l.length + n ≤ 80 → b ≤ 2000 → a = holesI hs l → Rd encMask w HA hs → Rd encI64 w (some p) l → p.block ≠ bC → Ext w0 w → BoxAt w bC #[.slice HA hs.length hcap, .int .u64 (lo T), .int .u64 (hi T), .int .i64 b, .bool false] 91 →
    Calls Tryd.prog 58 #[.pointer (some ⟨bC, 0, none⟩), .int .i64 i, .int .i64 n, .agg #[.int .u64 (lo a), .int .u64 (hi a)], .slice (some p) l.length cap] w fun e w' => ∃ v, e = .returned (.tuple #[v, .bool (hitB (srch hs T n i l b).1)]) ∧ BoxAt w' bC #[.slice HA hs.length hcap, .int .u64 (lo T), .int .u64 (hi T), .int .i64 (srch hs T n i l b).2, .bool (overB (srch hs T n i l b).1)] 91 ∧ Ext w0 w' ∧ Win bC (bC + 1) w w' ∧ FoundR w' (srch hs T n i l b).1 v := by
  have e2 := eqA_Mask
  have hx := @ExtOf.cell
  intro n
  induction n with
  | zero =>
    intro i l p cap b a w hn0 hi41 hll hb ha0 hH hL hpb hE hX
    have ha := hd ha0
    clear ha0
    have hO0 := srch_over hs T i l
    have hO1 := fun b => srch_hit (hs := hs) (T := T) (i := i) (l := l) (b := b)
    have hO2 := fun b => srch_miss (hs := hs) (T := T) (i := i) (l := l) (b := b)
    rw [← ha.out] at hO1 hO2
    have x3 : w.cell? ⟨bC, 3, none⟩ = some (.int .i64 b) := hX.cell 3
    have x4 : w.cell? ⟨bC, 4, none⟩ = some (.bool false) := hX.cell 4
    have f3 := hX.frozen 3
    have f4 := hX.frozen 4
    have lX := hX.lt
    cases b with
    | zero =>
      have hv := hd hO0
      replace x3 : w.cell? ⟨bC, 3, none⟩ = some (.int .i64 0) := x3
      clear hO0 hO1 hO2
      go_enter Tryd.func58, Tryd.ntmps58
      go_wp2
      refine bodyPost_ret (v := .tuple #[.slice (some ⟨w.heap.size + 1, 0, none⟩) 0 0, .bool false]) (by simp [results, Tryd.results58, go_sem]) rfl ⟨_, by rw [hv.out]; rfl, by rw [hv.out]; exact (((hX.set 4 (.bool true)).alloc _).alloc _), Ext.alloc (Ext.alloc (Ext.set hbC hE _) _) _, ((Win.refl _ _ _).set1 _).ext (((Ext.refl _).alloc _).alloc _), by rw [hv.out]; intro l' h; cases h⟩
    | succ b =>
      replace x3 : w.cell? ⟨bC, 3, none⟩ = some (.int .i64 ((b : Int) + 1)) := x3
      have hb0 : (((b : Int) + 1) == 0) = false := beq_eq_false_iff_ne.2 (by omega)
      have hW6s : ∀ W, W = (w.setCell ⟨bC, 3, none⟩ (.int .i64 b)).alloc (.cells #[.int .u64 (lo a), .int .u64 (hi a)] 33) → BoxAt W bC #[.slice HA hs.length hcap, .int .u64 (lo T), .int .u64 (hi T), .int .i64 b, .bool false] 91 ∧ BoxAt W w.heap.size #[.int .u64 (lo a), .int .u64 (hi a)] 33 ∧ Ext w0 W ∧ Win bC (bC + 1) w W := fun W h => by
        subst h
        exact ⟨(hX.set 3 (.int .i64 b)).alloc _, BoxAt.new' (by simp), (Ext.set hbC hE _).alloc _, ((Win.refl _ _ _).set1 _).ext ((Ext.refl _).alloc _)⟩
      clear hO0 hX
      go_enter Tryd.func58, Tryd.ntmps58
      go_wp2
      refine intro_world (R := fun W => Code.wp _ _ _ _ W) (fun W6 hW6 => ?_)
      obtain ⟨hX6, hB6, hE6, hN6⟩ := hW6s W6 hW6
      have hL6 := hL.win hN6 (fun q hq => by cases hq; omega)
      clear hW6 hW6s x3 x4 f3 f4 lX hE hL
      have x1 : W6.cell? ⟨bC, 1, none⟩ = some (.int .u64 (lo T)) := hX6.cell 1
      have x2 : W6.cell? ⟨bC, 2, none⟩ = some (.int .u64 (hi T)) := hX6.cell 2
      have y0 : W6.cell? ⟨w.heap.size, 0, none⟩ = some (.int .u64 (lo a)) := hB6.cell 0
      have y1 : W6.cell? ⟨w.heap.size, 1, none⟩ = some (.int .u64 (hi a)) := hB6.cell 1
      have lX := hX6.lt
      have lB := hB6.lt
      have e1 := lohi_meq a T
      cases hq : meqB a T with
      | true =>
        have hv := hd (hO1 b hq)
        rw [hq] at e1
        clear hO1 hO2 hq ha
        refine wp_region_ext (by kernel_rfl) (by kernel_rfl) ?_
        repeat (first | go_big_quiet_step (fail) | quiet_step (fail))
        refine wpQuiet_nil ?_
        intro w7 hq7
        have hb7 := ext_of_class hq7
        clear hq7
        obtain ⟨hc7, hf7, hz7⟩ := bcell3 hb7
        try simp at hz7
        go_wp2
        refine bodyPost_ret (v := .tuple #[.slice (some p) l.length cap, .bool true]) (by simp [results, Tryd.results58, go_sem]) rfl ⟨_, by rw [hv.out]; rfl, by rw [hv.out]; exact hX6.ext hb7, hE6.trans hb7, hN6.ext hb7, by rw [hv.out]; intro l' h; cases h; exact ⟨_, _, rfl, hL6.ext hb7⟩⟩
      | false =>
        have hv := hd (hO2 b hq)
        rw [hq] at e1
        clear hO1 hO2 hq ha
        refine wp_region_ext (by kernel_rfl) (by kernel_rfl) ?_
        repeat (first | go_big_quiet_step (fail) | quiet_step (fail))
        refine wpQuiet_nil ?_
        intro w7 hq7
        have hb7 := ext_of_class hq7
        clear hq7
        obtain ⟨hc7, hf7, hz7⟩ := bcell3 hb7
        try simp at hz7
        go_wp2
        refine bodyPost_ret (v := .tuple #[.slice (some p) l.length cap, .bool false]) (by simp [results, Tryd.results58, go_sem]) rfl ⟨_, by rw [hv.out]; rfl, by rw [hv.out]; exact hX6.ext hb7, hE6.trans hb7, hN6.ext hb7, by rw [hv.out]; intro l' h; cases h⟩
  | succ n ih =>
    intro i l p cap b a w hn0 hi41 hll hb ha0 hH hL hpb hE hX
    have ha := hd ha0
    clear ha0
    have hinv := srch_succ hs T n i l b
    generalize srch hs T (n + 1) i l b = R at hinv ⊢
    have hinv := hd hinv
    have hzero := srchL_zero hs T n l
    have hno := fun c i b b' => srchL_no (hs := hs) (T := T) (n := n) (l := l) (c := c) (i := i) (b := b) (b' := b')
    have hhit := fun l' c i b b' => srchL_hit (hs := hs) (T := T) (n := n) (l := l) (l' := l') (c := c) (i := i) (b := b) (b' := b')
    have hover := fun c i b b' => srchL_over (hs := hs) (T := T) (n := n) (l := l) (c := c) (i := i) (b := b) (b' := b')
    have hle := fun k bk => srch_le hs T n (k + 1) (l ++ [(k : Int)]) bk
    have hps := fun k h => holesI_snoc hs l k h
    have hn1 : (((n : Int) + 1) == 0) = false := beq_eq_false_iff_ne.2 (by omega)
    have lXw := hX.lt
    have hat : BoxAt (w.alloc (.cells #[.int .u64 (lo a), .int .u64 (hi a)] 33)) w.heap.size #[.int .u64 (lo a), .int .u64 (hi a)] 33 := BoxAt.new' rfl
    have heW : Ext w (w.alloc (.cells #[.int .u64 (lo a), .int .u64 (hi a)] 33)) := (Ext.refl _).alloc _
    rw [show ((n + 1 : Nat) : Int) = (n : Int) + 1 from rfl]
    go_enter Tryd.func58, Tryd.ntmps58
    go_wp2
    go_loopg [12] (hs.length - n - i + 1) (fun g iv wr => ∃ k bk : Nat, ∃ ov : Bool, iv = .int .i64 k ∧ k ≤ 41 ∧ bk ≤ 2000 ∧ ((ov = false ∧ g = hs.length - n - k + 1 ∧ Hd (srchL hs T n l (hs.length - n - k) k bk = R)) ∨ (ov = true ∧ g = 0 ∧ Hd (R = (.over, bk)))) ∧ Ext w0 wr ∧ Win bC (bC + 1) w wr ∧ BoxAt wr w.heap.size #[.int .u64 (lo a), .int .u64 (hi a)] 33 ∧ BoxAt wr bC #[.slice HA hs.length hcap, .int .u64 (lo T), .int .u64 (hi T), .int .i64 bk, .bool ov] 91)
    case atStart => exact ⟨i, b, false, rfl, hi41, hb, .inl ⟨rfl, rfl, hinv⟩, hE.trans' (World.grownBy_alloc _ _ none) (fun k h => by cases h), Win.of heW, hat, hX.ext heW⟩
    case round =>
      obtain ⟨k, bk, ov, rfl, hk, hbk, hI, hw, hN, hBr, hXr⟩ := hrel
      obtain ⟨wo, hwo⟩ : ∃ x, x = wr := ⟨_, rfl⟩
      subst hwo
      have x0 : wo.cell? ⟨bC, 0, none⟩ = some (.slice HA hs.length hcap) := hXr.cell 0
      have x4 : wo.cell? ⟨bC, 4, none⟩ = some (.bool ov) := hXr.cell 4
      have lX := hXr.lt
      have wk : IntKind.i64.wrap ((k : Int) + ((n : Int) + 1)) = (k : Int) + ((n : Int) + 1) := IntWalk.i64_in _ (by omega)
      rcases hI with ⟨rfl, hg, hI⟩ | ⟨rfl, hg, hI⟩
      · by_cases hkl : k + n < hs.length
        · have hc : ((k : Int) + ((n : Int) + 1) ≤ (hs.length : Int)) = True := eq_true (by omega)
          go_wp2
          have hkm : k < hs.length := by omega
          have wk1 : IntKind.i64.wrap ((k : Int) + 1) = (k : Int) + 1 := IntWalk.i64_in _ (by omega)
          have wn : IntKind.i64.wrap (n : Int) = (n : Int) := IntWalk.i64_in _ (by omega)
          have hce : hs.length - n - k = (hs.length - n - (k + 1)) + 1 := by omega
          obtain ⟨bH, oH, hHe, hltH, _⟩ := hH k hkm
          subst hHe
          have hHr := hH.win hN (fun q hq => by have := hHb q hq; omega)
          obtain ⟨m0, m1, _⟩ := hHr.mask k hkm
          have hLr := hL.win hN (fun q hq => by cases hq; omega)
          have y0 : wo.cell? ⟨w.heap.size, 0, none⟩ = some (.int .u64 (lo a)) := hBr.cell 0
          have y1 : wo.cell? ⟨w.heap.size, 1, none⟩ = some (.int .u64 (hi a)) := hBr.cell 1
          have hsn := hps k hkm
          rw [← ha.out] at hsn
          have hsn := hd hsn
          generalize hq : hs[k]'hkm = q at m0 m1 hsn
          have hq := hd hq
          go_wp2
          refine wp_region_held (S := fun W => W.cell? ⟨bC, 0, none⟩ = some (.slice (some ⟨bH, oH, none⟩) hs.length hcap) ∧ W.cell? ⟨bH, oH + k * 2, none⟩ = some (.int .u64 (lo q)) ∧ W.cell? ⟨bH, oH + k * 2 + 1, none⟩ = some (.int .u64 (hi q)) ∧ W.cell? ⟨w.heap.size, 0, none⟩ = some (.int .u64 (lo a)) ∧ W.cell? ⟨w.heap.size, 1, none⟩ = some (.int .u64 (hi a))) (by kernel_rfl) ?_
          change wpAnyH _ _ _ _ _ _ _ _ (World.drew _)
          refine intro_world (fun WD hWD => ?_)
          have eD : Ext wo WD := by rw [hWD]; exact (Ext.refl _).drew
          clear hWD
          have hS := fun (W : World) (h : Ext wo W) => (⟨h.cell x0, h.cell m0, h.cell m1, h.cell y0, h.cell y1⟩ : (W.cell? ⟨bC, 0, none⟩ = some (.slice (some ⟨bH, oH, none⟩) hs.length hcap) ∧ W.cell? ⟨bH, oH + k * 2, none⟩ = some (.int .u64 (lo q)) ∧ W.cell? ⟨bH, oH + k * 2 + 1, none⟩ = some (.int .u64 (hi q)) ∧ W.cell? ⟨w.heap.size, 0, none⟩ = some (.int .u64 (lo a)) ∧ W.cell? ⟨w.heap.size, 1, none⟩ = some (.int .u64 (hi a))))
          refine wpAnyH_take (i := 0) (v := ?_) rfl (by kernel_rfl) (by kernel_rfl) (by kernel_rfl) (fun _ _ _ h => h) (Or.inl ⟨by rfl, ?_⟩) (hS _ eD) ?_
          rotate_left
          · (intro W9 hW9; obtain ⟨z0, z1, z2, z3, z4⟩ := hW9; go_simp; try with_reducible rfl)
          try simp only [Act.put, List.setIfInBounds_toArray, List.set_cons_zero, List.set_cons_succ]
          refine wpAnyH_take (i := 1) (v := ?_) rfl (by kernel_rfl) (by kernel_rfl) (by kernel_rfl) (fun _ _ _ h => h) (Or.inl ⟨by rfl, ?_⟩) (hS _ eD) ?_
          rotate_left
          · (intro W9 hW9; obtain ⟨z0, z1, z2, z3, z4⟩ := hW9; go_simp; try with_reducible rfl)
          try simp only [Act.put, List.setIfInBounds_toArray, List.set_cons_zero, List.set_cons_succ]
          refine wpAnyH_take (i := 2) (v := ?_) rfl (by kernel_rfl) (by kernel_rfl) (by kernel_rfl) (fun _ _ _ h => h) (Or.inl ⟨by rfl, ?_⟩) (hS _ eD) ?_
          rotate_left
          · (intro W9 hW9; obtain ⟨z0, z1, z2, z3, z4⟩ := hW9; go_simp; try with_reducible rfl)
          try simp only [Act.put, List.setIfInBounds_toArray, List.set_cons_zero, List.set_cons_succ]
          refine wpAnyH_take (i := 3) (v := ?_) rfl (by kernel_rfl) (by kernel_rfl) (by kernel_rfl) (fun _ _ _ h => h) (Or.inl ⟨by rfl, ?_⟩) (hS _ eD) ?_
          rotate_left
          · (intro W9 hW9; obtain ⟨z0, z1, z2, z3, z4⟩ := hW9; go_simp; try with_reducible rfl)
          try simp only [Act.put, List.setIfInBounds_toArray, List.set_cons_zero, List.set_cons_succ]
          refine wpAnyH_take (i := 4) (v := ?_) rfl (by kernel_rfl) (by kernel_rfl) (by kernel_rfl) (fun _ _ _ h => h) (Or.inl ⟨by rfl, ?_⟩) (hS _ eD) ?_
          rotate_left
          · (intro W9 hW9; obtain ⟨z0, z1, z2, z3, z4⟩ := hW9; go_simp; try with_reducible rfl)
          try simp only [Act.put, List.setIfInBounds_toArray, List.set_cons_zero, List.set_cons_succ]
          refine wpAnyH_take (i := 5) (v := ?_) rfl (by kernel_rfl) (by kernel_rfl) (by kernel_rfl) (fun _ _ _ h => h) (Or.inl ⟨by rfl, ?_⟩) (hS _ eD) ?_
          rotate_left
          · (intro W9 hW9; obtain ⟨z0, z1, z2, z3, z4⟩ := hW9; go_simp; try with_reducible rfl)
          try simp only [Act.put, List.setIfInBounds_toArray, List.set_cons_zero, List.set_cons_succ]
          refine wpAnyH_take (i := 6) (v := ?_) rfl (by kernel_rfl) (by kernel_rfl) (by kernel_rfl) (fun _ _ _ h => h) (Or.inl ⟨by rfl, ?_⟩) (hS _ eD) ?_
          rotate_left
          · (intro W9 hW9; obtain ⟨z0, z1, z2, z3, z4⟩ := hW9; go_simp; try with_reducible rfl)
          try simp only [Act.put, List.setIfInBounds_toArray, List.set_cons_zero, List.set_cons_succ]
          refine wpAnyH_take (i := 7) (v := ?_) rfl (by kernel_rfl) (by kernel_rfl) (by kernel_rfl) (fun _ _ _ h => h) (Or.inl ⟨by rfl, ?_⟩) (hS _ eD) ?_
          rotate_left
          · (intro W9 hW9; obtain ⟨z0, z1, z2, z3, z4⟩ := hW9; go_simp; try with_reducible rfl)
          try simp only [Act.put, List.setIfInBounds_toArray, List.set_cons_zero, List.set_cons_succ]
          refine wpAnyH_take (i := 8) (v := ?_) rfl (by kernel_rfl) (by kernel_rfl) (by kernel_rfl) (fun _ _ _ h => h) (Or.inl ⟨by rfl, ?_⟩) (hS _ eD) ?_
          rotate_left
          · (intro W9 hW9; obtain ⟨z0, z1, z2, z3, z4⟩ := hW9; go_simp; try with_reducible rfl)
          try simp only [Act.put, List.setIfInBounds_toArray, List.set_cons_zero, List.set_cons_succ]
          refine wpAnyH_take (i := 9) (v := ?_) rfl (by kernel_rfl) (by kernel_rfl) (by kernel_rfl) (fun _ _ _ h => h) (Or.inl ⟨by rfl, ?_⟩) (hS _ eD) ?_
          rotate_left
          · (intro W9 hW9; obtain ⟨z0, z1, z2, z3, z4⟩ := hW9; go_simp; try with_reducible rfl)
          try simp only [Act.put, List.setIfInBounds_toArray, List.set_cons_zero, List.set_cons_succ]
          refine wpAnyH_take (i := 10) (v := ?_) rfl (by kernel_rfl) (by kernel_rfl) (by kernel_rfl) (fun _ _ _ h => h) (Or.inl ⟨by rfl, ?_⟩) (hS _ eD) ?_
          rotate_left
          · (intro W9 hW9; obtain ⟨z0, z1, z2, z3, z4⟩ := hW9; go_simp; try with_reducible rfl)
          try simp only [Act.put, List.setIfInBounds_toArray, List.set_cons_zero, List.set_cons_succ]
          refine wpAnyH_take (i := 11) (v := ?_) rfl (by kernel_rfl) (by kernel_rfl) (by kernel_rfl) (fun _ _ _ h => h) (Or.inl ⟨by rfl, ?_⟩) (hS _ eD) ?_
          rotate_left
          · (intro W9 hW9; obtain ⟨z0, z1, z2, z3, z4⟩ := hW9; go_simp; try with_reducible rfl)
          try simp only [Act.put, List.setIfInBounds_toArray, List.set_cons_zero, List.set_cons_succ]
          refine wpAnyH_take (i := 12) (v := ?_) rfl (by kernel_rfl) (by kernel_rfl) (by kernel_rfl) (fun _ _ _ h => h) (Or.inl ⟨by rfl, ?_⟩) (hS _ eD) ?_
          rotate_left
          · (intro W9 hW9; obtain ⟨z0, z1, z2, z3, z4⟩ := hW9; go_simp; try with_reducible rfl)
          try simp only [Act.put, List.setIfInBounds_toArray, List.set_cons_zero, List.set_cons_succ]
          refine wpAnyH_take (i := 15) (v := ?_) rfl (by kernel_rfl) (by kernel_rfl) (by kernel_rfl) (fun _ _ _ h => h) (Or.inl ⟨by rfl, ?_⟩) (hS _ eD) ?_
          rotate_left
          · (intro W9 hW9; obtain ⟨z0, z1, z2, z3, z4⟩ := hW9; go_simp; try with_reducible rfl)
          try simp only [Act.put, List.setIfInBounds_toArray, List.set_cons_zero, List.set_cons_succ]
          refine wpAnyH_take (i := 17) (v := ?_) rfl (by kernel_rfl) (by kernel_rfl) (by kernel_rfl) (fun _ _ _ h => h) (Or.inl ⟨by rfl, ?_⟩) (hS _ eD) ?_
          rotate_left
          · (intro W9 hW9; obtain ⟨z0, z1, z2, z3, z4⟩ := hW9; go_simp; try with_reducible rfl)
          try simp only [Act.put, List.setIfInBounds_toArray, List.set_cons_zero, List.set_cons_succ]
          have hRl := fun (W : World) (h : Ext wo W) => hLr.ext h
          apply Conv.convV (C := fun _ v61 v69 W => Ext wo W ∧ Ow encI64 2 W wo.heap.size v61 l ∧ ∃ b, v69 = .slice (some ⟨b, 0, none⟩) 1 1 ∧ Rd encI64 W (some ⟨b, 0, none⟩) [(k : Int)])
          case h =>
            intro hk
            refine wpAnyH_ready (rs := [13, 14, 18]) (by kernel_rfl) (by simp) ?_
            refine AllReadyH.cons rfl (fun K hK => ?_) (AllReadyH.cons rfl (fun K hK => ?_) (AllReadyH.cons rfl (fun K hK => ?_) (AllReadyH.nil)))
            · go_simp
              go_wp2_with fail
              refine Calls.mono (spec_JoinMasks a q _) ?_
              rintro e W1 ⟨rfl, k1⟩
              go_simp
              have E1 := eD.trans k1
              refine hK.out _ _ (hS _ E1) (fun _ => ?_)
              clear hK K
              refine wpAnyH_ready (rs := [14, 18]) (by kernel_rfl) (by simp) ?_
              refine AllReadyH.cons rfl (fun K hK => ?_) (AllReadyH.cons rfl (fun K hK => ?_) (AllReadyH.nil))
              · go_simp
                refine hK.out _ _ (hS _ (E1.alloc _)) (fun _ => ?_)
                clear hK K
                refine intro_world (fun W2 hW => ?_)
                have k2 : Ext W1 W2 := by rw [hW]; exact (Ext.refl _).alloc _
                have hL : Ow encI64 2 W2 W1.heap.size (.slice (some ⟨W1.heap.size, 0, none⟩) 0 0) [] := by rw [hW]; exact Ow.made0 rfl (Nat.le_refl _)
                have s2 : W1.heap.size < W2.heap.size := by rw [hW]; simp
                have E2 := E1.trans k2
                clear hW
                have lL : wo.heap.size ≤ W1.heap.size := E1.size
                generalize hbL : W1.heap.size = bL at hL lL s2 ⊢
                refine wpAnyH_ready (rs := [16, 18]) (by kernel_rfl) (by simp) ?_
                refine AllReadyH.cons rfl (fun K hK => ?_) (AllReadyH.cons rfl (fun K hK => ?_) (AllReadyH.nil))
                · refine step_addAny (w0 := wo) (base := wo.heap.size) encI64 (by rfl) _ _ 36 (.int .i64 0) 8 (by rfl) Tryd.underlying36 info_i64 (by rfl) (l) (some p) _ cap (rfl) (by rfl) (by rfl) (hRl _ E2) (hL.lower lL) E2.size (Nat.le_refl _) E2 (by skip; simp only [List.length_nil]; omega) (by skip; simp only [List.length_nil]; omega) ?_
                  intro v3 W3 hL E3 hg
                  refine hK.out _ _ (hS _ E3) (fun _ => ?_)
                  clear hK K
                  have hL : Ow encI64 2 W3 wo.heap.size v3 (l) := hL
                  clear hg
                  refine wpAnyH_ready (rs := [18]) (by kernel_rfl) (by simp) ?_
                  refine AllReadyH.cons rfl (fun K hK => ?_) (AllReadyH.nil)
                  go_simp
                  refine hK.out _ _ (hS _ (E3.alloc _)) (fun _ => ?_)
                  clear hK K
                  refine intro_world (fun W4 hW => ?_)
                  have k4 : Ext W3 W4 := by rw [hW]; exact (Ext.refl _).alloc _
                  have hZ : Ow encI64 2 W4 W3.heap.size (.slice (some ⟨W3.heap.size, 0, none⟩) 1 1) [(k : Int)] := by rw [hW]; exact Ow.made encI64 _ _ [(k : Int)] _ (Nat.le_refl _) (by simp) rfl
                  have s4 : W3.heap.size < W4.heap.size := by rw [hW]; simp
                  have E4 := E3.trans k4
                  clear hW
                  have hL0 := hL
                  have hL := hL.ext k4
                  generalize hbZ : W3.heap.size = bZ at hZ s4 ⊢
                  generalize hv59 : Value.slice (some ⟨bL, 0, none⟩) 0 0 = v59
                  generalize hv69 : Value.slice (some ⟨bZ, 0, none⟩) 1 1 = v69
                  exact hk v59 v3 v69 W4 ⟨E4, hL, bZ, hv69.symm, hZ.rdA⟩
                · go_simp
                  refine hK.out _ _ (hS _ (E2.alloc _)) (fun _ => ?_)
                  clear hK K
                  refine intro_world (fun W5 hW => ?_)
                  have k5 : Ext W2 W5 := by rw [hW]; exact (Ext.refl _).alloc _
                  have hZ : Ow encI64 2 W5 W2.heap.size (.slice (some ⟨W2.heap.size, 0, none⟩) 1 1) [(k : Int)] := by rw [hW]; exact Ow.made encI64 _ _ [(k : Int)] _ (Nat.le_refl _) (by simp) rfl
                  have s5 : W2.heap.size < W5.heap.size := by rw [hW]; simp
                  have E5 := E2.trans k5
                  clear hW
                  have hL0 := hL
                  have hL := hL.ext k5
                  generalize hbZ : W2.heap.size = bZ at hZ s5 ⊢
                  have hne : bL ≠ bZ := by have := (hL0.lt bL rfl).2; omega
                  refine wpAnyH_ready (rs := [16]) (by kernel_rfl) (by simp) ?_
                  refine AllReadyH.cons rfl (fun K hK => ?_) (AllReadyH.nil)
                  refine step_addAny (w0 := wo) (base := wo.heap.size) encI64 (by rfl) _ _ 36 (.int .i64 0) 8 (by rfl) Tryd.underlying36 info_i64 (by rfl) (l) (some p) _ cap (rfl) (by rfl) (by rfl) (hRl _ E5) (hL.lower lL) E5.size (Nat.le_refl _) E5 (by skip; simp only [List.length_nil]; omega) (by skip; simp only [List.length_nil]; omega) ?_
                  intro v6 W6 hL E6 hg
                  refine hK.out _ _ (hS _ E6) (fun _ => ?_)
                  clear hK K
                  have hL : Ow encI64 2 W6 wo.heap.size v6 (l) := hL
                  have hZ : Ow encI64 2 W6 _ _ _ := hg.elim (fun h => hZ.ext h) (fun h => hZ.grown h (.inr (fun e => hne (Option.some.inj e).symm)))
                  clear hg
                  generalize hv59 : Value.slice (some ⟨bL, 0, none⟩) 0 0 = v59
                  generalize hv69 : Value.slice (some ⟨bZ, 0, none⟩) 1 1 = v69
                  exact hk v59 v6 v69 W6 ⟨E6, hL, bZ, hv69.symm, hZ.rdA⟩
              · go_simp
                refine hK.out _ _ (hS _ (E1.alloc _)) (fun _ => ?_)
                clear hK K
                refine intro_world (fun W7 hW => ?_)
                have k7 : Ext W1 W7 := by rw [hW]; exact (Ext.refl _).alloc _
                have hZ : Ow encI64 2 W7 W1.heap.size (.slice (some ⟨W1.heap.size, 0, none⟩) 1 1) [(k : Int)] := by rw [hW]; exact Ow.made encI64 _ _ [(k : Int)] _ (Nat.le_refl _) (by simp) rfl
                have s7 : W1.heap.size < W7.heap.size := by rw [hW]; simp
                have E7 := E1.trans k7
                clear hW
                generalize hbZ : W1.heap.size = bZ at hZ s7 ⊢
                refine wpAnyH_ready (rs := [14]) (by kernel_rfl) (by simp) ?_
                refine AllReadyH.cons rfl (fun K hK => ?_) (AllReadyH.nil)
                go_simp
                refine hK.out _ _ (hS _ (E7.alloc _)) (fun _ => ?_)
                clear hK K
                refine intro_world (fun W8 hW => ?_)
                have k8 : Ext W7 W8 := by rw [hW]; exact (Ext.refl _).alloc _
                have hL : Ow encI64 2 W8 W7.heap.size (.slice (some ⟨W7.heap.size, 0, none⟩) 0 0) [] := by rw [hW]; exact Ow.made0 rfl (Nat.le_refl _)
                have s8 : W7.heap.size < W8.heap.size := by rw [hW]; simp
                have E8 := E7.trans k8
                clear hW
                have hZ0 := hZ
                have hZ := hZ.ext k8
                have lL : wo.heap.size ≤ W7.heap.size := E7.size
                generalize hbL : W7.heap.size = bL at hL lL s8 ⊢
                have hne : bL ≠ bZ := by have := (hZ0.lt bZ rfl).2; omega
                clear hZ0
                refine wpAnyH_ready (rs := [16]) (by kernel_rfl) (by simp) ?_
                refine AllReadyH.cons rfl (fun K hK => ?_) (AllReadyH.nil)
                refine step_addAny (w0 := wo) (base := wo.heap.size) encI64 (by rfl) _ _ 36 (.int .i64 0) 8 (by rfl) Tryd.underlying36 info_i64 (by rfl) (l) (some p) _ cap (rfl) (by rfl) (by rfl) (hRl _ E8) (hL.lower lL) E8.size (Nat.le_refl _) E8 (by skip; simp only [List.length_nil]; omega) (by skip; simp only [List.length_nil]; omega) ?_
                intro v9 W9 hL E9 hg
                refine hK.out _ _ (hS _ E9) (fun _ => ?_)
                clear hK K
                have hL : Ow encI64 2 W9 wo.heap.size v9 (l) := hL
                have hZ : Ow encI64 2 W9 _ _ _ := hg.elim (fun h => hZ.ext h) (fun h => hZ.grown h (.inr (fun e => hne (Option.some.inj e).symm)))
                clear hg
                generalize hv59 : Value.slice (some ⟨bL, 0, none⟩) 0 0 = v59
                generalize hv69 : Value.slice (some ⟨bZ, 0, none⟩) 1 1 = v69
                exact hk v59 v9 v69 W9 ⟨E9, hL, bZ, hv69.symm, hZ.rdA⟩
            · go_simp
              refine hK.out _ _ (hS _ (eD.alloc _)) (fun _ => ?_)
              clear hK K
              refine intro_world (fun W10 hW => ?_)
              have k10 : Ext WD W10 := by rw [hW]; exact (Ext.refl _).alloc _
              have hL : Ow encI64 2 W10 WD.heap.size (.slice (some ⟨WD.heap.size, 0, none⟩) 0 0) [] := by rw [hW]; exact Ow.made0 rfl (Nat.le_refl _)
              have s10 : WD.heap.size < W10.heap.size := by rw [hW]; simp
              have E10 := eD.trans k10
              clear hW
              have lL : wo.heap.size ≤ WD.heap.size := eD.size
              generalize hbL : WD.heap.size = bL at hL lL s10 ⊢
              refine wpAnyH_ready (rs := [13, 18]) (by kernel_rfl) (by simp) ?_
              refine AllReadyH.cons rfl (fun K hK => ?_) (AllReadyH.cons rfl (fun K hK => ?_) (AllReadyH.nil))
              · go_simp
                go_wp2_with fail
                refine Calls.mono (spec_JoinMasks a q _) ?_
                rintro e W11 ⟨rfl, k11⟩
                go_simp
                have E11 := E10.trans k11
                refine hK.out _ _ (hS _ E11) (fun _ => ?_)
                clear hK K
                have hL := hL.ext k11
                refine wpAnyH_ready (rs := [16, 18]) (by kernel_rfl) (by simp) ?_
                refine AllReadyH.cons rfl (fun K hK => ?_) (AllReadyH.cons rfl (fun K hK => ?_) (AllReadyH.nil))
                · refine step_addAny (w0 := wo) (base := wo.heap.size) encI64 (by rfl) _ _ 36 (.int .i64 0) 8 (by rfl) Tryd.underlying36 info_i64 (by rfl) (l) (some p) _ cap (rfl) (by rfl) (by rfl) (hRl _ E11) (hL.lower lL) E11.size (Nat.le_refl _) E11 (by skip; simp only [List.length_nil]; omega) (by skip; simp only [List.length_nil]; omega) ?_
                  intro v12 W12 hL E12 hg
                  refine hK.out _ _ (hS _ E12) (fun _ => ?_)
                  clear hK K
                  have hL : Ow encI64 2 W12 wo.heap.size v12 (l) := hL
                  clear hg
                  refine wpAnyH_ready (rs := [18]) (by kernel_rfl) (by simp) ?_
                  refine AllReadyH.cons rfl (fun K hK => ?_) (AllReadyH.nil)
                  go_simp
                  refine hK.out _ _ (hS _ (E12.alloc _)) (fun _ => ?_)
                  clear hK K
                  refine intro_world (fun W13 hW => ?_)
                  have k13 : Ext W12 W13 := by rw [hW]; exact (Ext.refl _).alloc _
                  have hZ : Ow encI64 2 W13 W12.heap.size (.slice (some ⟨W12.heap.size, 0, none⟩) 1 1) [(k : Int)] := by rw [hW]; exact Ow.made encI64 _ _ [(k : Int)] _ (Nat.le_refl _) (by simp) rfl
                  have s13 : W12.heap.size < W13.heap.size := by rw [hW]; simp
                  have E13 := E12.trans k13
                  clear hW
                  have hL0 := hL
                  have hL := hL.ext k13
                  generalize hbZ : W12.heap.size = bZ at hZ s13 ⊢
                  generalize hv59 : Value.slice (some ⟨bL, 0, none⟩) 0 0 = v59
                  generalize hv69 : Value.slice (some ⟨bZ, 0, none⟩) 1 1 = v69
                  exact hk v59 v12 v69 W13 ⟨E13, hL, bZ, hv69.symm, hZ.rdA⟩
                · go_simp
                  refine hK.out _ _ (hS _ (E11.alloc _)) (fun _ => ?_)
                  clear hK K
                  refine intro_world (fun W14 hW => ?_)
                  have k14 : Ext W11 W14 := by rw [hW]; exact (Ext.refl _).alloc _
                  have hZ : Ow encI64 2 W14 W11.heap.size (.slice (some ⟨W11.heap.size, 0, none⟩) 1 1) [(k : Int)] := by rw [hW]; exact Ow.made encI64 _ _ [(k : Int)] _ (Nat.le_refl _) (by simp) rfl
                  have s14 : W11.heap.size < W14.heap.size := by rw [hW]; simp
                  have E14 := E11.trans k14
                  clear hW
                  have hL0 := hL
                  have hL := hL.ext k14
                  generalize hbZ : W11.heap.size = bZ at hZ s14 ⊢
                  have hne : bL ≠ bZ := by have := (hL0.lt bL rfl).2; omega
                  refine wpAnyH_ready (rs := [16]) (by kernel_rfl) (by simp) ?_
                  refine AllReadyH.cons rfl (fun K hK => ?_) (AllReadyH.nil)
                  refine step_addAny (w0 := wo) (base := wo.heap.size) encI64 (by rfl) _ _ 36 (.int .i64 0) 8 (by rfl) Tryd.underlying36 info_i64 (by rfl) (l) (some p) _ cap (rfl) (by rfl) (by rfl) (hRl _ E14) (hL.lower lL) E14.size (Nat.le_refl _) E14 (by skip; simp only [List.length_nil]; omega) (by skip; simp only [List.length_nil]; omega) ?_
                  intro v15 W15 hL E15 hg
                  refine hK.out _ _ (hS _ E15) (fun _ => ?_)
                  clear hK K
                  have hL : Ow encI64 2 W15 wo.heap.size v15 (l) := hL
                  have hZ : Ow encI64 2 W15 _ _ _ := hg.elim (fun h => hZ.ext h) (fun h => hZ.grown h (.inr (fun e => hne (Option.some.inj e).symm)))
                  clear hg
                  generalize hv59 : Value.slice (some ⟨bL, 0, none⟩) 0 0 = v59
                  generalize hv69 : Value.slice (some ⟨bZ, 0, none⟩) 1 1 = v69
                  exact hk v59 v15 v69 W15 ⟨E15, hL, bZ, hv69.symm, hZ.rdA⟩
              · go_simp
                refine hK.out _ _ (hS _ (E10.alloc _)) (fun _ => ?_)
                clear hK K
                refine intro_world (fun W16 hW => ?_)
                have k16 : Ext W10 W16 := by rw [hW]; exact (Ext.refl _).alloc _
                have hZ : Ow encI64 2 W16 W10.heap.size (.slice (some ⟨W10.heap.size, 0, none⟩) 1 1) [(k : Int)] := by rw [hW]; exact Ow.made encI64 _ _ [(k : Int)] _ (Nat.le_refl _) (by simp) rfl
                have s16 : W10.heap.size < W16.heap.size := by rw [hW]; simp
                have E16 := E10.trans k16
                clear hW
                have hL0 := hL
                have hL := hL.ext k16
                generalize hbZ : W10.heap.size = bZ at hZ s16 ⊢
                have hne : bL ≠ bZ := by have := (hL0.lt bL rfl).2; omega
                refine wpAnyH_ready (rs := [13]) (by kernel_rfl) (by simp) ?_
                refine AllReadyH.cons rfl (fun K hK => ?_) (AllReadyH.nil)
                go_simp
                go_wp2_with fail
                refine Calls.mono (spec_JoinMasks a q _) ?_
                rintro e W17 ⟨rfl, k17⟩
                go_simp
                have E17 := E16.trans k17
                refine hK.out _ _ (hS _ E17) (fun _ => ?_)
                clear hK K
                have hL := hL.ext k17
                have hZ := hZ.ext k17
                refine wpAnyH_ready (rs := [16]) (by kernel_rfl) (by simp) ?_
                refine AllReadyH.cons rfl (fun K hK => ?_) (AllReadyH.nil)
                refine step_addAny (w0 := wo) (base := wo.heap.size) encI64 (by rfl) _ _ 36 (.int .i64 0) 8 (by rfl) Tryd.underlying36 info_i64 (by rfl) (l) (some p) _ cap (rfl) (by rfl) (by rfl) (hRl _ E17) (hL.lower lL) E17.size (Nat.le_refl _) E17 (by skip; simp only [List.length_nil]; omega) (by skip; simp only [List.length_nil]; omega) ?_
                intro v18 W18 hL E18 hg
                refine hK.out _ _ (hS _ E18) (fun _ => ?_)
                clear hK K
                have hL : Ow encI64 2 W18 wo.heap.size v18 (l) := hL
                have hZ : Ow encI64 2 W18 _ _ _ := hg.elim (fun h => hZ.ext h) (fun h => hZ.grown h (.inr (fun e => hne (Option.some.inj e).symm)))
                clear hg
                generalize hv59 : Value.slice (some ⟨bL, 0, none⟩) 0 0 = v59
                generalize hv69 : Value.slice (some ⟨bZ, 0, none⟩) 1 1 = v69
                exact hk v59 v18 v69 W18 ⟨E18, hL, bZ, hv69.symm, hZ.rdA⟩
            · go_simp
              refine hK.out _ _ (hS _ (eD.alloc _)) (fun _ => ?_)
              clear hK K
              refine intro_world (fun W19 hW => ?_)
              have k19 : Ext WD W19 := by rw [hW]; exact (Ext.refl _).alloc _
              have hZ : Ow encI64 2 W19 WD.heap.size (.slice (some ⟨WD.heap.size, 0, none⟩) 1 1) [(k : Int)] := by rw [hW]; exact Ow.made encI64 _ _ [(k : Int)] _ (Nat.le_refl _) (by simp) rfl
              have s19 : WD.heap.size < W19.heap.size := by rw [hW]; simp
              have E19 := eD.trans k19
              clear hW
              generalize hbZ : WD.heap.size = bZ at hZ s19 ⊢
              refine wpAnyH_ready (rs := [13, 14]) (by kernel_rfl) (by simp) ?_
              refine AllReadyH.cons rfl (fun K hK => ?_) (AllReadyH.cons rfl (fun K hK => ?_) (AllReadyH.nil))
              · go_simp
                go_wp2_with fail
                refine Calls.mono (spec_JoinMasks a q _) ?_
                rintro e W20 ⟨rfl, k20⟩
                go_simp
                have E20 := E19.trans k20
                refine hK.out _ _ (hS _ E20) (fun _ => ?_)
                clear hK K
                have hZ := hZ.ext k20
                refine wpAnyH_ready (rs := [14]) (by kernel_rfl) (by simp) ?_
                refine AllReadyH.cons rfl (fun K hK => ?_) (AllReadyH.nil)
                go_simp
                refine hK.out _ _ (hS _ (E20.alloc _)) (fun _ => ?_)
                clear hK K
                refine intro_world (fun W21 hW => ?_)
                have k21 : Ext W20 W21 := by rw [hW]; exact (Ext.refl _).alloc _
                have hL : Ow encI64 2 W21 W20.heap.size (.slice (some ⟨W20.heap.size, 0, none⟩) 0 0) [] := by rw [hW]; exact Ow.made0 rfl (Nat.le_refl _)
                have s21 : W20.heap.size < W21.heap.size := by rw [hW]; simp
                have E21 := E20.trans k21
                clear hW
                have hZ0 := hZ
                have hZ := hZ.ext k21
                have lL : wo.heap.size ≤ W20.heap.size := E20.size
                generalize hbL : W20.heap.size = bL at hL lL s21 ⊢
                have hne : bL ≠ bZ := by have := (hZ0.lt bZ rfl).2; omega
                clear hZ0
                refine wpAnyH_ready (rs := [16]) (by kernel_rfl) (by simp) ?_
                refine AllReadyH.cons rfl (fun K hK => ?_) (AllReadyH.nil)
                refine step_addAny (w0 := wo) (base := wo.heap.size) encI64 (by rfl) _ _ 36 (.int .i64 0) 8 (by rfl) Tryd.underlying36 info_i64 (by rfl) (l) (some p) _ cap (rfl) (by rfl) (by rfl) (hRl _ E21) (hL.lower lL) E21.size (Nat.le_refl _) E21 (by skip; simp only [List.length_nil]; omega) (by skip; simp only [List.length_nil]; omega) ?_
                intro v22 W22 hL E22 hg
                refine hK.out _ _ (hS _ E22) (fun _ => ?_)
                clear hK K
                have hL : Ow encI64 2 W22 wo.heap.size v22 (l) := hL
                have hZ : Ow encI64 2 W22 _ _ _ := hg.elim (fun h => hZ.ext h) (fun h => hZ.grown h (.inr (fun e => hne (Option.some.inj e).symm)))
                clear hg
                generalize hv59 : Value.slice (some ⟨bL, 0, none⟩) 0 0 = v59
                generalize hv69 : Value.slice (some ⟨bZ, 0, none⟩) 1 1 = v69
                exact hk v59 v22 v69 W22 ⟨E22, hL, bZ, hv69.symm, hZ.rdA⟩
              · go_simp
                refine hK.out _ _ (hS _ (E19.alloc _)) (fun _ => ?_)
                clear hK K
                refine intro_world (fun W23 hW => ?_)
                have k23 : Ext W19 W23 := by rw [hW]; exact (Ext.refl _).alloc _
                have hL : Ow encI64 2 W23 W19.heap.size (.slice (some ⟨W19.heap.size, 0, none⟩) 0 0) [] := by rw [hW]; exact Ow.made0 rfl (Nat.le_refl _)
                have s23 : W19.heap.size < W23.heap.size := by rw [hW]; simp
                have E23 := E19.trans k23
                clear hW
                have hZ0 := hZ
                have hZ := hZ.ext k23
                have lL : wo.heap.size ≤ W19.heap.size := E19.size
                generalize hbL : W19.heap.size = bL at hL lL s23 ⊢
                have hne : bL ≠ bZ := by have := (hZ0.lt bZ rfl).2; omega
                clear hZ0
                refine wpAnyH_ready (rs := [13]) (by kernel_rfl) (by simp) ?_
                refine AllReadyH.cons rfl (fun K hK => ?_) (AllReadyH.nil)
                go_simp
                go_wp2_with fail
                refine Calls.mono (spec_JoinMasks a q _) ?_
                rintro e W24 ⟨rfl, k24⟩
                go_simp
                have E24 := E23.trans k24
                refine hK.out _ _ (hS _ E24) (fun _ => ?_)
                clear hK K
                have hL := hL.ext k24
                have hZ := hZ.ext k24
                refine wpAnyH_ready (rs := [16]) (by kernel_rfl) (by simp) ?_
                refine AllReadyH.cons rfl (fun K hK => ?_) (AllReadyH.nil)
                refine step_addAny (w0 := wo) (base := wo.heap.size) encI64 (by rfl) _ _ 36 (.int .i64 0) 8 (by rfl) Tryd.underlying36 info_i64 (by rfl) (l) (some p) _ cap (rfl) (by rfl) (by rfl) (hRl _ E24) (hL.lower lL) E24.size (Nat.le_refl _) E24 (by skip; simp only [List.length_nil]; omega) (by skip; simp only [List.length_nil]; omega) ?_
                intro v25 W25 hL E25 hg
                refine hK.out _ _ (hS _ E25) (fun _ => ?_)
                clear hK K
                have hL : Ow encI64 2 W25 wo.heap.size v25 (l) := hL
                have hZ : Ow encI64 2 W25 _ _ _ := hg.elim (fun h => hZ.ext h) (fun h => hZ.grown h (.inr (fun e => hne (Option.some.inj e).symm)))
                clear hg
                generalize hv59 : Value.slice (some ⟨bL, 0, none⟩) 0 0 = v59
                generalize hv69 : Value.slice (some ⟨bZ, 0, none⟩) 1 1 = v69
                exact hk v59 v25 v69 W25 ⟨E25, hL, bZ, hv69.symm, hZ.rdA⟩
          rintro v59 v61 v69 W5 ⟨E5, hO61, bZ, rfl, hZ⟩
          refine wpAnyH_ready (rs := [19]) (by kernel_rfl) (by simp) ?_
          refine AllReadyH.cons rfl (fun K hK => ?_) (AllReadyH.nil)
          refine step_addAny (w0 := wo) (base := wo.heap.size) encI64 (by rfl) _ _ 36 (.int .i64 0) 8 (by rfl) Tryd.underlying36 info_i64 (by rfl) [(k : Int)] _ _ 1 (by rfl) (by rfl) (by rfl) hZ hO61 E5.size (Nat.le_refl _) E5 (by simp only [List.length_singleton]; omega) (by simp only [List.length_singleton]; omega) ?_
          intro v70 W6 hO70 E6 hg
          refine hK.out _ _ (hS _ E6) (fun _ => ?_)
          clear hK K hg hZ hO61 E5 eD
          have hO70 : Ow encI64 2 W6 wo.heap.size v70 (l ++ [(k : Int)]) := hO70
          obtain ⟨A70, c70, rfl, _, _⟩ := hO70.slice
          rw [List.length_append, List.length_singleton] at hO70 ⊢
          obtain ⟨b70, o70, rfl, _, _⟩ := hO70.rdA 0 (by rw [List.length_append, List.length_singleton]; omega)
          have hlt70 := hO70.lt b70 rfl
          have hcall := ih (k + 1) (l ++ [(k : Int)]) ⟨b70, o70, none⟩ c70 bk (mjoin a q) W6 (by omega) (by omega) (by rw [List.length_append, List.length_singleton]; omega) hbk hsn.out.symm (hHr.ext E6) hO70.rdA (by dsimp only; omega) (hw.trans E6) (hXr.ext E6)
          rw [List.length_append, List.length_singleton, show ((k + 1 : Nat) : Int) = (k : Int) + 1 from rfl] at hcall
          have hle2 := hle k bk
          have hno2 := fun b' => hno (hs.length - n - (k + 1)) k bk b'
          have hhit2 := fun l' b' => hhit l' (hs.length - n - (k + 1)) k bk b'
          have hover2 := fun b' => hover (hs.length - n - (k + 1)) k bk b'
          generalize srch hs T n (k + 1) (l ++ [(k : Int)]) bk = r at hcall hle2 hno2 hhit2 hover2
          obtain ⟨rc, rb⟩ := r
          dsimp only at hcall hle2
          rw [hce] at hI
          refine wpAnyH_ready (rs := [20]) (by kernel_rfl) (by simp) ?_
          refine AllReadyH.cons rfl (fun K hK => ?_) (AllReadyH.nil)
          clear hno hhit hover hle ih hps
          go_simp
          go_wp2_with fail
          refine Calls.mono hcall ?_
          rintro e w8 ⟨v8, rfl, hX8, hw8, hN8', hF8⟩
          have hN8 := (hN.ext E6).trans hN8'
          have hB8 := (hBr.ext E6).win hN8' (.inr (by omega))
          have hH8 := ((hHr.ext E6).win hN8' (fun q hq => by have := hHb q hq; omega)).mask
          have hS8 : w8.cell? ⟨bC, 0, none⟩ = some (.slice (some ⟨bH, oH, none⟩) hs.length hcap) ∧ w8.cell? ⟨bH, oH + k * 2, none⟩ = some (.int .u64 (lo q)) ∧ w8.cell? ⟨bH, oH + k * 2 + 1, none⟩ = some (.int .u64 (hi q)) ∧ w8.cell? ⟨w.heap.size, 0, none⟩ = some (.int .u64 (lo a)) ∧ w8.cell? ⟨w.heap.size, 1, none⟩ = some (.int .u64 (hi a)) := ⟨hX8.cell 0, hq.out ▸ (hH8 k hkm).1, hq.out ▸ (hH8 k hkm).2.1, hB8.cell 0, hB8.cell 1⟩
          clear hcall hO70 E6 hXr hLr hRl hS x0 x4 m0 m1 y0 y1 hw hN hN8' hBr hHr hH8
          cases rc with
          | no =>
            have hI2 := hd ((hno2 rb rfl).symm.trans hI.out)
            go_simp
            refine hK.out _ _ hS8 (fun _ => ?_)
            clear hK K hno2 hhit2 hover2
            refine wpAnyH_take (i := 21) (v := ?_) rfl (by kernel_rfl) (by kernel_rfl) (by kernel_rfl) (fun _ _ _ h => h) (Or.inl ⟨by rfl, ?_⟩) hS8 ?_
            rotate_left
            · (intro W9 hW9; obtain ⟨z0, z1, z2, z3, z4⟩ := hW9; go_simp; try with_reducible rfl)
            try simp only [Act.put, List.setIfInBounds_toArray, List.set_cons_zero, List.set_cons_succ]
            refine wpAnyH_take (i := 22) (v := ?_) rfl (by kernel_rfl) (by kernel_rfl) (by kernel_rfl) (fun _ _ _ h => h) (Or.inl ⟨by rfl, ?_⟩) hS8 ?_
            rotate_left
            · (intro W9 hW9; obtain ⟨z0, z1, z2, z3, z4⟩ := hW9; go_simp; try with_reducible rfl)
            try simp only [Act.put, List.setIfInBounds_toArray, List.set_cons_zero, List.set_cons_succ]
            refine wpAnyH_take (i := 23) (v := ?_) rfl (by kernel_rfl) (by kernel_rfl) (by kernel_rfl) (fun _ _ _ h => h) (Or.inl ⟨by rfl, ?_⟩) hS8 ?_
            rotate_left
            · (intro W9 hW9; obtain ⟨z0, z1, z2, z3, z4⟩ := hW9; go_simp; try with_reducible rfl)
            try simp only [Act.put, List.setIfInBounds_toArray, List.set_cons_zero, List.set_cons_succ]
            refine wpAnyH_take (i := 24) (v := ?_) rfl (by kernel_rfl) (by kernel_rfl) (by kernel_rfl) (fun _ _ _ h => h) (Or.inl ⟨by rfl, ?_⟩) hS8 ?_
            rotate_left
            · (intro W9 hW9; obtain ⟨z0, z1, z2, z3, z4⟩ := hW9; go_simp; try with_reducible rfl)
            try simp only [Act.put, List.setIfInBounds_toArray, List.set_cons_zero, List.set_cons_succ]
            refine wpAnyH_take (i := 25) (v := ?_) rfl (by kernel_rfl) (by kernel_rfl) (by kernel_rfl) (fun _ _ _ h => h) (Or.inl ⟨by rfl, ?_⟩) hS8 ?_
            rotate_left
            · (intro W9 hW9; obtain ⟨z0, z1, z2, z3, z4⟩ := hW9; go_simp; try with_reducible rfl)
            try simp only [Act.put, List.setIfInBounds_toArray, List.set_cons_zero, List.set_cons_succ]
            clear hS8
            refine wpAnyH_done (by kernel_rfl) ?_ _
            go_wp2
            go_roundg (hs.length - n - (k + 1) + 1)
            case rel => exact ⟨k + 1, rb, false, rfl, by omega, by omega, .inl ⟨rfl, rfl, hI2⟩, hw8, hN8, hB8, hX8⟩
            case measure => omega
          | hit l' =>
            have hI2 := (hhit2 l' rb rfl).symm.trans hI.out
            subst hI2
            obtain ⟨B8, c8, rfl, hR8⟩ := hF8 l' rfl
            go_simp
            refine hK.out _ _ hS8 (fun _ => ?_)
            clear hK K hno2 hhit2 hover2
            refine wpAnyH_take (i := 21) (v := ?_) rfl (by kernel_rfl) (by kernel_rfl) (by kernel_rfl) (fun _ _ _ h => h) (Or.inl ⟨by rfl, ?_⟩) hS8 ?_
            rotate_left
            · (intro W9 hW9; obtain ⟨z0, z1, z2, z3, z4⟩ := hW9; go_simp; try with_reducible rfl)
            try simp only [Act.put, List.setIfInBounds_toArray, List.set_cons_zero, List.set_cons_succ]
            refine wpAnyH_take (i := 22) (v := ?_) rfl (by kernel_rfl) (by kernel_rfl) (by kernel_rfl) (fun _ _ _ h => h) (Or.inl ⟨by rfl, ?_⟩) hS8 ?_
            rotate_left
            · (intro W9 hW9; obtain ⟨z0, z1, z2, z3, z4⟩ := hW9; go_simp; try with_reducible rfl)
            try simp only [Act.put, List.setIfInBounds_toArray, List.set_cons_zero, List.set_cons_succ]
            refine wpAnyH_take (i := 23) (v := ?_) rfl (by kernel_rfl) (by kernel_rfl) (by kernel_rfl) (fun _ _ _ h => h) (Or.inl ⟨by rfl, ?_⟩) hS8 ?_
            rotate_left
            · (intro W9 hW9; obtain ⟨z0, z1, z2, z3, z4⟩ := hW9; go_simp; try with_reducible rfl)
            try simp only [Act.put, List.setIfInBounds_toArray, List.set_cons_zero, List.set_cons_succ]
            refine wpAnyH_take (i := 24) (v := ?_) rfl (by kernel_rfl) (by kernel_rfl) (by kernel_rfl) (fun _ _ _ h => h) (Or.inl ⟨by rfl, ?_⟩) hS8 ?_
            rotate_left
            · (intro W9 hW9; obtain ⟨z0, z1, z2, z3, z4⟩ := hW9; go_simp; try with_reducible rfl)
            try simp only [Act.put, List.setIfInBounds_toArray, List.set_cons_zero, List.set_cons_succ]
            refine wpAnyH_take (i := 25) (v := ?_) rfl (by kernel_rfl) (by kernel_rfl) (by kernel_rfl) (fun _ _ _ h => h) (Or.inl ⟨by rfl, ?_⟩) hS8 ?_
            rotate_left
            · (intro W9 hW9; obtain ⟨z0, z1, z2, z3, z4⟩ := hW9; go_simp; try with_reducible rfl)
            try simp only [Act.put, List.setIfInBounds_toArray, List.set_cons_zero, List.set_cons_succ]
            clear hS8
            refine wpAnyH_done (by kernel_rfl) ?_ _
            go_wp2
            refine bodyPost_ret (v := .tuple #[.slice B8 l'.length c8, .bool true]) (by simp [results, Tryd.results58, go_sem]) rfl ⟨_, rfl, hX8, hw8, hN8, fun l2 h => by cases h; exact ⟨_, _, rfl, hR8⟩⟩
          | over =>
            have hI2 := hd ((hover2 rb rfl).symm.trans hI.out).symm
            go_simp
            refine hK.out _ _ hS8 (fun _ => ?_)
            clear hK K hno2 hhit2 hover2
            refine wpAnyH_take (i := 21) (v := ?_) rfl (by kernel_rfl) (by kernel_rfl) (by kernel_rfl) (fun _ _ _ h => h) (Or.inl ⟨by rfl, ?_⟩) hS8 ?_
            rotate_left
            · (intro W9 hW9; obtain ⟨z0, z1, z2, z3, z4⟩ := hW9; go_simp; try with_reducible rfl)
            try simp only [Act.put, List.setIfInBounds_toArray, List.set_cons_zero, List.set_cons_succ]
            refine wpAnyH_take (i := 22) (v := ?_) rfl (by kernel_rfl) (by kernel_rfl) (by kernel_rfl) (fun _ _ _ h => h) (Or.inl ⟨by rfl, ?_⟩) hS8 ?_
            rotate_left
            · (intro W9 hW9; obtain ⟨z0, z1, z2, z3, z4⟩ := hW9; go_simp; try with_reducible rfl)
            try simp only [Act.put, List.setIfInBounds_toArray, List.set_cons_zero, List.set_cons_succ]
            refine wpAnyH_take (i := 23) (v := ?_) rfl (by kernel_rfl) (by kernel_rfl) (by kernel_rfl) (fun _ _ _ h => h) (Or.inl ⟨by rfl, ?_⟩) hS8 ?_
            rotate_left
            · (intro W9 hW9; obtain ⟨z0, z1, z2, z3, z4⟩ := hW9; go_simp; try with_reducible rfl)
            try simp only [Act.put, List.setIfInBounds_toArray, List.set_cons_zero, List.set_cons_succ]
            refine wpAnyH_take (i := 24) (v := ?_) rfl (by kernel_rfl) (by kernel_rfl) (by kernel_rfl) (fun _ _ _ h => h) (Or.inl ⟨by rfl, ?_⟩) hS8 ?_
            rotate_left
            · (intro W9 hW9; obtain ⟨z0, z1, z2, z3, z4⟩ := hW9; go_simp; try with_reducible rfl)
            try simp only [Act.put, List.setIfInBounds_toArray, List.set_cons_zero, List.set_cons_succ]
            refine wpAnyH_take (i := 25) (v := ?_) rfl (by kernel_rfl) (by kernel_rfl) (by kernel_rfl) (fun _ _ _ h => h) (Or.inl ⟨by rfl, ?_⟩) hS8 ?_
            rotate_left
            · (intro W9 hW9; obtain ⟨z0, z1, z2, z3, z4⟩ := hW9; go_simp; try with_reducible rfl)
            try simp only [Act.put, List.setIfInBounds_toArray, List.set_cons_zero, List.set_cons_succ]
            clear hS8
            refine wpAnyH_done (by kernel_rfl) ?_ _
            go_wp2
            go_roundg 0
            case rel => exact ⟨k + 1, rb, true, rfl, by omega, by omega, .inr ⟨rfl, rfl, hI2⟩, hw8, hN8, hB8, hX8⟩
            case measure => omega
        · have hc : ((k : Int) + ((n : Int) + 1) ≤ (hs.length : Int)) = False := eq_false (by omega)
          have hv := hI.out
          rw [show hs.length - n - k = 0 by omega, hzero] at hv
          subst hv
          clear hno hhit hover hle hps
          go_wp2
          refine bodyPost_ret (v := .tuple #[.slice (some ⟨wo.heap.size, 0, none⟩) 0 0, .bool false]) (by simp [results, Tryd.results58, go_sem]) rfl ⟨_, rfl, hXr.alloc _, hw.alloc _, hN.ext ((Ext.refl _).alloc _), fun l' h => by cases h⟩
      · have hv := hI.out
        subst hv
        clear hno hhit hover hle hps
        by_cases hkl : ((k : Int) + ((n : Int) + 1) ≤ (hs.length : Int))
        · go_wp2
          refine bodyPost_ret (v := .tuple #[.slice (some ⟨wo.heap.size, 0, none⟩) 0 0, .bool false]) (by simp [results, Tryd.results58, go_sem]) rfl ⟨_, rfl, hXr.alloc _, hw.alloc _, hN.ext ((Ext.refl _).alloc _), fun l' h => by cases h⟩
        · go_wp2
          refine bodyPost_ret (v := .tuple #[.slice (some ⟨wo.heap.size, 0, none⟩) 0 0, .bool false]) (by simp [results, Tryd.results58, go_sem]) rfl ⟨_, rfl, hXr.alloc _, hw.alloc _, hN.ext ((Ext.refl _).alloc _), fun l' h => by cases h⟩
end Go.Proofs.YtegopgpnjgikeaaDoor
set_option linter.unusedVariables false
set_option linter.unusedSimpArgs false
set_option maxRecDepth 100000
namespace Go.Proofs.YtegopgpnjgikeaaDoor
open Go.RowKit
set_option maxHeartbeats 4000000 in
theorem impl_ExplainMask (x : Mx) (hxi : MxIn x) (m : Mask) (vs : List ByteArray) (A : Option Addr) (cap : Nat) (a : Int) (ha0 : -9223372036854775808 ≤ a) (ha1 : a < 9223372036854775808) (w : World) (hR : Rd encStr w A vs) (hn : vs.length ≤ 1048576) (hok : ∀ x ∈ vs, StrIn x) :
    Calls Tryd.prog 15 #[.agg #[.int .i16 x.st, .int .i16 x.sz, .int .i16 x.per], .agg #[.int .u64 (lo m), .int .u64 (hi m)], .slice A vs.length cap, .int .i64 a] w fun e w' => ∃ v, e = .returned (.tuple #[v, .int .i64 (expF x m vs a).2]) ∧ Ow encI64 2 w' w.heap.size v (expF x m vs a).1 ∧ Ext w w' := by
  have hcv := fun (W : World) (hE : Ext w W) => impl_checkVocabulary x hxi m vs A cap W (hR.ext hE) hn hok
  have hmb := fun (hq : mixB x = true) (W : World) (hE : Ext w W) => impl_maybe x hq m vs A cap W (hR.ext hE) hn hok
  have hpa := fun (hq : mixB x = true) (W : World) => impl_partX x hq W
  have hha := fun (hq : mixB x = true) (ls : List Int) (B : Option Addr) (cap' : Nat) (W : World) (hE : Ext w W) (hS : Rd encI64 W B ls) (hm : ls.length ≤ 1048576) (hin : ∀ k ∈ ls, 0 ≤ k ∧ k < vs.length) => impl_holesAt x hq vs A cap ls B cap' W (hR.ext hE) hn hok hS hm hin
  have hse := fun (hq : mixB x = true) (mb : List Int) (B : Option Addr) (cap' : Nat) (T : Mask) (bE : Nat) (w0 : World) (hE : Ext w w0) => impl_search x hq vs A cap mb B cap' T bE w0 (hR.ext hE) hn hok
  have hno := exp_no (x := x) (m := m) (vs := vs) (a := a)
  have hfar := exp_far (x := x) (m := m) (vs := vs) (a := a)
  have hnone := exp_none (x := x) (m := m) (vs := vs) (a := a)
  have hok1 := exp_ok (x := x) (m := m) (vs := vs) (a := a)
  have hz := ask_zero (x := x) (ms := [m]) (ws := vs) (most := 40)
  have hmbl := mbX_len x m vs
  have hmbi : ∀ k ∈ mbX x m vs, 0 ≤ k ∧ k < vs.length := maybeTo_in x m vs vs.length
  rw [show maybeTo x m vs vs.length = mbX x m vs from rfl] at hmb
  have hT : wantX x m = mmeet m (partX x) := rfl
  have hhl := hsL_len x vs (mbX x m vs)
  generalize mbX x m vs = mb at hmb hmbl hmbi hnone hok1 hhl
  generalize askF x [m] vs 40 = c at hcv hno hfar hnone hok1 hz
  have hse := fun (hq : mixB x = true) => hse hq mb
  obtain ⟨st, sz, per⟩ := x
  dsimp only at hcv hmb hpa hha hse
  have e2 := eqA_Mask
  have hx := @ExtOf.cell
  by_cases hc : c = 0
  · subst hc
    have hmx := (hz rfl).1
    have hv40 := (hz rfl).2.2.2.1
    replace hmb := hmb hmx
    replace hpa := hpa hmx
    replace hha := hha hmx
    replace hse := hse hmx
    replace hfar := hfar rfl
    replace hnone := hnone rfl
    replace hok1 := hok1 rfl
    clear hno hz
    generalize partX ⟨st, sz, per⟩ = pm at hpa hT
    generalize wantX ⟨st, sz, per⟩ m = T at hT hnone hok1
    generalize hhs : hsL ⟨st, sz, per⟩ vs mb = hs at hnone hok1 hhl hse
    go_enter Tryd.func15, Tryd.ntmps15
    go_wp2_with fail
    refine Calls.mono (hcv _ (by ((repeat (first | with_reducible exact Ext.refl _ | with_reducible exact hw | with_reducible exact hb9 | with_reducible exact hb8 | with_reducible exact hb7 | with_reducible exact hb6 | with_reducible exact hb5 | with_reducible exact hb4 | with_reducible exact hb3 | with_reducible exact hb2 | with_reducible exact hb1 | with_reducible refine Ext.alloc ?_ _ | with_reducible refine Ext.drew ?_ | ((with_reducible refine Ext.set ?_ ?_ _); focus (dsimp only; omega)) | with_reducible refine Ext.trans ?_ hb9 | with_reducible refine Ext.trans ?_ hb8 | with_reducible refine Ext.trans ?_ hb7 | with_reducible refine Ext.trans ?_ hb6 | with_reducible refine Ext.trans ?_ hb5 | with_reducible refine Ext.trans ?_ hb4 | with_reducible refine Ext.trans ?_ hb3 | with_reducible refine Ext.trans ?_ hb2 | with_reducible refine Ext.trans ?_ hb1 | with_reducible refine Ext.trans ?_ hw))))) ?_
    rintro e w1 ⟨rfl, hb1⟩
    have hX : BoxAt w1 w.heap.size #[.int .i16 st, .int .i16 sz, .int .i16 per] 26 := ((BoxAt.new' rfl).alloc _).ext hb1
    have hM : BoxAt w1 (w.heap.size + 1) #[.int .u64 (lo m), .int .u64 (hi m)] 33 := (BoxAt.new' (by simp)).ext hb1
    have hw1 : Ext w w1 := (((Ext.refl _).alloc _).alloc _).trans hb1
    clear hb1
    have x0 : w1.cell? ⟨w.heap.size, 0, none⟩ = some (.int .i16 st) := hX.cell 0
    have x1 : w1.cell? ⟨w.heap.size, 1, none⟩ = some (.int .i16 sz) := hX.cell 1
    have x2 : w1.cell? ⟨w.heap.size, 2, none⟩ = some (.int .i16 per) := hX.cell 2
    have y0 : w1.cell? ⟨w.heap.size + 1, 0, none⟩ = some (.int .u64 (lo m)) := hM.cell 0
    have y1 : w1.cell? ⟨w.heap.size + 1, 1, none⟩ = some (.int .u64 (hi m)) := hM.cell 1
    have lX := hX.lt
    have lM := hM.lt
    by_cases hl0 : a < 0
    · have hv := hd (hfar (by omega))
      clear hfar hnone hok1
      go_wp2
      refine bodyPost_ret (v := .tuple #[.slice none 0 0, .int .i64 2]) (by simp [results, Tryd.results15, go_sem]) rfl ⟨_, by rw [hv.out], by rw [hv.out]; exact Ow.nil _ _ _ _, hw1⟩
    by_cases hl1 : 2000 < a
    · have hv := hd (hfar (by omega))
      clear hfar hnone hok1
      go_wp2
      refine bodyPost_ret (v := .tuple #[.slice none 0 0, .int .i64 2]) (by simp [results, Tryd.results15, go_sem]) rfl ⟨_, by rw [hv.out], by rw [hv.out]; exact Ow.nil _ _ _ _, hw1⟩
    replace hnone := hnone ⟨by omega, by omega⟩
    replace hok1 := hok1 ⟨by omega, by omega⟩
    clear hfar
    go_wp2_with fail
    refine Calls.mono (hmb _ hw1) ?_
    rintro e w2 ⟨v2, rfl, hO2, hb2⟩
    obtain ⟨B, capB, rfl, hleB, hRB⟩ := hO2.slice
    have hw2 := hw1.trans hb2
    have hX := hX.ext hb2
    have hM := hM.ext hb2
    clear x0 x1 x2 y0 y1 lX lM hb2 hO2
    have x0 : w2.cell? ⟨w.heap.size, 0, none⟩ = some (.int .i16 st) := hX.cell 0
    have x1 : w2.cell? ⟨w.heap.size, 1, none⟩ = some (.int .i16 sz) := hX.cell 1
    have x2 : w2.cell? ⟨w.heap.size, 2, none⟩ = some (.int .i16 per) := hX.cell 2
    have y0 : w2.cell? ⟨w.heap.size + 1, 0, none⟩ = some (.int .u64 (lo m)) := hM.cell 0
    have y1 : w2.cell? ⟨w.heap.size + 1, 1, none⟩ = some (.int .u64 (hi m)) := hM.cell 1
    have lX := hX.lt
    have lM := hM.lt
    have hme := fun W => impl_MeetMasks m pm W
    rw [← hT] at hme
    clear hT
    go_wp2
    refine wp_region_float 4 4 12 _ #[.int .u64 0, .int .u64 0] 33 (by kernel_rfl) (by kernel_rfl) rfl rfl rfl rfl (fun _ _ => by go_simp) (by intro d _ _ _ _ h; cases d <;> exact h) ?_
    simp only [List.take_succ_cons, List.take_zero, List.drop_succ_cons, List.drop_zero]
    repeat (refine wpX_step (fun K hK => ?_); go_simp; first | (refine hK _ ?_; clear hK K) | (apply Exists.intro; refine ⟨fun x => ?_, hK _ ?_⟩; ((first | (go_at_call 53; with_reducible exact hpa _) | (go_at_call 52; with_reducible exact hme _))); clear hK K))
    refine wpX_nil ?_
    intro b5 w5 hb5 hbb5 hcb5
    obtain ⟨hc5, hf5, hz5⟩ := bcell3 hb5
    try simp at hz5
    try simp at hbb5
    have hz5_0 : w.heap.size < w5.heap.size := by omega
    have hn5_0 : ¬ (b5 = w.heap.size) := by omega
    have hz5_1 : w.heap.size + 1 < w5.heap.size := by omega
    have hn5_1 : ¬ (b5 = w.heap.size + 1) := by omega
    have hbl5 := blk_lt hcb5
    have hbf5 := blk_free hcb5
    have hbc5_0 : w5.cell? ⟨b5, 0, none⟩ = some (.int .u64 0) := blk_cell hcb5 0 rfl
    have hbc5_1 : w5.cell? ⟨b5, 1, none⟩ = some (.int .u64 0) := blk_cell hcb5 1 rfl
    have hX5 : BoxAt w5 b5 #[.int .u64 0, .int .u64 0] 33 := hcb5
    clear hcb5
    go_wp2
    refine intro_world (R := fun W => Code.wp _ _ _ _ W) (fun W6 hW6 => ?_)
    have hE6 : Ext w2 W6 := by rw [hW6]; exact Ext.set hbb5 (Ext.set hbb5 hb5 _) _
    have hT6 : BoxAt W6 b5 #[.int .u64 (lo T), .int .u64 (hi T)] 33 := by rw [hW6]; exact (hX5.set 0 _).set 1 _
    clear hW6 hb5 hc5 hf5 hz5 hz5_0 hn5_0 hz5_1 hn5_1 hbl5 hbf5 hbc5_0 hbc5_1 hX5 hM
    have hX := hX.ext hE6
    have hRB := hRB.ext hE6
    have hw6 := hw2.trans hE6
    clear x0 x1 x2 y0 y1 lX lM hE6
    have x0 : W6.cell? ⟨w.heap.size, 0, none⟩ = some (.int .i16 st) := hX.cell 0
    have x1 : W6.cell? ⟨w.heap.size, 1, none⟩ = some (.int .i16 sz) := hX.cell 1
    have x2 : W6.cell? ⟨w.heap.size, 2, none⟩ = some (.int .i16 per) := hX.cell 2
    have y0 : W6.cell? ⟨b5, 0, none⟩ = some (.int .u64 (lo T)) := hT6.cell 0
    have y1 : W6.cell? ⟨b5, 1, none⟩ = some (.int .u64 (hi T)) := hT6.cell 1
    have lX := hX.lt
    have lM := hT6.lt
    have hha6 := fun (W : World) (hE : Ext W6 W) => hha mb B capB W (hw6.trans hE) (hRB.ext hE) (by omega) hmbi
    rw [hhs] at hha6
    have e1 := lohi_meq (joinL hs) T
    cases hq : meqB (joinL hs) T with
    | false =>
      have hv := hd (hnone hq)
      rw [hq] at e1
      clear hnone hok1 hq
      refine wp_region_ext (by kernel_rfl) (by kernel_rfl) ?_
      repeat (first | go_big_quiet_step (((go_at_call 54; with_reducible exact Calls.ext_all (fun W hE => hha6 W hE)))) | quiet_step (((go_at_call 54; with_reducible exact Calls.ext_all (fun W hE => hha6 W hE)))))
      refine wpQuiet_nil ?_
      intro w7 hq7
      have hb7 := ext_of_class hq7
      clear hq7
      obtain ⟨hc7, hf7, hz7⟩ := bcell3 hb7
      try simp at hz7
      go_wp2
      refine bodyPost_ret (v := .tuple #[.slice none 0 0, .int .i64 6]) (by simp [results, Tryd.results15, go_sem]) rfl ⟨_, by rw [hv.out], by rw [hv.out]; exact Ow.nil _ _ _ _, hw6.trans hb7⟩
    | true =>
      have hv := hd (hok1 hq)
      have hfull := srchA_full hq a.toNat
      rw [hq] at e1
      clear hnone hok1 hq
      refine wp_region_ext (by kernel_rfl) (by kernel_rfl) ?_
      repeat (first | go_big_quiet_step (((go_at_call 54; with_reducible exact Calls.ext_all (fun W hE => hha6 W hE)))) | quiet_step (((go_at_call 54; with_reducible exact Calls.ext_all (fun W hE => hha6 W hE)))))
      refine wpQuiet_nil ?_
      intro w7 hq7
      have hb7 := ext_of_class hq7
      clear hq7
      obtain ⟨hc7, hf7, hz7⟩ := bcell3 hb7
      try simp at hz7
      have hX := hX.ext hb7
      have hT7 := hT6.ext hb7
      have hRB := hRB.ext hb7
      have hw7 := hw6.trans hb7
      clear hc7 hf7 hz7 hb7 x0 x1 x2 y0 y1 lX lM hT6 hw6 hha6 e1 hha
      have x0 : w7.cell? ⟨w.heap.size, 0, none⟩ = some (.int .i16 st) := hX.cell 0
      have x1 : w7.cell? ⟨w.heap.size, 1, none⟩ = some (.int .i16 sz) := hX.cell 1
      have x2 : w7.cell? ⟨w.heap.size, 2, none⟩ = some (.int .i16 per) := hX.cell 2
      have y0 : w7.cell? ⟨b5, 0, none⟩ = some (.int .u64 (lo T)) := hT7.cell 0
      have y1 : w7.cell? ⟨b5, 1, none⟩ = some (.int .u64 (hi T)) := hT7.cell 1
      have lX := hX.lt
      have lM := hT7.lt
      have hse := hse B capB T w7.heap.size w7 hw7 hRB (by omega) hmbi (Nat.le_refl _)
      obtain ⟨b, rfl⟩ : ∃ b : Nat, a = b := ⟨a.toNat, by omega⟩
      rw [Int.toNat_natCast] at hv hfull
      have hb2 : b ≤ 2000 := by omega
      clear hl0 hl1 ha0 ha1
      have hzero := srchA_zero hs T
      have hno := fun c i b b' => srchA_no (hs := hs) (T := T) (c := c) (m := i) (b := b) (b' := b')
      have hhit := fun l' c i b b' => srchA_hit (hs := hs) (T := T) (l := l') (c := c) (m := i) (b := b) (b' := b')
      have hover := fun c i b b' => srchA_over (hs := hs) (T := T) (c := c) (m := i) (b := b) (b' := b')
      have hle := fun k bk => srch_le hs T k 0 [] bk
      rw [hhl] at hv hfull
      generalize hinv : srchA hs T (mb.length + 1) 0 b = R at hv hfull
      have hinv := hd hinv
      go_wp2
      go_loopg [14] (mb.length + 1) (fun g iv wr => ∃ k bk : Nat, ∃ f : Value, g = mb.length + 1 - k ∧ iv = .int .i64 k ∧ k ≤ mb.length + 1 ∧ bk ≤ 2000 ∧ Hd (srchA hs T (mb.length + 1 - k) k bk = R) ∧ Ext w7 wr ∧ BoxAt wr w7.heap.size #[.int .i16 st, .int .i16 sz, .int .i16 per, .slice A vs.length cap, .slice B mb.length capB, .int .u64 (lo T), .int .u64 (hi T), .int .i64 bk, .int .i64 0, f] 84)
      case atStart => exact ⟨0, b, .slice none 0 0, rfl, rfl, by omega, hb2, hd (by rw [Nat.sub_zero]; exact hinv.out), (Ext.refl _).alloc _, BoxAt.new' rfl⟩
      case round =>
        obtain ⟨k, bk, f, hg, rfl, hk, hbk, hI, hw, hXr⟩ := hrel
        obtain ⟨wo, hwo⟩ : ∃ x, x = wr := ⟨_, rfl⟩
        subst hwo
        by_cases hkl : k ≤ mb.length
        · have hcall := hse k 0 [] none 0 bk f wo (by omega) (by omega) (by rw [List.length_nil]; omega) hbk (fun j hj => by cases hj) (Ow.nil _ _ _ _) hw hXr
          rw [List.length_nil, show ((0 : Nat) : Int) = 0 from rfl] at hcall
          have hce : mb.length + 1 - k = (mb.length + 1 - (k + 1)) + 1 := by omega
          have hle2 := hle k bk
          have hno2 := fun b' => hno (mb.length + 1 - (k + 1)) k bk b'
          have hhit2 := fun l' b' => hhit l' (mb.length + 1 - (k + 1)) k bk b'
          have hover2 := fun b' => hover (mb.length + 1 - (k + 1)) k bk b'
          generalize srch hs T k 0 [] bk = r at hcall hle2 hno2 hhit2 hover2
          obtain ⟨rc, rb⟩ := r
          dsimp only at hcall hle2
          rw [hce] at hI
          clear hno hhit hover hle hse
          go_wp2_with fail
          refine Calls.mono hcall ?_
          rintro e w8 ⟨rfl, f8, hX8, hw8, hN8, hF8⟩
          clear hcall hXr hN8 hw
          cases rc with
          | no =>
            have hI2 := hd ((hno2 rb rfl).symm.trans hI.out)
            clear hno2 hhit2 hover2
            go_simp
            go_wp2
            go_roundg (mb.length + 1 - (k + 1))
            case rel => exact ⟨k + 1, rb, f8, rfl, by simp, by omega, by omega, hI2, hw8, hX8⟩
            case measure => omega
          | hit l' =>
            have hI2 := (hhit2 l' rb rfl).symm.trans hI.out
            subst hI2
            obtain ⟨AF, cF, rfl, _, _⟩ := (hF8 l' rfl).slice
            have hO8 := (hF8 l' rfl).lower (base' := w.heap.size) (by have := hw7.size; omega)
            have z8 : w8.cell? ⟨w7.heap.size, 8, none⟩ = some (.int .i64 0) := hX8.cell 8
            have z9 : w8.cell? ⟨w7.heap.size, 9, none⟩ = some (.slice AF (pickI mb l').length cF) := hX8.cell 9
            have lX8 := hX8.lt
            clear hno2 hhit2 hover2
            go_simp
            go_wp2
            refine bodyPost_ret (v := .tuple #[.slice AF (pickI mb l').length cF, .int .i64 0]) (by simp [results, Tryd.results15, go_sem]) rfl ⟨_, by rw [hv.out]; rfl, by rw [hv.out]; exact hO8, hw7.trans hw8⟩
          | over =>
            have hI2 := (hover2 rb rfl).symm.trans hI.out
            subst hI2
            have z8 : w8.cell? ⟨w7.heap.size, 8, none⟩ = some (.int .i64 7) := hX8.cell 8
            have lX8 := hX8.lt
            clear hno2 hhit2 hover2
            go_simp
            go_wp2
            refine wp_region_ext (by kernel_rfl) (by kernel_rfl) ?_
            repeat (first | go_big_quiet_step (fail) | quiet_step (fail))
            refine wpQuiet_nil ?_
            intro w9 hq9
            have hb9 := ext_of_class hq9
            clear hq9
            obtain ⟨hc9, hf9, hz9⟩ := bcell3 hb9
            try simp at hz9
            go_wp2
            refine bodyPost_ret (v := .tuple #[.slice none 0 0, .int .i64 7]) (by simp [results, Tryd.results15, go_sem]) rfl ⟨_, by rw [hv.out]; rfl, by rw [hv.out]; exact Ow.nil _ _ _ _, (hw7.trans hw8).trans hb9⟩
        · have hv2 := hI.out
          rw [show mb.length + 1 - k = 0 by omega, hzero] at hv2
          subst hv2
          exact absurd rfl hfull
  · have hv := hd (hno hc)
    have hcb : (c != 0) = true := by simp [hc]
    clear hno hz hnone hok1 hfar hse
    go_enter Tryd.func15, Tryd.ntmps15
    go_wp2_with fail
    refine Calls.mono (hcv _ (by ((repeat (first | with_reducible exact Ext.refl _ | with_reducible exact hw | with_reducible exact hb9 | with_reducible exact hb8 | with_reducible exact hb7 | with_reducible exact hb6 | with_reducible exact hb5 | with_reducible exact hb4 | with_reducible exact hb3 | with_reducible exact hb2 | with_reducible exact hb1 | with_reducible refine Ext.alloc ?_ _ | with_reducible refine Ext.drew ?_ | ((with_reducible refine Ext.set ?_ ?_ _); focus (dsimp only; omega)) | with_reducible refine Ext.trans ?_ hb9 | with_reducible refine Ext.trans ?_ hb8 | with_reducible refine Ext.trans ?_ hb7 | with_reducible refine Ext.trans ?_ hb6 | with_reducible refine Ext.trans ?_ hb5 | with_reducible refine Ext.trans ?_ hb4 | with_reducible refine Ext.trans ?_ hb3 | with_reducible refine Ext.trans ?_ hb2 | with_reducible refine Ext.trans ?_ hb1 | with_reducible refine Ext.trans ?_ hw))))) ?_
    rintro e w1 ⟨rfl, hb1⟩
    have hw1 : Ext w w1 := (((Ext.refl _).alloc _).alloc _).trans hb1
    go_wp2
    refine bodyPost_ret (v := .tuple #[.slice none 0 0, .int .i64 c]) (by simp [results, Tryd.results15, go_sem]) rfl ⟨_, by rw [hv.out], by rw [hv.out]; exact Ow.nil _ _ _ _, hw1⟩
end Go.Proofs.YtegopgpnjgikeaaDoor
set_option linter.unusedVariables false
set_option linter.unusedSimpArgs false
set_option maxRecDepth 100000
namespace Go.Proofs.YtegopgpnjgikeaaDoor
open Go.RowKit
set_option maxHeartbeats 4000000 in
theorem spec_ExplainMask (x : Mx) (hxi : MxIn x) (m : Mask) (vs : List ByteArray) (A : Option Addr) (cap : Nat) (a : Int) (ha0 : -9223372036854775808 ≤ a) (ha1 : a < 9223372036854775808) (w : World) (hR : Rd encStr w A vs) (hn : vs.length ≤ 1048576) (hok : ∀ x ∈ vs, StrIn x) :
    Calls Tryd.prog 16 #[.agg #[.int .i16 x.st, .int .i16 x.sz, .int .i16 x.per], .agg #[.int .u64 (lo m), .int .u64 (hi m)], .slice A vs.length cap, .int .i64 a] w fun e w' => ∃ v, e = .returned (.tuple #[v, .int .i64 (expF x m vs a).2]) ∧ Ow encI64 2 w' w.heap.size v (expF x m vs a).1 ∧ Ext w w' := by
  have hM0 : ∀ W, BoxAt W w.heap.size #[.int .i16 x.st, .int .i16 x.sz, .int .i16 x.per] 26 → MixAt W w.heap.size 0 x := fun W h => ⟨h.cell 0, h.cell 1, h.cell 2⟩
  have hask := fun (B : Option Addr) (W : World) (h : MixAt W w.heap.size 0 x) (hE : Ext w W) (hS : Rd encMask W B [m]) => spec_l03Asked x hxi w.heap.size 0 [m] B 1 vs A cap 40 W h hS (by simp) (hR.ext hE) hn hok
  have hmb := fun (hq : mixB x = true) (W : World) (h : MixAt W w.heap.size 0 x) (hE : Ext w W) => spec_l03Maybe x hq m vs A cap w.heap.size 0 W h (hR.ext hE) hn hok
  have hbg := fun (hq : mixB x = true) (B : Option Addr) (cap' : Nat) (W : World) (h : MixAt W w.heap.size 0 x) (hE : Ext w W) (hS : Rd encI64 W B (mbX x m vs)) (hm : (mbX x m vs).length ≤ 1048576) (hin : ∀ k ∈ mbX x m vs, 0 ≤ k ∧ k < vs.length) => spec_l03Begin x hq m vs A cap (mbX x m vs) B cap' w.heap.size 0 W h (hR.ext hE) hn hok hS hm hin
  have hno := exp_no (x := x) (m := m) (vs := vs) (a := a)
  have hfar := exp_far (x := x) (m := m) (vs := vs) (a := a)
  have hnone := exp_none (x := x) (m := m) (vs := vs) (a := a)
  have hok1 := exp_ok (x := x) (m := m) (vs := vs) (a := a)
  have hz := ask_zero (x := x) (ms := [m]) (ws := vs) (most := 40)
  have hmbl := mbX_len x m vs
  have hmbi : ∀ k ∈ mbX x m vs, 0 ≤ k ∧ k < vs.length := maybeTo_in x m vs vs.length
  rw [show maybeTo x m vs vs.length = mbX x m vs from rfl] at hmb
  have hhl : (hsL x vs (mbX x m vs)).length = (mbX x m vs).length := hsL_len _ _ _
  generalize mbX x m vs = mb at hmb hmbl hmbi hnone hok1 hbg hhl
  generalize askF x [m] vs 40 = c at hask hno hfar hnone hok1 hz
  have e2 := eqA_Mask
  have hin0 := fun W => spec_l00In a 0 2000 W
  have hx := @ExtOf.cell
  by_cases hc : c = 0
  · subst hc
    have hmx := (hz rfl).1
    have hv40 := (hz rfl).2.2.2.1
    replace hmb := hmb hmx
    replace hbg := hbg hmx
    replace hfar := hfar rfl
    replace hnone := hnone rfl
    replace hok1 := hok1 rfl
    clear hno hz
    generalize wantX x m = T at hbg hnone hok1
    generalize hsL x vs mb = hs at hbg hnone hok1 hhl
    go_enter Tryd.func16, Tryd.ntmps16
    go_wp2_with fail
    refine Calls.mono (hask (some ⟨w.heap.size + 1 + 1, 0, none⟩) _ (hM0 _ (((BoxAt.new' rfl).alloc _).alloc _)) (by ((repeat (first | with_reducible exact Ext.refl _ | with_reducible exact hw | with_reducible exact hb9 | with_reducible exact hb8 | with_reducible exact hb7 | with_reducible exact hb6 | with_reducible exact hb5 | with_reducible exact hb4 | with_reducible exact hb3 | with_reducible exact hb2 | with_reducible exact hb1 | with_reducible refine Ext.alloc ?_ _ | with_reducible refine Ext.drew ?_ | ((with_reducible refine Ext.set ?_ ?_ _); focus (dsimp only; omega)) | with_reducible refine Ext.trans ?_ hb9 | with_reducible refine Ext.trans ?_ hb8 | with_reducible refine Ext.trans ?_ hb7 | with_reducible refine Ext.trans ?_ hb6 | with_reducible refine Ext.trans ?_ hb5 | with_reducible refine Ext.trans ?_ hb4 | with_reducible refine Ext.trans ?_ hb3 | with_reducible refine Ext.trans ?_ hb2 | with_reducible refine Ext.trans ?_ hb1 | with_reducible refine Ext.trans ?_ hw)))) (by simpa using Rd.lit encMask ((w.alloc (.cells #[.int .i16 x.st, .int .i16 x.sz, .int .i16 x.per] 26)).alloc (.cells #[.int .u64 (lo m), .int .u64 (hi m)] 33)) [m] #[.int .u64 (lo m), .int .u64 (hi m)] 33 (by simp) rfl)) ?_
    rintro e w1 ⟨rfl, hb1⟩
    have hX : BoxAt w1 w.heap.size #[.int .i16 x.st, .int .i16 x.sz, .int .i16 x.per] 26 := (((BoxAt.new' rfl).alloc _).alloc _).ext hb1
    have hM : BoxAt w1 (w.heap.size + 1) #[.int .u64 (lo m), .int .u64 (hi m)] 33 := ((BoxAt.new' (by simp)).alloc _).ext hb1
    have hw1 : Ext w w1 := ((((Ext.refl _).alloc _).alloc _).alloc _).trans hb1
    clear hb1
    by_cases hl : 0 ≤ a ∧ a ≤ 2000
    rotate_left
    · have hv := hd (hfar hl)
      rw [show inB a 0 2000 = false by unfold inB; simp; omega] at hin0
      clear hfar hnone hok1 hl
      go_wp2_with fail
      refine Calls.mono (hin0 _) ?_
      rintro e w2 ⟨rfl, hb2⟩
      have hw2 := hw1.trans hb2
      go_wp2
      refine bodyPost_ret (v := .tuple #[.slice (some ⟨w2.heap.size, 0, none⟩) 0 0, .int .i64 2]) (by simp [results, Tryd.results16, go_sem]) rfl ⟨_, by rw [hv.out], by rw [hv.out]; exact Ow.made0 rfl hw2.size, hw2.alloc _⟩
    rw [show inB a 0 2000 = true by unfold inB; simp; omega] at hin0
    replace hnone := hnone hl
    replace hok1 := hok1 hl
    obtain ⟨hl0, hl1⟩ := hl
    obtain ⟨b, rfl⟩ : ∃ b : Nat, a = b := ⟨a.toNat, by omega⟩
    rw [Int.toNat_natCast] at hok1
    have hb2000 : b ≤ 2000 := by omega
    clear hfar hl0 hl1 ha0 ha1
    go_wp2_with fail
    refine Calls.mono (hin0 _) ?_
    rintro e w0 ⟨rfl, hb0⟩
    replace hX := hX.ext hb0
    replace hM := hM.ext hb0
    replace hw1 := hw1.trans hb0
    clear hb0 hin0
    obtain ⟨w1, hww⟩ : ∃ W, W = w0 := ⟨_, rfl⟩
    subst hww
    have y0 : w1.cell? ⟨w.heap.size + 1, 0, none⟩ = some (.int .u64 (lo m)) := hM.cell 0
    have y1 : w1.cell? ⟨w.heap.size + 1, 1, none⟩ = some (.int .u64 (hi m)) := hM.cell 1
    have lM := hM.lt
    go_wp2_with fail
    refine Calls.mono (hmb _ (hM0 _ hX) hw1) ?_
    rintro e w2 ⟨v2, rfl, hO2, hb2⟩
    obtain ⟨B, capB, rfl, hleB, hRB⟩ := hO2.slice
    have hw2 := hw1.trans hb2
    have hX := hX.ext hb2
    have hM := hM.ext hb2
    clear y0 y1 lM hb2 hO2
    have y0 : w2.cell? ⟨w.heap.size + 1, 0, none⟩ = some (.int .u64 (lo m)) := hM.cell 0
    have y1 : w2.cell? ⟨w.heap.size + 1, 1, none⟩ = some (.int .u64 (hi m)) := hM.cell 1
    have lM := hM.lt
    go_wp2_with fail
    refine Calls.mono (hbg B capB _ (hM0 _ hX) hw2 hRB (by omega) hmbi) ?_
    rintro e w3 ⟨b3, v3, rfl, hC3, hO3, hne3, hb3l, hb3⟩
    have hw3 := hw2.trans hb3
    have hRBw := fun (W : World) (hE : Ext w2 W) => hRB.ext hE
    clear y0 y1 lM hM hX hM0 hask hmb hbg hRB
    cases hq : meqB (joinL hs) T with
    | false =>
      have hv := hd (hnone hq)
      clear hnone hok1 hq
      go_wp2
      refine bodyPost_ret (v := .tuple #[.slice (some ⟨w3.heap.size, 0, none⟩) 0 0, .int .i64 6]) (by simp [results, Tryd.results16, go_sem]) rfl ⟨_, by rw [hv.out], by rw [hv.out]; exact Ow.made0 rfl hw3.size, hw3.alloc _⟩
    | true =>
      have hv := hd (hok1 hq)
      have hfull := srchA_full hq b
      clear hnone hok1 hq
      obtain ⟨AH, capH, rfl, hleH, hRH⟩ := hO3.slice
      have hHb : ∀ p, AH = some p → p.block ≠ b3 := fun p hp he => by subst hp; exact hne3 (by rw [← he]; rfl)
      have hft := spec_fits hs (by omega) AH capH T b3 w2 hb3l hHb
      clear hO3 hne3
      rw [hhl] at hC3 hv hfull
      have hzero := srchA_zero hs T
      have hno := fun c i b b' => srchA_no (hs := hs) (T := T) (c := c) (m := i) (b := b) (b' := b')
      have hhit := fun l' c i b b' => srchA_hit (hs := hs) (T := T) (l := l') (c := c) (m := i) (b := b) (b' := b')
      have hover := fun c i b b' => srchA_over (hs := hs) (T := T) (c := c) (m := i) (b := b) (b' := b')
      have hle := fun k bk => srch_le hs T k 0 [] bk
      have hin := fun l' k bk rb => srch_in (hs := hs) (T := T) (n := k) (i := 0) (l := []) (l' := l') (b := bk) (b' := rb)
      have hll := fun l' k bk rb => srch_len (hs := hs) (T := T) (n := k) (i := 0) (l := []) (l' := l') (b := bk) (b' := rb)
      generalize hinv : srchA hs T (mb.length + 1) 0 b = R at hv hfull
      have hinv := hd hinv
      have c3 : w3.cell? ⟨b3, 3, none⟩ = some (.int .i64 0) := hC3.cell 3
      have f3 := hC3.frozen 3
      have lC := hC3.lt
      rw [hhl] at hft
      go_wp2
      go_loopg [14] (mb.length + 1) (fun g iv wr => ∃ k bk : Nat, g = mb.length + 1 - k ∧ iv = .int .i64 k ∧ k ≤ mb.length + 1 ∧ bk ≤ 2000 ∧ Hd (srchA hs T (mb.length + 1 - k) k bk = R) ∧ Ext w2 wr ∧ Win b3 (b3 + 1) w3 wr ∧ BoxAt wr b3 #[.slice AH mb.length capH, .int .u64 (lo T), .int .u64 (hi T), .int .i64 bk, .bool false] 91)
      case atStart => exact ⟨0, b, rfl, rfl, by omega, hb2000, hd (by rw [Nat.sub_zero]; exact hinv.out), Ext.set hb3l hb3 _, (Win.refl _ _ _).set1 _, hC3.set 3 _⟩
      case round =>
        obtain ⟨k, bk, hg, rfl, hk, hbk, hI, hw, hN, hXr⟩ := hrel
        obtain ⟨wo, hwo⟩ : ∃ x, x = wr := ⟨_, rfl⟩
        subst hwo
        by_cases hkl : k ≤ mb.length
        · have lXr := hXr.lt
          have hcall := hft k 0 [] ⟨wo.heap.size, 0, none⟩ 0 bk 0 (wo.alloc (.cells #[] 2)) (by omega) (by omega) (by rw [List.length_nil]; omega) hbk (holesI_nil hs).symm ((hRH.win hN (fun q hq => by have := hHb q hq; omega)).ext ((Ext.refl _).alloc _)) (fun j hj => absurd hj (by simp)) (by dsimp only; omega) (hw.alloc _) (hXr.alloc _)
          rw [List.length_nil, show ((0 : Nat) : Int) = 0 from rfl, lo_zero, hi_zero] at hcall
          have hce : mb.length + 1 - k = (mb.length + 1 - (k + 1)) + 1 := by omega
          have hle2 := hle k bk
          have hno2 := fun b' => hno (mb.length + 1 - (k + 1)) k bk b'
          have hhit2 := fun l' b' => hhit l' (mb.length + 1 - (k + 1)) k bk b'
          have hover2 := fun b' => hover (mb.length + 1 - (k + 1)) k bk b'
          have hin2 := fun l' rb h => hin l' k bk rb h (fun j hj => by cases hj)
          have hll2 := fun l' rb => hll l' k bk rb
          generalize srch hs T k 0 [] bk = r at hcall hle2 hno2 hhit2 hover2 hin2 hll2
          obtain ⟨rc, rb⟩ := r
          dsimp only at hcall hle2
          rw [hce] at hI
          clear hno hhit hover hle hft hin hll
          go_wp2_with fail
          refine Calls.mono hcall ?_
          rintro e w8 ⟨v8, rfl, hX8, hw8, hN8, hF8⟩
          have hN8 := (hN.ext ((Ext.refl _).alloc _)).trans hN8
          clear hcall hXr hw hN lXr
          cases rc with
          | no =>
            have hI2 := hd ((hno2 rb rfl).symm.trans hI.out)
            have x4 : w8.cell? ⟨b3, 4, none⟩ = some (.bool false) := hX8.cell 4
            have lX8 := hX8.lt
            clear hno2 hhit2 hover2 hin2 hll2
            go_simp
            go_wp2
            go_roundg (mb.length + 1 - (k + 1))
            case rel => exact ⟨k + 1, rb, rfl, by simp, by omega, by omega, hI2, hw8, hN8, hX8⟩
            case measure => omega
          | over =>
            have hI2 := (hover2 rb rfl).symm.trans hI.out
            subst hI2
            have x4 : w8.cell? ⟨b3, 4, none⟩ = some (.bool true) := hX8.cell 4
            have lX8 := hX8.lt
            clear hno2 hhit2 hover2 hin2 hll2
            go_simp
            go_wp2
            refine bodyPost_ret (v := .tuple #[.slice (some ⟨w8.heap.size, 0, none⟩) 0 0, .int .i64 7]) (by simp [results, Tryd.results16, go_sem]) rfl ⟨_, by rw [hv.out]; rfl, by rw [hv.out]; exact Ow.made0 rfl (by have := hw2.size; have := hw8.size; omega), (hw2.trans hw8).alloc _⟩
          | hit l' =>
            have hI2 := (hhit2 l' rb rfl).symm.trans hI.out
            subst hI2
            obtain ⟨B8, c8, rfl, hR8⟩ := hF8 l' rfl
            have hil := hin2 l' rb rfl
            have hlen := hll2 l' rb rfl
            rw [hhl] at hil
            rw [List.length_nil] at hlen
            have x4 : w8.cell? ⟨b3, 4, none⟩ = some (.bool false) := hX8.cell 4
            have lX8 := hX8.lt
            have htk := fun j (h : j < l'.length) => pickI_take mb l' j h
            have hgi := fun j (h : j < mb.length) => getI mb j h
            have hpl := fun j => pickI_len mb (l'.take j)
            have hall : pickI mb (l'.take l'.length) = pickI mb l' := by rw [List.take_length]
            have hz0 : pickI mb (l'.take 0) = [] := by rw [List.take_zero]; rfl
            have hl8 : l'.length ≤ 40 := by omega
            clear hno2 hhit2 hover2 hin2 hll2 hF8 hlen
            go_simp
            go_wp2
            go_loopg [17, 18] l'.length (fun g ov iv wr => ∃ j : Nat, g = l'.length - j ∧ j ≤ l'.length ∧ iv = .int .i64 j ∧ Ext w8 wr ∧ Ow encI64 2 wr w8.heap.size ov (pickI mb (l'.take j)))
            case atStart => exact ⟨0, by omega, by omega, rfl, (Ext.refl _).alloc _, by rw [hz0]; exact Ow.made0 rfl (Nat.le_refl _)⟩
            case round =>
              obtain ⟨j, hg2, hj, rfl, hE, hO⟩ := hrel
              by_cases hjl : j < l'.length
              · obtain ⟨bB8, oB8, hB8, hltB8, _⟩ := hR8 j hjl
                subst hB8
                have l0 := (hR8.ext hE).i64 j hjl
                have lS := World.block_lt_of_cell? _ _ l0
                dsimp only at lS
                have hnext := htk j hjl
                obtain ⟨g0, g1⟩ := hil _ (List.getElem_mem hjl)
                generalize l'[j] = z at l0 hnext g0 g1
                obtain ⟨n, rfl⟩ : ∃ n : Nat, z = n := ⟨z.toNat, by omega⟩
                have hnl : n < mb.length := by omega
                rw [Int.toNat_natCast, hgi n hnl] at hnext
                have hnext := hd hnext
                obtain ⟨bB, oB, hB, hltB, _⟩ := hRBw w8 hw8 n hnl
                subst hB
                have l1 := (hRBw _ (hw8.trans hE)).i64 n hnl
                have lS1 := World.block_lt_of_cell? _ _ l1
                dsimp only at lS1
                generalize mb[n]'hnl = y at l1 hnext
                have hp := hpl j
                rw [List.length_take] at hp
                have hp := (by omega : (pickI mb (l'.take j)).length ≤ 40)
                generalize pickI mb (l'.take j) = ys at hO hnext hp
                clear htk hgi hpl hil
                go_wp2_with (at_builtin; refine wpList_push2 (w0 := w8) (base := w8.heap.size) (xs := ys) encI64 (by rfl) _ _ 36 (.int .i64 0) 8 (by rfl) Tryd.underlying36 info_i64 (by rfl) (y) (by rfl) (by rfl) (by simp) (hO) ((hE : Ext w8 _).size) (Nat.le_refl _) (hE) (by omega) (by omega) ?_)
                intro v10 w10 hO10 hb10 hg10 _
                go_wp2
                go_roundg (l'.length - (j + 1))
                case rel => exact ⟨j + 1, rfl, hjl, by simp, hb10, by rw [hnext.out]; exact hO10⟩
                case measure => omega
              · obtain rfl : j = l'.length := by omega
                rw [hall] at hO
                go_wp2
                refine bodyPost_ret (v := .tuple #[_, .int .i64 0]) (by simp [results, Tryd.results16, go_sem]; rfl) rfl ⟨_, by rw [hv.out]; rfl, by rw [hv.out]; exact hO.lower (by have := hw2.size; have := hw8.size; omega), (hw2.trans hw8).trans hE⟩
        · have hv2 := hI.out
          rw [show mb.length + 1 - k = 0 by omega, hzero] at hv2
          subst hv2
          exact absurd rfl hfull
  · have hv := hd (hno hc)
    have hcb : (c != 0) = true := by simp [hc]
    clear hno hz hnone hok1 hfar
    go_enter Tryd.func16, Tryd.ntmps16
    go_wp2_with fail
    refine Calls.mono (hask (some ⟨w.heap.size + 1 + 1, 0, none⟩) _ (hM0 _ (((BoxAt.new' rfl).alloc _).alloc _)) (by ((repeat (first | with_reducible exact Ext.refl _ | with_reducible exact hw | with_reducible exact hb9 | with_reducible exact hb8 | with_reducible exact hb7 | with_reducible exact hb6 | with_reducible exact hb5 | with_reducible exact hb4 | with_reducible exact hb3 | with_reducible exact hb2 | with_reducible exact hb1 | with_reducible refine Ext.alloc ?_ _ | with_reducible refine Ext.drew ?_ | ((with_reducible refine Ext.set ?_ ?_ _); focus (dsimp only; omega)) | with_reducible refine Ext.trans ?_ hb9 | with_reducible refine Ext.trans ?_ hb8 | with_reducible refine Ext.trans ?_ hb7 | with_reducible refine Ext.trans ?_ hb6 | with_reducible refine Ext.trans ?_ hb5 | with_reducible refine Ext.trans ?_ hb4 | with_reducible refine Ext.trans ?_ hb3 | with_reducible refine Ext.trans ?_ hb2 | with_reducible refine Ext.trans ?_ hb1 | with_reducible refine Ext.trans ?_ hw)))) (by simpa using Rd.lit encMask ((w.alloc (.cells #[.int .i16 x.st, .int .i16 x.sz, .int .i16 x.per] 26)).alloc (.cells #[.int .u64 (lo m), .int .u64 (hi m)] 33)) [m] #[.int .u64 (lo m), .int .u64 (hi m)] 33 (by simp) rfl)) ?_
    rintro e w1 ⟨rfl, hb1⟩
    have hw1 : Ext w w1 := ((((Ext.refl _).alloc _).alloc _).alloc _).trans hb1
    go_wp2
    refine bodyPost_ret (v := .tuple #[.slice (some ⟨w1.heap.size, 0, none⟩) 0 0, .int .i64 c]) (by simp [results, Tryd.results16, go_sem]) rfl ⟨_, by rw [hv.out], by rw [hv.out]; exact Ow.made0 rfl hw1.size, hw1.alloc _⟩
end Go.Proofs.YtegopgpnjgikeaaDoor
