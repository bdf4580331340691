/-
  DB: the texts D6 D7 D8 in one (written by merge.py).
-/
import Derived.Test.YtdlpifgkponnmaaDoorDA
import Derived.Lib.QuoteBits
import Derived.Test.YtdlpifgkponnmaaDoorL6
set_option linter.unusedVariables false
set_option linter.unusedSimpArgs false
set_option maxRecDepth 100000
namespace Go.Proofs.YtdlpifgkponnmaaDoor
open Go.RowKit
def bitN (m : Mask) (h : Int) : Nat := if mhas m h = true then 1 else 0
theorem bitN_hit {m : Mask} {h : Int} (e : mhas m h = true) : bitN m h = 1 := if_pos e
theorem bitN_miss {m : Mask} {h : Int} (e : mhas m h = false) : bitN m h = 0 := by unfold bitN; rw [e]; rfl
/-- The key: the first hole counts one, each further one twice as much. -/
def keyV (m : Mask) : List Int → Nat
  | [] => 0
  | h :: hs => 2 * keyV m hs + bitN m h
def keyN (m : Mask) (hs : List Int) : Nat → Nat
  | 0 => 0
  | k + 1 => keyN m hs k + 2 ^ k * bitN m (hs.getD k 0)
theorem keyN_split (m : Mask) (hs : List Int) : ∀ k, k ≤ hs.length → keyN m hs k + 2 ^ k * keyV m (hs.drop k) = keyV m hs
  | 0, _ => by rw [keyN, List.drop_zero]; omega
  | k + 1, h => by
    rw [← keyN_split m hs k (by omega), keyN, List.drop_eq_getElem_cons (i := k) (by omega), keyV, List.getD, List.getElem?_eq_getElem (by omega), Nat.pow_succ]
    simp only [Option.getD_some, Nat.mul_add]
    rw [show 2 ^ k * (2 * keyV m (List.drop (k + 1) hs)) = 2 ^ k * 2 * keyV m (List.drop (k + 1) hs) by rw [Nat.mul_assoc]]
    omega
theorem keyN_all (m : Mask) (hs : List Int) : keyN m hs hs.length = keyV m hs := by
  have := keyN_split m hs hs.length (Nat.le_refl _)
  rw [List.drop_length] at this
  simpa [keyV] using this
theorem bitN_le (m : Mask) (h : Int) : bitN m h ≤ 1 := by unfold bitN; split <;> omega
theorem keyN_lt (m : Mask) (hs : List Int) : ∀ k, keyN m hs k < 2 ^ k
  | 0 => by rw [keyN]; decide
  | k + 1 => by
    have h1 := keyN_lt m hs k
    have h2 := bitN_le m (hs.getD k 0)
    rw [keyN, Nat.pow_succ]
    have : 2 ^ k * bitN m (hs.getD k 0) ≤ 2 ^ k * 1 := Nat.mul_le_mul_left _ h2
    omega
theorem keyV_drop (m : Mask) (hs : List Int) (k : Nat) (h : k < hs.length) : keyV m (hs.drop k) = 2 * keyV m (hs.drop (k + 1)) + bitN m hs[k] := by
  rw [List.drop_eq_getElem_cons h, keyV]
theorem keyV_lt (m : Mask) : ∀ hs : List Int, keyV m hs < 2 ^ hs.length
  | [] => by rw [keyV, List.length_nil]; decide
  | h :: hs => by
    have h1 := keyV_lt m hs
    have h2 := bitN_le m h
    rw [keyV, List.length_cons, Nat.pow_succ]
    omega
theorem keyN_hit {m : Mask} {hs : List Int} {k : Nat} (hk : k < hs.length) (e : mhas m hs[k] = true) : keyN m hs (k + 1) = keyN m hs k + 2 ^ k := by
  rw [keyN, List.getD, List.getElem?_eq_getElem hk, Option.getD_some, bitN_hit e, Nat.mul_one]
theorem keyN_miss {m : Mask} {hs : List Int} {k : Nat} (hk : k < hs.length) (e : mhas m hs[k] = false) : keyN m hs (k + 1) = keyN m hs k := by
  rw [keyN, List.getD, List.getElem?_eq_getElem hk, Option.getD_some, bitN_miss e, Nat.mul_zero, Nat.add_zero]
def keyF (f : Fld) (m : Mask) : Nat := keyV m (sortF f)
theorem sort_24 {f : Fld} (h : fldB f = true) : (sortF f).length ≤ 60 := by
  obtain ⟨h1, h2, h3, h4⟩ := wide_bd h
  obtain ⟨_, k0, k3, s0, z0, z1, z2⟩ := fldB_parts h
  have hn : sortN f ≤ wideF f := by unfold sortN; split <;> omega
  have hw : (wideF f : Int) ≤ 60 := by
    rw [h1]
    unfold mostSz at z1
    unfold manyF
    split <;> rename_i e1
    · rw [e1] at z1; simp at z1; omega
    · split <;> rename_i e2
      · rw [e2] at z1; simp at z1; omega
      · split <;> rename_i e3
        · rw [e3] at z1; simp at z1; omega
        · have e0 : f.kd = 0 := by omega
          rw [e0] at z1; simp at z1; omega
  unfold sortF
  split
  · rw [upF_len]; omega
  · rw [downF_len]; omega
open Go.Lib in
theorem or_i64 (q k : Nat) (hk : k ≤ 61) (h : q < 2 ^ k) : bits .or .i64 (q : Int) (wrap64 (2 ^ k)) = ((q + 2 ^ k : Nat) : Int) := by
  have hp : 2 ^ k ≤ 2 ^ 61 := Nat.pow_le_pow_right (by decide) hk
  have e1 : (2 : Int) ^ k = ((2 ^ k : Nat) : Int) := by simp
  rw [e1]
  generalize hP : 2 ^ k = P at *
  have e2 : wrap64 (P : Int) = (P : Int) := by unfold wrap64; omega
  rw [e2]
  show IntKind.i64.wrap ((BitVec.ofInt 64 (q : Int) ||| BitVec.ofInt 64 (P : Int)).toNat : Int) = _
  have e3 : q ||| P = q + P := by
    have := Nat.two_pow_add_eq_or_of_lt (i := k) (b := q) (by rw [hP]; exact h) 1
    rw [hP, Nat.mul_one] at this
    rw [Nat.or_comm, ← this, Nat.add_comm]
  rw [BitVec.toNat_or, ofInt_u64 q (by omega), ofInt_u64 P (by omega), e3]
  exact wrap_i64_small _ (by omega)
set_option maxHeartbeats 2000000 in
theorem impl_key (f : Fld) (hf : fldB f = true) (m : Mask) (w : World) :
    Calls Tryd.prog 45 #[.agg #[.string f.nm, .int .i8 f.kd, .int .i16 f.st, .int .i16 f.sz], .agg #[.int .u64 (lo m), .int .u64 (hi m)]] w fun e w' => e = .returned (.int .i64 (keyF f m)) ∧ Ext w w' := by
  have hso := fun (W : World) => impl_sorting f hf W
  have hin := sort_in hf
  have h24 := sort_24 hf
  have hall : keyN m (sortF f) (sortF f).length = keyF f m := keyN_all m (sortF f)
  have hz : keyN m (sortF f) 0 = 0 := rfl
  have hhit := fun k h => keyN_hit (m := m) (hs := sortF f) (k := k) h
  have hmiss := fun k h => keyN_miss (m := m) (hs := sortF f) (k := k) h
  have hlt := keyN_lt m (sortF f)
  generalize keyF f m = K at hall ⊢
  generalize sortF f = hs at hso hin h24 hall hz hhit hmiss hlt
  obtain ⟨nm, kd, st, sz⟩ := f
  dsimp only at hso ⊢
  have hM : BoxAt ((w.alloc (.cells #[.string nm, .int .i8 kd, .int .i16 st, .int .i16 sz] 33)).alloc (.cells #[.int .u64 (lo m), .int .u64 (hi m)] 58)) (w.heap.size + 1) #[.int .u64 (lo m), .int .u64 (hi m)] 58 := BoxAt.new' (by simp)
  have hE0 : Ext w ((w.alloc (.cells #[.string nm, .int .i8 kd, .int .i16 st, .int .i16 sz] 33)).alloc (.cells #[.int .u64 (lo m), .int .u64 (hi m)] 58)) := ((Ext.refl _).alloc _).alloc _
  go_enter Tryd.func45, Tryd.ntmps45
  go_wp2_with fail
  refine Calls.mono (hso _) ?_
  rintro e w1 ⟨B, c, rfl, hRB, hb1⟩
  have hw1 := hE0.trans hb1
  replace hM := hM.ext hb1
  clear hb1 hE0 hso
  go_wp2
  go_loopg [5, 11] hs.length (fun g v i wr => ∃ k q : Nat, g = hs.length - k ∧ k ≤ hs.length ∧ i = .int .i64 k ∧ v = .int .i64 q ∧ Hd (keyN m hs k = q) ∧ Ext w1 wr)
  case atStart => exact ⟨0, 0, by omega, by omega, rfl, rfl, hd hz, Ext.refl _⟩
  case round =>
    obtain ⟨k, q, hg, hk, rfl, rfl, hQ, hw⟩ := hrel
    by_cases hkl : k < hs.length
    · obtain ⟨b, off, hB, hltB, _⟩ := hRB k hkl
      subst hB
      have l0 := (hRB.ext hw).i64 k hkl
      have l1 := World.block_lt_of_cell? _ _ l0
      dsimp only at l1
      obtain ⟨g0, g1⟩ := hin _ (List.getElem_mem hkl)
      have hhit := hhit k hkl
      have hmiss := hmiss k hkl
      have hl := hlt k
      rw [hQ.out] at hhit hmiss hl
      have hca := fun W => impl_has m hs[k] g0 g1 W
      have hMr := hM.ext hw
      have x0 : wr.cell? ⟨w.heap.size + 1, 0, none⟩ = some (.int .u64 (lo m)) := hMr.cell 0
      have x1 : wr.cell? ⟨w.heap.size + 1, 1, none⟩ = some (.int .u64 (hi m)) := hMr.cell 1
      have lM := hMr.lt
      generalize hs[k] = z at l0 hca hhit hmiss g0 g1
      go_wp2_with fail
      refine Calls.mono (hca _) ?_
      rintro e w2 ⟨rfl, hb2⟩
      have hw2 := hw.trans hb2
      clear x0 x1 lM l0 l1 hlt
      cases hh : mhas m z with
      | true =>
        have hQ2 := hd (hhit hh)
        have hor := or_i64 q k (by omega) hl
        clear hhit hmiss hh
        generalize 2 ^ k = P at hQ2 hor
        go_wp2
        go_roundg (hs.length - (k + 1))
        case rel => exact ⟨k + 1, q + P, rfl, hkl, by simp, by simp, hQ2, hw2⟩
        case measure => omega
      | false =>
        have hQ2 := hd (hmiss hh)
        clear hhit hmiss hh
        go_wp2
        go_roundg (hs.length - (k + 1))
        case rel => exact ⟨k + 1, q, rfl, hkl, by simp, rfl, hQ2, hw2⟩
        case measure => omega
    · obtain rfl : k = hs.length := by omega
      have hv := hQ.out.symm.trans hall
      subst hv
      go_wp2
      go_ret
      exact ⟨rfl, hw1.trans hw⟩
set_option maxHeartbeats 2000000 in
theorem spec_l02Key (f : Fld) (hf : fldB f = true) (hz0 : -32768 ≤ f.sz) (hz1 : f.sz < 32768) (m : Mask) (b o : Nat) (w : World) (hF : FldAt w b o f) :
    Calls Tryd.prog 43 #[.pointer (some ⟨b, o, none⟩), .agg #[.int .u64 (lo m), .int .u64 (hi m)]] w fun e w' => e = .returned (.int .i64 (keyF f m)) ∧ Ext w w' := by
  have hx := @ExtOf.cell
  have hso := fun (W : World) (hE : Ext w W) => spec_l02Holes f hf hz0 hz1 b o W (hF.ext hE)
  have hin := sort_in hf
  have h24 := sort_24 hf
  have hall : keyV m ((sortF f).drop 0) = keyF f m := by rw [List.drop_zero]; rfl
  have hz : keyV m ((sortF f).drop (sortF f).length) = 0 := by rw [List.drop_length]; rfl
  have hst := fun k h => keyV_drop m (sortF f) k h
  have hlt : ∀ k, keyV m ((sortF f).drop k) < 2 ^ 60 := fun k => Nat.lt_of_lt_of_le (keyV_lt m _) (Nat.pow_le_pow_right (by decide) (by rw [List.length_drop]; omega))
  generalize keyF f m = K at hall ⊢
  generalize sortF f = hs at hso hin h24 hall hz hst hlt
  have hM : BoxAt (w.alloc (.cells #[.int .u64 (lo m), .int .u64 (hi m)] 58)) w.heap.size #[.int .u64 (lo m), .int .u64 (hi m)] 58 := BoxAt.new' rfl
  have hE0 : Ext w (w.alloc (.cells #[.int .u64 (lo m), .int .u64 (hi m)] 58)) := (Ext.refl _).alloc _
  go_enter Tryd.func43, Tryd.ntmps43
  go_wp2_with fail
  refine Calls.mono (hso _ hE0) ?_
  rintro e w1 ⟨v1, rfl, hO1, hb1⟩
  obtain ⟨B, c, rfl, _, hRB⟩ := hO1.slice
  have hw1 := hE0.trans hb1
  replace hM := hM.ext hb1
  clear hb1 hE0 hso hO1
  go_wp2
  go_loopg [6, 7] hs.length (fun g v i wr => ∃ j q : Nat, g = j ∧ j ≤ hs.length ∧ i = .int .i64 ((j : Int) - 1) ∧ v = .int .i64 q ∧ Hd (keyV m (hs.drop j) = q) ∧ Ext w1 wr)
  case atStart => exact ⟨hs.length, 0, rfl, Nat.le_refl _, by simp, rfl, hd hz, Ext.refl _⟩
  case round =>
    obtain ⟨j, q, hg, hj, rfl, rfl, hQ, hw⟩ := hrel
    rcases j with _ | p
    · have hv := hQ.out.symm.trans hall
      subst hv
      go_wp2
      go_ret
      exact ⟨rfl, hw1.trans hw⟩
    · rw [show ((p + 1 : Nat) : Int) - 1 = (p : Int) by omega]
      have hkl : p < hs.length := by omega
      obtain ⟨bB, off, hB, hltB, _⟩ := hRB p hkl
      subst hB
      have l0 := (hRB.ext hw).i64 p hkl
      have l1 := World.block_lt_of_cell? _ _ l0
      dsimp only at l1
      obtain ⟨g0, g1⟩ := hin _ (List.getElem_mem hkl)
      have hst := hst p hkl
      have hl := hlt (p + 1)
      rw [hQ.out] at hst hl
      have hca := fun W => spec_l01Has m hs[p] g0 g1 W
      have hMr := hM.ext hw
      have x0 : wr.cell? ⟨w.heap.size, 0, none⟩ = some (.int .u64 (lo m)) := hMr.cell 0
      have x1 : wr.cell? ⟨w.heap.size, 1, none⟩ = some (.int .u64 (hi m)) := hMr.cell 1
      have lM := hMr.lt
      have hbt := bitN_hit (m := m) (h := hs[p])
      have hbf := bitN_miss (m := m) (h := hs[p])
      generalize hs[p] = z at l0 hca hst g0 g1 hbt hbf
      generalize bitN m z = bz at hst hbt hbf
      clear hlt hall hz
      cases hh : mhas m z with
      | true =>
        rw [hh] at hca
        rw [hbt hh] at hst
        have hst := hd hst
        clear hbt hbf hh
        go_wp2
        refine wp_region_ext (by kernel_rfl) (by kernel_rfl) ?_
        repeat (first | go_big_quiet_step (((go_at_call 70; with_reducible exact Calls.ext_all (fun W _ => hca W)))) | quiet_step (((go_at_call 70; with_reducible exact Calls.ext_all (fun W _ => hca W)))))
        refine wpQuiet_nil ?_
        intro w7 hq7
        have hb7 := ext_of_class hq7
        clear hq7
        obtain ⟨hc7, hf7, hz7⟩ := bcell3 hb7
        try simp at hz7
        go_wp2
        go_roundg p
        case rel => exact ⟨p, 2 * q + 1, rfl, by omega, rfl, by simp, hst, hw.trans hb7⟩
        case measure => omega
      | false =>
        rw [hh] at hca
        rw [hbf hh] at hst
        have hst := hd hst
        clear hbt hbf hh
        go_wp2
        refine wp_region_ext (by kernel_rfl) (by kernel_rfl) ?_
        repeat (first | go_big_quiet_step (((go_at_call 70; with_reducible exact Calls.ext_all (fun W _ => hca W)))) | quiet_step (((go_at_call 70; with_reducible exact Calls.ext_all (fun W _ => hca W)))))
        refine wpQuiet_nil ?_
        intro w7 hq7
        have hb7 := ext_of_class hq7
        clear hq7
        obtain ⟨hc7, hf7, hz7⟩ := bcell3 hb7
        try simp at hz7
        go_wp2
        go_roundg p
        case rel => exact ⟨p, 2 * q + 0, rfl, by omega, rfl, by simp, hst, hw.trans hb7⟩
        case measure => omega
end Go.Proofs.YtdlpifgkponnmaaDoor
set_option linter.unusedVariables false
set_option linter.unusedSimpArgs false
set_option maxRecDepth 100000
namespace Go.Proofs.YtdlpifgkponnmaaDoor
open Go.RowKit
def kf (f : Fld) (c : Crd) : Int := (keyF f c.m : Int)
def upAt (f : Fld) (ds : List Crd) (i : Nat) : Bool := decide (kf f (ds.getD (i - 1) Crd.z) ≤ kf f (ds.getD i Crd.z))
def sortedB (f : Fld) (ds : List Crd) : Bool := (List.range (ds.length - 1)).all fun i => upAt f ds (i + 1)
theorem sorted_bad {f : Fld} {ds : List Crd} {i : Nat} (h1 : 1 ≤ i) (h2 : i < ds.length) (e : upAt f ds i = false) : sortedB f ds = false := by
  cases h : sortedB f ds with
  | false => rfl
  | true =>
    unfold sortedB at h
    rw [List.all_eq_true] at h
    have := h (i - 1) (List.mem_range.2 (by omega))
    rw [show i - 1 + 1 = i by omega, e] at this
    cases this
theorem sorted_good {f : Fld} {ds : List Crd} (h : ∀ i, 1 ≤ i → i < ds.length → upAt f ds i = true) : sortedB f ds = true := by
  unfold sortedB
  rw [List.all_eq_true]
  exact fun i hi => h (i + 1) (by omega) (by have := List.mem_range.1 hi; omega)
theorem upAt_at {f : Fld} {ds : List Crd} (p : Nat) (h : p + 1 < ds.length) : upAt f ds (p + 1) = decide (kf f (ds[p]'(by omega)) ≤ kf f ds[p + 1]) := by
  unfold upAt
  rw [Nat.add_sub_cancel, List.getD, List.getD, List.getElem?_eq_getElem h, List.getElem?_eq_getElem (by omega)]
  rfl
set_option maxHeartbeats 1000000 in
theorem impl_isSorted1 (f : Fld) (hf : fldB f = true) (bx : Nat) (x y : Crd) (w : World) (hX : BoxAt w bx #[.string f.nm, .int .i8 f.kd, .int .i16 f.st, .int .i16 f.sz] 33) :
    Calls Tryd.prog 72 #[.agg #[.string x.nm, .int .u64 (lo x.m), .int .u64 (hi x.m)], .agg #[.string y.nm, .int .u64 (lo y.m), .int .u64 (hi y.m)], .pointer (some ⟨bx, 0, none⟩)] w fun e w' => e = .returned (.int .i64 (Lib.compareInt (kf f x) (kf f y))) ∧ Ext w w' := by
  have hx := @ExtOf.cell
  have hk1 := fun W => impl_key f hf x.m W
  have hk2 := fun W => impl_key f hf y.m W
  have hcm := fun (W : World) => (Tryd.cmp_Compare_int (kf f x) (kf f y) W).mono (fun e w' h => (⟨h.1, by rw [h.2]; exact Ext.refl _⟩ : e = .returned (.int .i64 (Lib.compareInt (kf f x) (kf f y))) ∧ Ext W w'))
  unfold kf at hcm ⊢
  have b0 : w.cell? ⟨bx, 0, none⟩ = some (.string f.nm) := hX.cell 0
  have b1 : w.cell? ⟨bx, 1, none⟩ = some (.int .i8 f.kd) := hX.cell 1
  have b2 : w.cell? ⟨bx, 2, none⟩ = some (.int .i16 f.st) := hX.cell 2
  have b3 : w.cell? ⟨bx, 3, none⟩ = some (.int .i16 f.sz) := hX.cell 3
  have lX := hX.lt
  obtain ⟨nm, kd, st, sz⟩ := f
  dsimp only at hk1 hk2 b0 b1 b2 b3
  generalize Lib.compareInt (keyF ⟨nm, kd, st, sz⟩ x.m : Int) (keyF ⟨nm, kd, st, sz⟩ y.m : Int) = r at hcm ⊢
  generalize keyF ⟨nm, kd, st, sz⟩ x.m = k1 at hk1 hcm
  generalize keyF ⟨nm, kd, st, sz⟩ y.m = k2 at hk2 hcm
  have hE0 : Ext w ((w.alloc (.cells #[.string x.nm, .int .u64 (lo x.m), .int .u64 (hi x.m)] 60)).alloc (.cells #[.string y.nm, .int .u64 (lo y.m), .int .u64 (hi y.m)] 60)) := ((Ext.refl _).alloc _).alloc _
  go_enter Tryd.func72, Tryd.ntmps72
  go_wp2
  refine intro_world (R := fun W => Code.wp _ _ _ _ W) (fun W6 hW6 => ?_)
  have hE6 : Ext w W6 := by rw [hW6]; exact hE0
  have bX : BoxAt W6 w.heap.size #[.string x.nm, .int .u64 (lo x.m), .int .u64 (hi x.m)] 60 := by rw [hW6]; exact (BoxAt.new' rfl).alloc _
  have bY : BoxAt W6 (w.heap.size + 1) #[.string y.nm, .int .u64 (lo y.m), .int .u64 (hi y.m)] 60 := by rw [hW6]; exact BoxAt.new' (by simp)
  clear hW6 hE0
  replace b0 := hE6.cell b0
  replace b1 := hE6.cell b1
  replace b2 := hE6.cell b2
  replace b3 := hE6.cell b3
  have x1 : W6.cell? ⟨w.heap.size, 1, none⟩ = some (.int .u64 (lo x.m)) := bX.cell 1
  have x2 : W6.cell? ⟨w.heap.size, 2, none⟩ = some (.int .u64 (hi x.m)) := bX.cell 2
  have y1 : W6.cell? ⟨w.heap.size + 1, 1, none⟩ = some (.int .u64 (lo y.m)) := bY.cell 1
  have y2 : W6.cell? ⟨w.heap.size + 1, 2, none⟩ = some (.int .u64 (hi y.m)) := bY.cell 2
  have l6 := Nat.lt_of_lt_of_le lX hE6.size
  have lX1 := bX.lt
  have lX2 := bY.lt
  clear lX hX
  refine wp_region_ext (by kernel_rfl) (by kernel_rfl) ?_
  repeat (first | go_big_quiet_step ((first | (go_at_call 45; with_reducible exact Calls.ext_all (fun W _ => hk1 W)) | (go_at_call 45; with_reducible exact Calls.ext_all (fun W _ => hk2 W)) | (go_at_call 73; with_reducible exact Calls.ext_all (fun W _ => hcm W)))) | quiet_step ((first | (go_at_call 45; with_reducible exact Calls.ext_all (fun W _ => hk1 W)) | (go_at_call 45; with_reducible exact Calls.ext_all (fun W _ => hk2 W)) | (go_at_call 73; with_reducible exact Calls.ext_all (fun W _ => hcm W)))))
  refine wpQuiet_nil ?_
  intro w7 hq7
  have hb7 := ext_of_class hq7
  clear hq7
  obtain ⟨hc7, hf7, hz7⟩ := bcell3 hb7
  try simp at hz7
  go_wp2
  go_ret
  exact ⟨rfl, hE6.trans hb7⟩
set_option maxHeartbeats 1000000 in
theorem slices_IsSortedFunc_key (f : Fld) (hf : fldB f = true) (ds : List Crd) (A : Option Addr) (cap : Nat) (bx : Nat) (w : World) (hR : Rd encCrd w A ds) (hn : ds.length ≤ 1048576) (hX : BoxAt w bx #[.string f.nm, .int .i8 f.kd, .int .i16 f.st, .int .i16 f.sz] 33) :
    Calls Tryd.prog 71 #[.slice A ds.length cap, .func (.func 72) #[] #[.pointer (some ⟨bx, 0, none⟩)]] w fun e w' => e = .returned (.bool (sortedB f ds)) ∧ Ext w w' := by
  have hx := @ExtOf.cell
  have hbad := fun i => sorted_bad (f := f) (ds := ds) (i := i)
  have hgood := sorted_good (f := f) (ds := ds)
  have hat := fun p h => upAt_at (f := f) (ds := ds) p h
  have hcl := fun (x y : Crd) (W : World) (hE : Ext w W) => impl_isSorted1 f hf bx x y W (hX.ext hE)
  have hwl : IntKind.i64.wrap ((ds.length : Int) - 1) = (ds.length : Int) - 1 := IntWalk.i64_in _ (by omega)
  go_enter Tryd.func71, Tryd.ntmps71
  go_wp2
  go_loopg [5] ds.length (fun g i wr => ∃ j : Nat, g = j ∧ j ≤ ds.length ∧ i = .int .i64 ((j : Int) - 1) ∧ Hd (∀ i, j ≤ i → 1 ≤ i → i < ds.length → upAt f ds i = true) ∧ Ext w wr)
  case atStart => exact ⟨ds.length, rfl, Nat.le_refl _, rfl, hd (fun i h1 _ h2 => by omega), Ext.refl _⟩
  case round =>
    obtain ⟨j, hg, hj, rfl, hQ, hw⟩ := hrel
    by_cases h2 : j ≤ 1
    · have hv := hd (hgood (fun i h1 h3 => hQ.out i (by omega) h1 h3))
      have hc : (0 < (j : Int) - 1) = False := eq_false (by omega)
      clear hbad hgood hat hcl
      go_wp2
      go_ret
      exact ⟨by rw [hv.out]; rfl, hw⟩
    · obtain ⟨p, rfl⟩ : ∃ p, j = p + 2 := ⟨j - 2, by omega⟩
      rw [show ((p + 2 : Nat) : Int) - 1 = (p : Int) + 1 by omega]
      have hkl : p + 1 < ds.length := by omega
      have hk0 : (p : Int) + 1 < ds.length := by omega
      have hk1 : (p : Int) < ds.length := by omega
      obtain ⟨b, off, hA, hlt, _⟩ := hR (p + 1) hkl
      subst hA
      obtain ⟨m0, m1, m2, m3⟩ := (hR.ext hw).crd (p + 1) hkl
      obtain ⟨n0, n1, n2, n3⟩ := (hR.ext hw).crd p (by omega)
      have hat := hat p hkl
      have hbad := hbad (p + 1) (by omega) hkl
      have hca := fun (W : World) (hE : Ext wr W) => hcl ds[p + 1] (ds[p]'(by omega)) W (hw.trans hE)
      generalize ds[p + 1] = x at m0 m1 m2 hat hca
      generalize ds[p]'(by omega) = y at n0 n1 n2 hat hca
      by_cases hlt2 : kf f x < kf f y
      · have hv := hd (hbad (by rw [hat]; exact decide_eq_false (by omega)))
        rw [show Lib.compareInt (kf f x) (kf f y) = -1 from if_pos hlt2] at hca
        clear hbad hgood hat hcl hlt2
        go_wp2
        refine wp_region_ext (by kernel_rfl) (by kernel_rfl) ?_
        repeat (first | go_big_quiet_step (((go_at_call 72; with_reducible exact Calls.ext_all (fun W hE => hca W hE)))) | quiet_step (((go_at_call 72; with_reducible exact Calls.ext_all (fun W hE => hca W hE)))))
        refine wpQuiet_nil ?_
        intro w7 hq7
        have hb7 := ext_of_class hq7
        clear hq7
        obtain ⟨hc7, hf7, hz7⟩ := bcell3 hb7
        try simp at hz7
        go_wp2
        go_ret
        exact ⟨by rw [hv.out]; rfl, hw.trans hb7⟩
      · have hQ2 := hd (show ∀ i, p + 1 ≤ i → 1 ≤ i → i < ds.length → upAt f ds i = true from fun i h1 h2 h3 => by
          by_cases e : i = p + 1
          · rw [e, hat]; exact decide_eq_true (by omega)
          · exact hQ.out i (by omega) h2 h3)
        have hc0 : 0 ≤ Lib.compareInt (kf f x) (kf f y) := by unfold Lib.compareInt; rw [if_neg hlt2]; split <;> omega
        have hc1 : Lib.compareInt (kf f x) (kf f y) ≤ 1 := by unfold Lib.compareInt; rw [if_neg hlt2]; split <;> omega
        generalize Lib.compareInt (kf f x) (kf f y) = r at hca hc0 hc1
        have hr0 : (r < 0) = False := eq_false (by omega)
        clear hbad hgood hat hcl hlt2 hQ
        go_wp2
        refine wp_region_ext (by kernel_rfl) (by kernel_rfl) ?_
        repeat (first | go_big_quiet_step (((go_at_call 72; with_reducible exact Calls.ext_all (fun W hE => hca W hE)))) | quiet_step (((go_at_call 72; with_reducible exact Calls.ext_all (fun W hE => hca W hE)))))
        refine wpQuiet_nil ?_
        intro w7 hq7
        have hb7 := ext_of_class hq7
        clear hq7
        obtain ⟨hc7, hf7, hz7⟩ := bcell3 hb7
        try simp at hz7
        go_wp2
        go_roundg (p + 1)
        case rel => exact ⟨p + 1, rfl, by omega, by simp, hQ2, hw.trans hb7⟩
        case measure => omega
set_option maxHeartbeats 1000000 in
theorem impl_isSorted (f : Fld) (hf : fldB f = true) (ds : List Crd) (A : Option Addr) (cap : Nat) (w : World) (hR : Rd encCrd w A ds) (hn : ds.length ≤ 1048576) :
    Calls Tryd.prog 44 #[.slice A ds.length cap, .agg #[.string f.nm, .int .i8 f.kd, .int .i16 f.st, .int .i16 f.sz]] w fun e w' => e = .returned (.bool (sortedB f ds)) ∧ Ext w w' := by
  have hX : BoxAt (w.alloc (.cells #[.string f.nm, .int .i8 f.kd, .int .i16 f.st, .int .i16 f.sz] 33)) w.heap.size #[.string f.nm, .int .i8 f.kd, .int .i16 f.st, .int .i16 f.sz] 33 := BoxAt.new' rfl
  have hE0 : Ext w (w.alloc (.cells #[.string f.nm, .int .i8 f.kd, .int .i16 f.st, .int .i16 f.sz] 33)) := (Ext.refl _).alloc _
  have hc := slices_IsSortedFunc_key f hf ds A cap w.heap.size _ (hR.ext hE0) hn hX
  go_enter Tryd.func44, Tryd.ntmps44
  go_wp2_with fail
  refine Calls.mono (hc) ?_
  rintro e w1 ⟨rfl, hb1⟩
  go_wp2
  go_ret
  exact ⟨rfl, hE0.trans hb1⟩
set_option maxHeartbeats 1000000 in
theorem spec_l02Sorted (f : Fld) (hf : fldB f = true) (hz0 : -32768 ≤ f.sz) (hz1 : f.sz < 32768) (ds : List Crd) (A : Option Addr) (cap b o : Nat) (w : World) (hF : FldAt w b o f) (hR : Rd encCrd w A ds) (hn : ds.length ≤ 1048576) :
    Calls Tryd.prog 42 #[.slice A ds.length cap, .pointer (some ⟨b, o, none⟩)] w fun e w' => e = .returned (.bool (sortedB f ds)) ∧ Ext w w' := by
  have hx := @ExtOf.cell
  have hbad := fun i => sorted_bad (f := f) (ds := ds) (i := i)
  have hgood := sorted_good (f := f) (ds := ds)
  have hat := fun p h => upAt_at (f := f) (ds := ds) p h
  have hky := fun (m : Mask) (W : World) (hE : Ext w W) => spec_l02Key f hf hz0 hz1 m b o W (hF.ext hE)
  go_enter Tryd.func42, Tryd.ntmps42
  go_wp2
  go_loopg [5] ds.length (fun g i wr => ∃ j : Nat, g = ds.length - j ∧ i = .int .i64 ((j : Int) + 1) ∧ j ≤ ds.length ∧ Hd (∀ i, i ≤ j → 1 ≤ i → i < ds.length → upAt f ds i = true) ∧ Ext w wr)
  case atStart => exact ⟨0, by omega, rfl, by omega, hd (fun i h1 h2 _ => by omega), Ext.refl _⟩
  case round =>
    obtain ⟨p, hg, rfl, hj, hQ, hw⟩ := hrel
    by_cases hkl : p + 1 < ds.length
    · have hk0 : (p : Int) + 1 < ds.length := by omega
      have hk1 : (p : Int) < ds.length := by omega
      obtain ⟨bA, off, hA, hlt, _⟩ := hR (p + 1) hkl
      subst hA
      obtain ⟨m0, m1, m2, m3⟩ := (hR.ext hw).crd (p + 1) hkl
      obtain ⟨n0, n1, n2, n3⟩ := (hR.ext hw).crd p (by omega)
      have hat := hat p hkl
      have hbad := hbad (p + 1) (by omega) hkl
      have hwp : IntKind.i64.wrap (p : Int) = (p : Int) := IntWalk.i64_in _ (by omega)
      unfold kf at hat
      have hc1 := fun (W : World) (hE : Ext wr W) => hky ds[p + 1].m W (hw.trans hE)
      have hc2 := fun (W : World) (hE : Ext wr W) => hky (ds[p]'(by omega)).m W (hw.trans hE)
      generalize ds[p + 1] = x at m0 m1 m2 hat hc1
      generalize ds[p]'(by omega) = y at n0 n1 n2 hat hc2
      generalize keyF f x.m = kx at hat hc1
      generalize keyF f y.m = ky at hat hc2
      by_cases hlt2 : (kx : Int) < ky
      · have hv := hd (hbad (by rw [hat]; exact decide_eq_false (by omega)))
        clear hbad hgood hat hky
        go_wp2
        refine wp_region_ext (by kernel_rfl) (by kernel_rfl) ?_
        repeat (first | go_big_quiet_step ((first | (go_at_call 43; with_reducible exact Calls.ext_all (fun W hE => hc1 W hE)) | (go_at_call 43; with_reducible exact Calls.ext_all (fun W hE => hc2 W hE)))) | quiet_step ((first | (go_at_call 43; with_reducible exact Calls.ext_all (fun W hE => hc1 W hE)) | (go_at_call 43; with_reducible exact Calls.ext_all (fun W hE => hc2 W hE)))))
        refine wpQuiet_nil ?_
        intro w7 hq7
        have hb7 := ext_of_class hq7
        clear hq7
        obtain ⟨hc7, hf7, hz7⟩ := bcell3 hb7
        try simp at hz7
        go_wp2
        go_ret
        exact ⟨by rw [hv.out]; rfl, hw.trans hb7⟩
      · have hQ2 := hd (show ∀ i, i ≤ p + 1 → 1 ≤ i → i < ds.length → upAt f ds i = true from fun i h1 h2 h3 => by
          by_cases e : i = p + 1
          · rw [e, hat]; exact decide_eq_true (by omega)
          · exact hQ.out i (by omega) h2 h3)
        clear hbad hgood hat hky hQ
        go_wp2
        refine wp_region_ext (by kernel_rfl) (by kernel_rfl) ?_
        repeat (first | go_big_quiet_step ((first | (go_at_call 43; with_reducible exact Calls.ext_all (fun W hE => hc1 W hE)) | (go_at_call 43; with_reducible exact Calls.ext_all (fun W hE => hc2 W hE)))) | quiet_step ((first | (go_at_call 43; with_reducible exact Calls.ext_all (fun W hE => hc1 W hE)) | (go_at_call 43; with_reducible exact Calls.ext_all (fun W hE => hc2 W hE)))))
        refine wpQuiet_nil ?_
        intro w7 hq7
        have hb7 := ext_of_class hq7
        clear hq7
        obtain ⟨hc7, hf7, hz7⟩ := bcell3 hb7
        try simp at hz7
        go_wp2
        go_roundg (ds.length - (p + 1))
        case rel => exact ⟨p + 1, rfl, by simp, by omega, hQ2, hw.trans hb7⟩
        case measure => omega
    · have hv := hd (hgood (fun i h1 h3 => hQ.out i (by omega) h1 h3))
      have hc : ((p : Int) + 1 < ds.length) = False := eq_false (by omega)
      clear hbad hgood hat hky
      go_wp2
      go_ret
      exact ⟨by rw [hv.out]; rfl, hw⟩
end Go.Proofs.YtdlpifgkponnmaaDoor
set_option linter.unusedVariables false
set_option linter.unusedSimpArgs false
set_option maxRecDepth 100000
namespace Go.Proofs.YtdlpifgkponnmaaDoor
open Go.RowKit
def ffI (f : Fld) (ds : List Crd) (q : Int) : Nat := (ds.takeWhile fun c => decide (kf f c < q)).length
theorem ff_stop (f : Fld) (q : Int) : ∀ (ds : List Crd) (k : Nat) (hk : k < ds.length), (∀ i (h : i < k), kf f (ds[i]'(by omega)) < q) → ¬ kf f ds[k] < q → ffI f ds q = k
  | [], k, hk, _, _ => by cases hk
  | c :: ds, 0, _, _, e => by
    unfold ffI
    rw [List.takeWhile_cons_of_neg (by simpa using e)]; rfl
  | c :: ds, k + 1, hk, h, e => by
    have h0 : kf f c < q := h 0 (by omega)
    have := ff_stop f q ds k (by simpa using hk) (fun i hi => h (i + 1) (by omega)) e
    unfold ffI at *
    rw [List.takeWhile_cons_of_pos (by simpa using h0), List.length_cons, this]
theorem ff_all (f : Fld) (q : Int) : ∀ (ds : List Crd), (∀ i (h : i < ds.length), kf f ds[i] < q) → ffI f ds q = ds.length
  | [], _ => rfl
  | c :: ds, h => by
    have h0 : kf f c < q := h 0 (by simp)
    have := ff_all f q ds (fun i hi => h (i + 1) (by simpa using hi))
    unfold ffI at *
    rw [List.takeWhile_cons_of_pos (by simpa using h0), List.length_cons, List.length_cons, this]
def ffF (ds : List Crd) (f : Fld) (q : Int) : Int × Int := if deckB ds = true ∧ fldB f = true then (if sortedB f ds = true then ((ffI f ds q : Int), 0) else (0, 4)) else (0, 1)
theorem ffF_ok {ds : List Crd} {f : Fld} {q : Int} (h : deckB ds = true) (h2 : fldB f = true) (h3 : sortedB f ds = true) : ffF ds f q = ((ffI f ds q : Int), 0) := by unfold ffF; rw [if_pos ⟨h, h2⟩, if_pos h3]
theorem ffF_un {ds : List Crd} {f : Fld} {q : Int} (h : deckB ds = true) (h2 : fldB f = true) (h3 : sortedB f ds = false) : ffF ds f q = (0, 4) := by unfold ffF; rw [if_pos ⟨h, h2⟩, h3]; rfl
theorem ffF_no {ds : List Crd} {f : Fld} {q : Int} (h : deckB ds = false) : ffF ds f q = (0, 1) := by unfold ffF; rw [if_neg (fun e => by rw [h] at e; exact absurd e.1 (by decide))]
theorem ffF_no2 {ds : List Crd} {f : Fld} {q : Int} (h : fldB f = false) : ffF ds f q = (0, 1) := by unfold ffF; rw [if_neg (fun e => by rw [h] at e; exact absurd e.2 (by decide))]
set_option maxHeartbeats 1000000 in
theorem impl_FirstFrom (ds : List Crd) (A : Option Addr) (cap : Nat) (f : Fld) (q : Int) (q0 : -9223372036854775808 ≤ q) (q1 : q < 9223372036854775808) (w : World) (hR : Rd encCrd w A ds) (hcap : ds.length ≤ cap) (hn : ds.length ≤ 1048576) (hok : ∀ c ∈ ds, CrdIn c) (hf : FldIn f) :
    Calls Tryd.prog 17 #[.slice A ds.length cap, .agg #[.string f.nm, .int .i8 f.kd, .int .i16 f.st, .int .i16 f.sz], .int .i64 q] w fun e w' => e = .returned (.tuple #[.int .i64 (ffF ds f q).1, .int .i64 (ffF ds f q).2]) ∧ Ext w w' := by
  have h1 := fun (W : World) (hE : Ext w W) => impl_isDeck ds A cap W (hR.ext hE) hcap hn hok
  have h2 := fun (W : World) => isField_in f hf W
  have h3 := fun (h : fldB f = true) (W : World) (hE : Ext w W) => impl_isSorted f h ds A cap W (hR.ext hE) hn
  have h4 := fun (h : fldB f = true) (m : Mask) (W : World) => impl_key f h m W
  have k0 := ffF_no (ds := ds) (f := f) (q := q)
  have k1 := ffF_no2 (ds := ds) (f := f) (q := q)
  have k2 := ffF_un (ds := ds) (f := f) (q := q)
  have k3 := ffF_ok (ds := ds) (f := f) (q := q)
  have hst := ff_stop f q ds
  have hal := ff_all f q ds
  have hX0 : BoxAt (w.alloc (.cells #[.string f.nm, .int .i8 f.kd, .int .i16 f.st, .int .i16 f.sz] 33)) w.heap.size #[.string f.nm, .int .i8 f.kd, .int .i16 f.st, .int .i16 f.sz] 33 := BoxAt.new' rfl
  have hE0 : Ext w (w.alloc (.cells #[.string f.nm, .int .i8 f.kd, .int .i16 f.st, .int .i16 f.sz] 33)) := (Ext.refl _).alloc _
  unfold kf at hst hal
  cases hd1 : deckB ds with
  | false =>
    have hv := hd (k0 hd1)
    rw [hd1] at h1
    clear k0 k1 k2 k3 h4 h3 hst hal
    go_enter Tryd.func17, Tryd.ntmps17
    go_wp2_with fail
    refine Calls.mono (h1 _ hE0) ?_
    rintro e w1 ⟨rfl, hb1⟩
    go_wp2
    refine bodyPost_ret (v := .tuple #[.int .i64 0, .int .i64 1]) (by simp [results, Tryd.results17, go_sem]) rfl ⟨by rw [hv.out], hE0.trans hb1⟩
  | true =>
    rw [hd1] at h1
    have hw1s := fun (w1 : World) (hb : Ext (w.alloc (.cells #[.string f.nm, .int .i8 f.kd, .int .i16 f.st, .int .i16 f.sz] 33)) w1) => (⟨(hX0.ext hb).cell 0, (hX0.ext hb).cell 1, (hX0.ext hb).cell 2, (hX0.ext hb).cell 3, (hX0.ext hb).lt⟩ : w1.cell? ⟨w.heap.size, 0, none⟩ = some (.string f.nm) ∧ w1.cell? ⟨w.heap.size, 1, none⟩ = some (.int .i8 f.kd) ∧ w1.cell? ⟨w.heap.size, 2, none⟩ = some (.int .i16 f.st) ∧ w1.cell? ⟨w.heap.size, 3, none⟩ = some (.int .i16 f.sz) ∧ w.heap.size < w1.heap.size)
    cases hd2 : fldB f with
    | false =>
      have hv := hd (k1 hd2)
      rw [hd2] at h2
      clear k0 k1 k2 k3 h4 h3 hst hal
      go_enter Tryd.func17, Tryd.ntmps17
      go_wp2_with fail
      refine Calls.mono (h1 _ hE0) ?_
      rintro e w1 ⟨rfl, hb1⟩
      obtain ⟨x0, x1, x2, x3, lX⟩ := hw1s w1 hb1
      clear hw1s
      go_wp2_with fail
      refine Calls.mono (h2 _) ?_
      rintro e w2 ⟨rfl, hb2⟩
      go_wp2
      refine bodyPost_ret (v := .tuple #[.int .i64 0, .int .i64 1]) (by simp [results, Tryd.results17, go_sem]) rfl ⟨by rw [hv.out], (hE0.trans hb1).trans hb2⟩
    | true =>
      rw [hd2] at h2
      replace h3 := h3 hd2
      replace h4 := h4 hd2
      cases hd3 : sortedB f ds with
      | false =>
        have hv := hd (k2 hd1 hd2 hd3)
        rw [hd3] at h3
        clear k0 k1 k2 k3 h4 hst hal
        go_enter Tryd.func17, Tryd.ntmps17
        go_wp2_with fail
        refine Calls.mono (h1 _ hE0) ?_
        rintro e w1 ⟨rfl, hb1⟩
        obtain ⟨x0, x1, x2, x3, lX⟩ := hw1s w1 hb1
        go_wp2_with fail
        refine Calls.mono (h2 _) ?_
        rintro e w2 ⟨rfl, hb2⟩
        have hb12 := hb1.trans hb2
        clear x0 x1 x2 x3 lX
        obtain ⟨x0, x1, x2, x3, lX⟩ := hw1s w2 hb12
        clear hw1s
        go_wp2_with fail
        refine Calls.mono (h3 _ (hE0.trans hb12)) ?_
        rintro e w3 ⟨rfl, hb3⟩
        go_wp2
        refine bodyPost_ret (v := .tuple #[.int .i64 0, .int .i64 4]) (by simp [results, Tryd.results17, go_sem]) rfl ⟨by rw [hv.out], (hE0.trans hb12).trans hb3⟩
      | true =>
        have hv := hd (k3 hd1 hd2 hd3)
        rw [hd3] at h3
        clear k0 k1 k2 k3
        generalize ffI f ds q = R at hv hst hal
        go_enter Tryd.func17, Tryd.ntmps17
        go_wp2_with fail
        refine Calls.mono (h1 _ hE0) ?_
        rintro e w1 ⟨rfl, hb1⟩
        obtain ⟨x0, x1, x2, x3, lX⟩ := hw1s w1 hb1
        go_wp2_with fail
        refine Calls.mono (h2 _) ?_
        rintro e w2 ⟨rfl, hb2⟩
        have hb12 := hb1.trans hb2
        clear x0 x1 x2 x3 lX
        obtain ⟨x0, x1, x2, x3, lX⟩ := hw1s w2 hb12
        go_wp2_with fail
        refine Calls.mono (h3 _ (hE0.trans hb12)) ?_
        rintro e w3 ⟨rfl, hb3⟩
        have hb13 := hb12.trans hb3
        have hw3 := hE0.trans hb13
        clear x0 x1 x2 x3 lX hb1 hb2 hb3 hb12 h1 h2 h3 hX0 hE0
        go_wp2
        go_loopg [24] ds.length (fun g i wr => ∃ k : Nat, g = ds.length - k ∧ k ≤ ds.length ∧ i = .int .i64 k ∧ Hd (∀ i (h : i < k) (h2 : i < ds.length), (keyF f ds[i].m : Int) < q) ∧ Ext w3 wr)
        case atStart => exact ⟨0, by omega, by omega, rfl, hd (fun i h _ => by omega), Ext.refl _⟩
        case round =>
          obtain ⟨k, hg, hk, rfl, hQ, hw⟩ := hrel
          have hwr := hw3.trans hw
          by_cases hkl : k < ds.length
          · obtain ⟨b, off, hA, hlt, _⟩ := hR k hkl
            subst hA
            obtain ⟨m0, m1, m2, m3⟩ := (hR.ext hwr).crd k hkl
            have hca := h4 ds[k].m
            have hst := hst k hkl (fun i h => hQ.out i h (by omega))
            have hnx : (keyF f ds[k].m : Int) < q → Hd (∀ i (h : i < k + 1) (h2 : i < ds.length), (keyF f ds[i].m : Int) < q) := fun e => hd (fun i h1 h2 => by
              by_cases e1 : i = k
              · subst e1; exact e
              · exact hQ.out i (by omega) h2)
            have hbx : BoxAt (wr.alloc (.cells #[.string ds[k].nm, .int .u64 (lo ds[k].m), .int .u64 (hi ds[k].m)] 60)) wr.heap.size #[.string ds[k].nm, .int .u64 (lo ds[k].m), .int .u64 (hi ds[k].m)] 60 := BoxAt.new' rfl
            have hbr := hb13.trans hw
            obtain ⟨x0, x1, x2, x3, lX⟩ := hw1s wr hbr
            generalize ds[k] = c at m0 m1 m2 hca hst hnx hbx
            generalize keyF f c.m = kc at hca hst hnx
            have hEa := hw.alloc (.cells #[.string c.nm, .int .u64 (lo c.m), .int .u64 (hi c.m)] 60)
            go_wp2_with fail
            refine Calls.mono (hca _) ?_
            rintro e w5 ⟨rfl, hb5⟩
            have hw5 := hEa.trans hb5
            clear x0 x1 x2 x3 lX m0 m1 m2 m3 hbx hEa hca hbr hwr hw
            by_cases e : (kc : Int) < q
            · have hQ2 := hnx e
              have hq : (q ≤ (kc : Int)) = False := eq_false (by omega)
              clear hst hal hnx e
              go_wp2
              go_roundg (ds.length - (k + 1))
              case rel => exact ⟨k + 1, rfl, hkl, by simp, hQ2, hw5⟩
              case measure => omega
            · have hR2 := hd (hst (by omega))
              have hq : (q ≤ (kc : Int)) = True := eq_true (by omega)
              clear hst hal hnx e
              go_wp2
              refine bodyPost_ret (v := .tuple #[.int .i64 k, .int .i64 0]) (by simp [results, Tryd.results17, go_sem]) rfl ⟨by rw [hv.out, hR2.out], hw3.trans hw5⟩
          · obtain rfl : k = ds.length := by omega
            have hR2 := hd (hal (fun i h => hQ.out i h h))
            clear hst hal
            go_wp2
            refine bodyPost_ret (v := .tuple #[.int .i64 ds.length, .int .i64 0]) (by simp [results, Tryd.results17, go_sem]) rfl ⟨by rw [hv.out, hR2.out], hwr⟩
set_option maxHeartbeats 1000000 in
theorem spec_FirstFrom (ds : List Crd) (A : Option Addr) (cap : Nat) (f : Fld) (q : Int) (q0 : -9223372036854775808 ≤ q) (q1 : q < 9223372036854775808) (w : World) (hR : Rd encCrd w A ds) (hn : ds.length ≤ 1048576) (hok : ∀ c ∈ ds, CrdIn c) (hf : FldIn f) :
    Calls Tryd.prog 16 #[.slice A ds.length cap, .agg #[.string f.nm, .int .i8 f.kd, .int .i16 f.st, .int .i16 f.sz], .int .i64 q] w fun e w' => e = .returned (.tuple #[.int .i64 (ffF ds f q).1, .int .i64 (ffF ds f q).2]) ∧ Ext w w' := by
  have hF0 : ∀ W, BoxAt W w.heap.size #[.string f.nm, .int .i8 f.kd, .int .i16 f.st, .int .i16 f.sz] 33 → FldAt W w.heap.size 0 f := fun W h => ⟨h.cell 0, h.cell 1, h.cell 2, h.cell 3⟩
  have h1 := fun (W : World) (hE : Ext w W) => spec_l02Ok ds A cap W (hR.ext hE) hn hok
  have h2 := fun (W : World) (h : FldAt W w.heap.size 0 f) => l01Field_in f hf w.heap.size 0 W h
  have h3 := fun (h : fldB f = true) (W : World) (hF : FldAt W w.heap.size 0 f) (hE : Ext w W) => spec_l02Sorted f h hf.1.2.2.1 hf.1.2.2.2 ds A cap w.heap.size 0 W hF (hR.ext hE) hn
  have h4 := fun (h : fldB f = true) (m : Mask) (W : World) (hF : FldAt W w.heap.size 0 f) => spec_l02Key f h hf.1.2.2.1 hf.1.2.2.2 m w.heap.size 0 W hF
  have k0 := ffF_no (ds := ds) (f := f) (q := q)
  have k1 := ffF_no2 (ds := ds) (f := f) (q := q)
  have k2 := ffF_un (ds := ds) (f := f) (q := q)
  have k3 := ffF_ok (ds := ds) (f := f) (q := q)
  have hst := ff_stop f q ds
  have hal := ff_all f q ds
  have hX0 : BoxAt (w.alloc (.cells #[.string f.nm, .int .i8 f.kd, .int .i16 f.st, .int .i16 f.sz] 33)) w.heap.size #[.string f.nm, .int .i8 f.kd, .int .i16 f.st, .int .i16 f.sz] 33 := BoxAt.new' rfl
  have hE0 : Ext w (w.alloc (.cells #[.string f.nm, .int .i8 f.kd, .int .i16 f.st, .int .i16 f.sz] 33)) := (Ext.refl _).alloc _
  unfold kf at hst hal
  cases hd1 : deckB ds with
  | false =>
    have hv := hd (k0 hd1)
    rw [hd1] at h1
    clear k0 k1 k2 k3 h4 h3 hst hal
    go_enter Tryd.func16, Tryd.ntmps16
    go_wp2_with fail
    refine Calls.mono (h1 _ hE0) ?_
    rintro e w1 ⟨rfl, hb1⟩
    go_wp2
    refine bodyPost_ret (v := .tuple #[.int .i64 0, .int .i64 1]) (by simp [results, Tryd.results16, go_sem]) rfl ⟨by rw [hv.out], hE0.trans hb1⟩
  | true =>
    rw [hd1] at h1
    cases hd2 : fldB f with
    | false =>
      have hv := hd (k1 hd2)
      rw [hd2] at h2
      clear k0 k1 k2 k3 h4 h3 hst hal
      go_enter Tryd.func16, Tryd.ntmps16
      go_wp2_with fail
      refine Calls.mono (h1 _ hE0) ?_
      rintro e w1 ⟨rfl, hb1⟩
      go_wp2_with fail
      refine Calls.mono (h2 _ (hF0 _ (hX0.ext hb1))) ?_
      rintro e w2 ⟨rfl, hb2⟩
      go_wp2
      refine bodyPost_ret (v := .tuple #[.int .i64 0, .int .i64 1]) (by simp [results, Tryd.results16, go_sem]) rfl ⟨by rw [hv.out], (hE0.trans hb1).trans hb2⟩
    | true =>
      rw [hd2] at h2
      replace h3 := h3 hd2
      replace h4 := h4 hd2
      cases hd3 : sortedB f ds with
      | false =>
        have hv := hd (k2 hd1 hd2 hd3)
        rw [hd3] at h3
        clear k0 k1 k2 k3 h4 hst hal
        go_enter Tryd.func16, Tryd.ntmps16
        go_wp2_with fail
        refine Calls.mono (h1 _ hE0) ?_
        rintro e w1 ⟨rfl, hb1⟩
        go_wp2_with fail
        refine Calls.mono (h2 _ (hF0 _ (hX0.ext hb1))) ?_
        rintro e w2 ⟨rfl, hb2⟩
        have hb12 := hb1.trans hb2
        go_wp2_with fail
        refine Calls.mono (h3 _ (hF0 _ (hX0.ext hb12)) (hE0.trans hb12)) ?_
        rintro e w3 ⟨rfl, hb3⟩
        go_wp2
        refine bodyPost_ret (v := .tuple #[.int .i64 0, .int .i64 4]) (by simp [results, Tryd.results16, go_sem]) rfl ⟨by rw [hv.out], (hE0.trans hb12).trans hb3⟩
      | true =>
        have hv := hd (k3 hd1 hd2 hd3)
        rw [hd3] at h3
        clear k0 k1 k2 k3
        generalize ffI f ds q = R at hv hst hal
        go_enter Tryd.func16, Tryd.ntmps16
        go_wp2_with fail
        refine Calls.mono (h1 _ hE0) ?_
        rintro e w1 ⟨rfl, hb1⟩
        go_wp2_with fail
        refine Calls.mono (h2 _ (hF0 _ (hX0.ext hb1))) ?_
        rintro e w2 ⟨rfl, hb2⟩
        have hb12 := hb1.trans hb2
        go_wp2_with fail
        refine Calls.mono (h3 _ (hF0 _ (hX0.ext hb12)) (hE0.trans hb12)) ?_
        rintro e w3 ⟨rfl, hb3⟩
        have hX3 := hX0.ext (hb12.trans hb3)
        have hw3 := hE0.trans (hb12.trans hb3)
        clear hb1 hb2 hb3 hb12 h1 h2 h3 hX0 hE0
        go_wp2
        go_loopg [8] ds.length (fun g i wr => ∃ k : Nat, g = ds.length - k ∧ k ≤ ds.length ∧ i = .int .i64 k ∧ Hd (∀ i (h : i < k) (h2 : i < ds.length), (keyF f ds[i].m : Int) < q) ∧ Ext w3 wr)
        case atStart => exact ⟨0, by omega, by omega, rfl, hd (fun i h _ => by omega), Ext.refl _⟩
        case round =>
          obtain ⟨k, hg, hk, rfl, hQ, hw⟩ := hrel
          have hwr := hw3.trans hw
          by_cases hkl : k < ds.length
          · obtain ⟨b, off, hA, hlt, _⟩ := hR k hkl
            subst hA
            obtain ⟨m0, m1, m2, m3⟩ := (hR.ext hwr).crd k hkl
            have hca := h4 ds[k].m wr (hF0 _ (hX3.ext hw))
            have hst := hst k hkl (fun i h => hQ.out i h (by omega))
            have hnx : (keyF f ds[k].m : Int) < q → Hd (∀ i (h : i < k + 1) (h2 : i < ds.length), (keyF f ds[i].m : Int) < q) := fun e => hd (fun i h1 h2 => by
              by_cases e1 : i = k
              · subst e1; exact e
              · exact hQ.out i (by omega) h2)
            have hk0 : (0 : Int) ≤ k ∧ (k : Int) < ds.length := ⟨by omega, by omega⟩
            generalize ds[k] = c at m0 m1 m2 hca hst hnx
            generalize keyF f c.m = kc at hca hst hnx
            go_wp2_with fail
            refine Calls.mono hca ?_
            rintro e w5 ⟨rfl, hb5⟩
            have hw5 := hw.trans hb5
            clear m0 m1 m2 m3 hca hwr hw
            by_cases e : (kc : Int) < q
            · have hQ2 := hnx e
              have hq : ((kc : Int) < q) = True := eq_true e
              clear hst hal hnx e
              go_wp2
              go_roundg (ds.length - (k + 1))
              case rel => exact ⟨k + 1, rfl, hkl, by simp, hQ2, hw5⟩
              case measure => omega
            · have hR2 := hd (hst (by omega))
              have hq : ((kc : Int) < q) = False := eq_false e
              clear hst hal hnx e
              go_wp2
              refine bodyPost_ret (v := .tuple #[.int .i64 k, .int .i64 0]) (by simp [results, Tryd.results16, go_sem]) rfl ⟨by rw [hv.out, hR2.out], hw3.trans hw5⟩
          · obtain rfl : k = ds.length := by omega
            have hR2 := hd (hal (fun i h => hQ.out i h h))
            clear hst hal
            go_wp2
            refine bodyPost_ret (v := .tuple #[.int .i64 ds.length, .int .i64 0]) (by simp [results, Tryd.results16, go_sem]) rfl ⟨by rw [hv.out, hR2.out], hwr⟩
end Go.Proofs.YtdlpifgkponnmaaDoor
