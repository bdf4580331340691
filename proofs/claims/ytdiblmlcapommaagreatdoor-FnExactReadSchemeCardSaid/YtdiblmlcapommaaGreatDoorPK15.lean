/-
  PK15: the texts MI M5 MA Q4 EV EK O4 in one (written by pack.py).
-/
import Derived.Test.YtdiblmlcapommaaGreatDoorPK8
import Derived.Laws.BytesArg
import Derived.Test.YtdiblmlcapommaaGreatDoorPK10
import Derived.Test.YtdiblmlcapommaaGreatDoorPK6
import Derived.Test.YtdiblmlcapommaaGreatDoorPK14
import Derived.LaidLaws
import Derived.LaidMore
import Derived.Lay
import Derived.Test.YtdiblmlcapommaaGreatDoorRows
import Derived.Test.YtdiblmlcapommaaGreatDoorPK4
import Derived.Handed
set_option linter.unusedVariables false
set_option linter.unusedSimpArgs false
set_option maxRecDepth 100000
namespace Go.Proofs.YtdiblmlcapommaaGreatDoor
open Go.RowKit
/-- The digits of a number, ahead of what is there. -/
def decS (k : Nat) (out : ByteArray) : ByteArray := if h : k = 0 then out else decS (k / 10) (strOfNums [48 + (k : Int) % 10] ++ out)
termination_by k
decreasing_by omega
theorem decS_zero (out : ByteArray) : decS 0 out = out := by rw [decS]; simp
theorem decS_pos (k : Nat) (out : ByteArray) (h : k ≠ 0) : decS k out = decS (k / 10) (strOfNums [48 + (k : Int) % 10] ++ out) := by rw [decS, dif_neg h]
theorem one_sizeMI (n : Int) : (strOfNums [n]).size = 1 := rfl
/-- The mark of a number. -/
def markS (k : Nat) : ByteArray := if k = 0 then ⟨#[109, 48]⟩ else ⟨#[109]⟩ ++ decS k ⟨#[]⟩
theorem conv_byte (W : World) (n : Int) : (convert 65 9 (.slice (some ⟨W.heap.size, 0, none⟩) 1 1)).run Tryz.prog (W.alloc (.cells #[.int .u8 n] 5)) = .ok (.string (strOfNums [n])) (W.alloc (.cells #[.int .u8 n] 5)) :=
  run_convert_bytes_arg _ 65 5 Tryz.underlying65 Tryz.underlying5 W.heap.size 0 1 1 [n] rfl (fun i hi => by
    obtain rfl : i = 0 := by omega
    rw [World.cell?_alloc_at _ _ _ _ rfl]
    rfl) 9 Tryz.underlying9
set_option maxHeartbeats 400000 in
theorem laws_markText (k : Nat) (hk : k ≤ 1000000000) (w : World) :
    Calls Tryz.prog 18 #[.int .i64 k] w fun e w' => e = .returned (.string (markS k)) ∧ Ext w w' := by
  by_cases h0 : k = 0
  · subst h0
    have hv := hd (show markS 0 = ⟨#[109, 48]⟩ from rfl)
    go_enter Tryz.func18, Tryz.ntmps18
    go_wp2
    go_ret
    exact ⟨by rw [hv.out]; rfl, Ext.refl _⟩
  · have hv := hd (show markS k = ⟨#[109]⟩ ++ decS k ⟨#[]⟩ by unfold markS; rw [if_neg h0])
    go_enter Tryz.func18, Tryz.ntmps18
    go_wp2
    go_loopg [0, 3] k (fun g a o wr => ∃ n : Nat, ∃ out : ByteArray, g = n ∧ n ≤ k ∧ a = .int .i64 n ∧ o = .string out ∧ Ext w wr ∧ decS k ⟨#[]⟩ = decS n out ∧ out.size + n ≤ k)
    case atStart => exact ⟨k, ⟨#[]⟩, rfl, Nat.le_refl _, rfl, rfl, Ext.refl _, rfl, by show 0 + k ≤ k; omega⟩
    case round =>
      obtain ⟨n, out, hg, hn, rfl, rfl, hw, hD, hsz⟩ := hrel
      by_cases hz : n = 0
      · subst hz
        rw [decS_zero] at hD
        have hv2 := hd (hv.out.trans (by rw [hD]))
        clear hD hv
        have hs1 : ¬ (9223372036854775807 < ByteArray.size ⟨#[109]⟩ + out.size) := by
          rw [show ByteArray.size ⟨#[109]⟩ = 1 from rfl]
          omega
        go_wp2
        go_ret
        exact ⟨by rw [hv2.out]; rfl, hw⟩
      · rw [decS_pos n out hz] at hD
        have hD2 := hd hD
        have hcv := conv_byte wr (48 + (n : Int) % 10)
        clear hD hv
        have hs1 : ¬ (9223372036854775807 < (strOfNums [48 + (n : Int) % 10]).size + out.size) := by
          rw [one_sizeMI]
          omega
        go_wp2
        go_roundg (n / 10)
        case rel => exact ⟨n / 10, strOfNums [48 + (n : Int) % 10] ++ out, rfl, by omega, by first | rfl | (simp; done), rfl, hw.alloc _, hD2.out, by rw [show (strOfNums [48 + (n : Int) % 10] ++ out).size = 1 + out.size by rw [ByteArray.size_append]; rfl]; omega⟩
        case measure => omega
/-- The numbers from k on, n of them. -/
def upFrom (k : Nat) : Nat → List Int
  | 0 => []
  | n + 1 => (k : Int) :: upFrom (k + 1) n
theorem upFrom_len : ∀ (n k : Nat), (upFrom k n).length = n
  | 0, _ => rfl
  | n + 1, k => by rw [upFrom, List.length_cons, upFrom_len n]
theorem upFrom_get : ∀ (n k i : Nat) (h : i < (upFrom k n).length), (upFrom k n)[i] = ((k + i : Nat) : Int)
  | 0, _, _, h => by simp [upFrom] at h
  | n + 1, k, 0, _ => rfl
  | n + 1, k, i + 1, h => by
    show (upFrom (k + 1) n)[i]'_ = _
    rw [upFrom_get n (k + 1) i]
    omega
/-- The first i numbers of a list are the marks from k on. -/
def markTo (is : List Int) (k i : Nat) : List Int := (upFrom k i) ++ is.drop i
theorem markTo_len (is : List Int) (k i : Nat) (h : i ≤ is.length) : (markTo is k i).length = is.length := by
  unfold markTo
  rw [List.length_append, upFrom_len, List.length_drop]
  omega
theorem upFrom_snoc : ∀ (n k : Nat), upFrom k (n + 1) = upFrom k n ++ [((k + n : Nat) : Int)]
  | 0, _ => rfl
  | n + 1, k => by
    rw [upFrom, upFrom_snoc n (k + 1), show k + 1 + n = k + (n + 1) by omega]
    rfl
theorem markTo_set (is : List Int) (k i : Nat) (h : i < is.length) : (markTo is k i).set i ((k : Int) + i) = markTo is k (i + 1) := by
  unfold markTo
  rw [List.set_append_right _ _ (by rw [upFrom_len]; omega), upFrom_len, Nat.sub_self, List.drop_eq_getElem_cons h, List.set_cons_zero, upFrom_snoc, List.append_assoc, Int.natCast_add]
  rfl
theorem markTo_all (is : List Int) (k : Nat) : markTo is k is.length = upFrom k is.length := by
  unfold markTo
  rw [List.drop_length, List.append_nil]
theorem Enc.all_set1 {α : Type} (e : Enc α) (xs : List α) (k f : Nat) (u : Value) (z : α) (hk : k < xs.length) (hf : f < e.sz) (hz : e.enc z = (e.enc xs[k]).set f u) : (e.all xs).set (k * e.sz + f) u = e.all (xs.set k z) := by
  rw [← e.all_set xs k z hk]
  have hle : k * e.sz + (e.enc z).length ≤ (e.all xs).length := by
    rw [e.len, e.all_length, ← Nat.succ_mul]
    exact Nat.mul_le_mul_right _ hk
  apply List.ext_getElem?
  intro i
  rw [setL_get _ _ _ _ hle, e.len, List.getElem?_set, hz]
  by_cases h1 : k * e.sz ≤ i ∧ i < k * e.sz + e.sz
  · rw [if_pos h1, List.getElem?_set]
    obtain ⟨j, rfl⟩ : ∃ j, i = k * e.sz + j := ⟨i - k * e.sz, by omega⟩
    rw [Nat.add_sub_cancel_left, e.len]
    by_cases h2 : f = j
    · subst h2
      rw [if_pos rfl, if_pos rfl, if_pos (by rw [e.len] at hle; omega), if_pos hf]
    · rw [if_neg (by omega), if_neg h2]
      exact e.all_get xs k j hk (by omega)
  · rw [if_neg h1, if_neg (by omega)]
theorem Ow.set1 {α : Type} {e : Enc α} {T : TypeId} {w : World} {base g n cap : Nat} {xs : List α} (h : Ow e T w base (.slice (some ⟨g, 0, none⟩) n cap) xs) (k f : Nat) (u : Value) (z : α) (hk : k < xs.length) (hf : f < e.sz) (hz : e.enc z = (e.enc xs[k]).set f u) :
    Ow e T (w.setCell ⟨g, k * e.sz + f, none⟩ u) base (.slice (some ⟨g, 0, none⟩) n cap) (xs.set k z) := by
  obtain rfl := h.cap_len
  have := (World.ownsRow.stored h (k * e.sz + f) u).1
  rw [e.all_set1 xs k f u z hk hf hz] at this
  rw [Ow, List.length_set]
  exact this
theorem Ow.frozen {α : Type} {e : Enc α} {T : TypeId} {w : World} {base g n cap : Nat} {xs : List α} (h : Ow e T w base (.slice (some ⟨g, 0, none⟩) n cap) xs) (j : Nat) : w.frozen? ⟨g, j, none⟩ = false := by
  obtain rfl := h.cap_len
  exact World.ownsRow.frozenAt h j
theorem Ow.shape {α : Type} {e : Enc α} {T : TypeId} {w : World} {base : Nat} {v : Value} {xs : List α} (h : Ow e T w base v xs) : (v = .slice none 0 0 ∧ xs = []) ∨ ∃ g cap, v = .slice (some ⟨g, 0, none⟩) xs.length cap ∧ base ≤ g ∧ g < w.heap.size := by
  rcases h.2 with ⟨h1, h0⟩ | ⟨g, cap, cur, h1, hg, hh, _⟩
  · exact .inl ⟨h1, List.eq_nil_of_length_eq_zero h0⟩
  · exact .inr ⟨g, cap, h1, hg, (Array.getElem?_eq_some_iff.1 hh).1⟩
theorem Ow.rd {α : Type} {e : Enc α} {T : TypeId} {w : World} {base g n cap : Nat} {xs : List α} (h : Ow e T w base (.slice (some ⟨g, 0, none⟩) n cap) xs) : Rd e w (some ⟨g, 0, none⟩) xs := by
  obtain ⟨A, c, h1, _, h2⟩ := h.slice
  simp only [Value.slice.injEq] at h1
  obtain ⟨rfl, _⟩ := h1
  exact h2
theorem grownBy_refl (w : World) (r : Option Nat) : w.grownBy w r := ⟨rfl, rfl, rfl, Nat.le_refl _, fun _ _ _ => rfl⟩
theorem grownBy_set {w w' : World} {g : Nat} (h : w.grownBy w' (some g)) (j : Nat) (u : Value) : w.grownBy (w'.setCell ⟨g, j, none⟩ u) (some g) :=
  ⟨h.os, h.tape, h.output, by simpa using h.size, fun k hk hne => (Below.heap_setCell w' ⟨g, j, none⟩ u k (fun e => hne (by rw [e]))).trans (h.block k hk hne)⟩
theorem grownBy_ext {w w' w'' : World} {r : Option Nat} (h : w.grownBy w' r) (hb : Ext w' w'') : w.grownBy w'' r :=
  ⟨hb.os.trans h.os, hb.tape.trans h.tape, hb.output.trans h.output, Nat.le_trans h.size hb.size, fun k hk hne => (hb.block k (Nat.lt_of_lt_of_le hk h.size)).trans (h.block k hk hne)⟩
end Go.Proofs.YtdiblmlcapommaaGreatDoor
set_option linter.unusedVariables false
set_option linter.unusedSimpArgs false
set_option maxRecDepth 100000
namespace Go.Proofs.YtdiblmlcapommaaGreatDoor
open Go.RowKit
def markFd (k : Nat) : Fld := ⟨markS k, IntKind.i8.wrap ((k : Int) + 1), IntKind.i16.wrap ((k : Int) + 1 + 1), IntKind.i16.wrap ((k : Int) + 1 + 1 + 1)⟩
/-- The marked fields from k on, n of them. -/
def upFl (k : Nat) : Nat → List Fld
  | 0 => []
  | n + 1 => markFd k :: upFl (k + 4) n
theorem upFl_len : ∀ (n k : Nat), (upFl k n).length = n
  | 0, _ => rfl
  | n + 1, k => by rw [upFl, List.length_cons, upFl_len n]
theorem upFl_get : ∀ (n k i : Nat) (h : i < (upFl k n).length), (upFl k n)[i] = markFd (k + 4 * i)
  | 0, _, _, h => by simp [upFl] at h
  | n + 1, k, 0, _ => rfl
  | n + 1, k, i + 1, h => by
    show (upFl (k + 4) n)[i]'_ = _
    rw [upFl_get n (k + 4) i, show k + 4 + 4 * i = k + 4 * (i + 1) by omega]
theorem upFl_snoc : ∀ (n k : Nat), upFl k (n + 1) = upFl k n ++ [markFd (k + 4 * n)]
  | 0, _ => rfl
  | n + 1, k => by
    rw [upFl, upFl_snoc n (k + 4), show k + 4 + 4 * n = k + 4 * (n + 1) by omega]
    rfl
def markFTo (xs : List Fld) (k i : Nat) : List Fld := (upFl k i) ++ xs.drop i
theorem markFTo_len (xs : List Fld) (k i : Nat) (h : i ≤ xs.length) : (markFTo xs k i).length = xs.length := by
  unfold markFTo
  rw [List.length_append, upFl_len, List.length_drop]
  omega
theorem markFTo_set (xs : List Fld) (k i : Nat) (h : i < xs.length) : (markFTo xs k i).set i (markFd (k + 4 * i)) = markFTo xs k (i + 1) := by
  unfold markFTo
  rw [List.set_append_right _ _ (by rw [upFl_len]; omega), upFl_len, Nat.sub_self, List.drop_eq_getElem_cons h, List.set_cons_zero, upFl_snoc, List.append_assoc]
  rfl
theorem markFTo_all (xs : List Fld) (k : Nat) : markFTo xs k xs.length = upFl k xs.length := by
  unfold markFTo
  rw [List.drop_length, List.append_nil]
set_option maxHeartbeats 400000 in
theorem laws_eqFieldSame (f : Fld) (w : World) :
    Calls Tryz.prog 17 #[.agg #[.string f.nm, .int .i8 f.kd, .int .i16 f.st, .int .i16 f.sz], .agg #[.string f.nm, .int .i8 f.kd, .int .i16 f.st, .int .i16 f.sz]] w fun e w' => e = .returned (.bool true) ∧ Ext w w' := by
  have hx := @ExtOf.cell
  go_enter Tryz.func17, Tryz.ntmps17
  go_wp2
  go_ret
  exact ⟨rfl, by ((repeat (first | with_reducible exact Ext.refl _ | with_reducible exact hw | with_reducible exact hb9 | with_reducible exact hb8 | with_reducible exact hb7 | with_reducible exact hb6 | with_reducible exact hb5 | with_reducible exact hb4 | with_reducible exact hb3 | with_reducible exact hb2 | with_reducible exact hb1 | with_reducible refine Ext.alloc ?_ _ | with_reducible refine Ext.drew ?_ | ((with_reducible refine Ext.set ?_ ?_ _); focus (dsimp only; omega)) | with_reducible refine Ext.trans ?_ hb9 | with_reducible refine Ext.trans ?_ hb8 | with_reducible refine Ext.trans ?_ hb7 | with_reducible refine Ext.trans ?_ hb6 | with_reducible refine Ext.trans ?_ hb5 | with_reducible refine Ext.trans ?_ hb4 | with_reducible refine Ext.trans ?_ hb3 | with_reducible refine Ext.trans ?_ hb2 | with_reducible refine Ext.trans ?_ hb1 | with_reducible refine Ext.trans ?_ hw)))⟩
set_option maxHeartbeats 1000000 in
theorem laws_eqFieldSSame (xs : List Fld) (A B : Option Addr) (cap cap' : Nat) (w : World) (hR : Rd encFld w A xs) (hS : Rd encFld w B xs) (hn : xs.length ≤ 1048576) :
    Calls Tryz.prog 6 #[.slice A xs.length cap, .slice B xs.length cap'] w fun e w' => e = .returned (.bool true) ∧ Ext w w' := by
  have hx := @ExtOf.cell
  go_enter Tryz.func6, Tryz.ntmps6
  go_wp2
  go_loopg [5] xs.length (fun g i wr => ∃ k : Nat, g = xs.length - k ∧ k ≤ xs.length ∧ i = .int .i64 k ∧ Ext w wr)
  case atStart => exact ⟨0, by omega, by omega, rfl, Ext.refl _⟩
  case round =>
    obtain ⟨k, hg, hk, rfl, hw⟩ := hrel
    by_cases hkl : k < xs.length
    · obtain ⟨b, off, hA, hlt, hr1⟩ := hR k hkl
      obtain ⟨c, off', hB, hlt', hr2⟩ := hS k hkl
      subst hA hB
      clear hr1 hr2
      obtain ⟨m0, m1, m2, m3, m4⟩ := (hR.ext hw).fld k hkl
      obtain ⟨n0, n1, n2, n3, n4⟩ := (hS.ext hw).fld k hkl
      generalize xs[k] = x at m0 m1 m2 m3 n0 n1 n2 n3
      have q1 : (k : Int) < xs.length := by omega
      have heq := fun W => laws_eqFieldSame x W
      go_wp2
      refine wp_region_ext (by kernel_rfl) (by kernel_rfl) ?_
      repeat (first | go_big_quiet_step (((go_at_call 17; with_reducible exact Calls.ext_of (heq _)))) | quiet_step (((go_at_call 17; with_reducible exact Calls.ext_of (heq _)))))
      refine wpQuiet_nil ?_
      intro w3 hq3
      have hb3 := ext_of_class hq3
      clear hq3
      obtain ⟨hc3, hf3, hz3⟩ := bcell3 hb3
      try simp at hz3
      go_wp2
      go_roundg (xs.length - (k + 1))
      case rel => exact ⟨k + 1, rfl, hkl, by first | rfl | simp, hw.trans hb3⟩
      case measure => omega
    · obtain rfl : k = xs.length := by omega
      go_wp2
      go_ret
      exact ⟨rfl, hw⟩
set_option maxHeartbeats 1000000 in
theorem laws_markFieldM (xs : List Fld) (v : Value) (k base : Nat) (w : World) (hO : Ow encFld 33 w base v xs) (hn : xs.length ≤ 1048576) (hk : k ≤ 1048576) :
    Calls Tryz.prog 7 #[v, .int .i64 k] w fun e w' => e = .returned (.int .i64 ((k : Int) + 4 * xs.length)) ∧ Ow encFld 33 w' base v (upFl k xs.length) ∧ w.grownBy w' v.ownBlock := by
  rcases hO.shape with ⟨rfl, rfl⟩ | ⟨g, cap, rfl, hg, hgl⟩
  · go_enter Tryz.func7, Tryz.ntmps7
    go_wp2
    refine wp_loop_rounds 1 ?_
    rw [rounds_succ]
    go_wp2
    go_ret
    exact ⟨by simp, Ow.nil _ _ _ _, grownBy_refl _ _⟩
  · rw [← markFTo_all]
    go_enter Tryz.func7, Tryz.ntmps7
    go_wp2
    go_loopg [5, 1] xs.length (fun g' i m wr => ∃ (j q : Nat), g' = xs.length - j ∧ j ≤ xs.length ∧ i = .int .i64 j ∧ m = .int .i64 q ∧ q = k + 4 * j ∧ Ow encFld 33 wr base (.slice (some ⟨g, 0, none⟩) xs.length cap) (markFTo xs k j) ∧ w.grownBy wr (some g))
    case atStart => exact ⟨0, k, by omega, by omega, rfl, rfl, rfl, by unfold markFTo upFl; exact hO, grownBy_refl _ _⟩
    case round =>
      obtain ⟨j, q, hg', hj, rfl, rfl, hq, hO', hgr⟩ := hrel
      have hys := markFTo_len xs k j hj
      by_cases hjl : j < xs.length
      · have hset := markFTo_set xs k j hjl
        rw [← hq] at hset
        have hset := hd hset
        have hq2 := hd hq
        have hqb : q ≤ 10000000 := by omega
        generalize markFTo xs k j = ys at hO' hys hset
        have hjy : j < ys.length := by omega
        clear hq hys
        go_wp2_with fail
        refine Calls.mono (laws_markText q (by omega) _) ?_
        rintro e w1 ⟨rfl, hb1⟩
        have hO1 := hO'.ext hb1
        have hgr1 := grownBy_ext hgr hb1
        clear hO' hgr hb1
        obtain ⟨c0, c1, c2, c3, hbl⟩ := hO1.rd.fld j hjy
        simp only [Nat.zero_add] at c0 c1 c2 c3
        have f0 := hO1.frozen (j * 4)
        have f1 := hO1.frozen (j * 4 + 1)
        have f2 := hO1.frozen (j * 4 + 2)
        have f3 := hO1.frozen (j * 4 + 3)
        have hmk : markFd q = ⟨markS q, IntKind.i8.wrap ((q : Int) + 1), IntKind.i16.wrap ((q : Int) + 1 + 1), IntKind.i16.wrap ((q : Int) + 1 + 1 + 1)⟩ := rfl
        obtain ⟨a1, ha1⟩ : ∃ a, IntKind.i8.wrap ((q : Int) + 1) = a := ⟨_, rfl⟩
        obtain ⟨a2, ha2⟩ : ∃ a, IntKind.i16.wrap ((q : Int) + 1 + 1) = a := ⟨_, rfl⟩
        obtain ⟨a3, ha3⟩ : ∃ a, IntKind.i16.wrap ((q : Int) + 1 + 1 + 1) = a := ⟨_, rfl⟩
        rw [ha1, ha2, ha3] at hmk
        have z0 := hO1.set1 j 0 (.string (markS q)) ⟨markS q, ys[j].kd, ys[j].st, ys[j].sz⟩ hjy (by decide) rfl
        have z1 := z0.set1 j 1 (.int .i8 a1) ⟨markS q, a1, ys[j].st, ys[j].sz⟩ (by rw [List.length_set]; exact hjy) (by decide) (by rw [List.getElem_set_self]; rfl)
        have z2 := z1.set1 j 2 (.int .i16 a2) ⟨markS q, a1, a2, ys[j].sz⟩ (by rw [List.length_set, List.length_set]; exact hjy) (by decide) (by rw [List.getElem_set_self]; rfl)
        have z3 := z2.set1 j 3 (.int .i16 a3) ⟨markS q, a1, a2, a3⟩ (by rw [List.length_set, List.length_set, List.length_set]; exact hjy) (by decide) (by rw [List.getElem_set_self]; rfl)
        rw [List.set_set, List.set_set, List.set_set, ← hmk, show j * encFld.sz + 0 = j * 4 from rfl, show j * encFld.sz + 1 = j * 4 + 1 from rfl, show j * encFld.sz + 2 = j * 4 + 2 from rfl, show j * encFld.sz + 3 = j * 4 + 3 from rfl] at z3
        have g2 := grownBy_set (grownBy_set (grownBy_set (grownBy_set hgr1 (j * 4) (.string (markS q))) (j * 4 + 1) (.int .i8 a1)) (j * 4 + 2) (.int .i16 a2)) (j * 4 + 3) (.int .i16 a3)
        clear z0 z1 z2 hO1 hgr1 hmk
        go_wp2
        go_roundg (xs.length - (j + 1))
        case rel => exact ⟨j + 1, q + 4, rfl, hjl, rfl, by rw [show ((q + 4 : Nat) : Int) = (q : Int) + 1 + 1 + 1 + 1 by omega], by rw [hq2.out]; omega, by rw [← hset.out]; exact z3, g2⟩
        case measure => omega
      · obtain rfl : j = xs.length := by omega
        subst hq
        go_wp2
        go_ret
        exact ⟨by simp, hO', hgr⟩
set_option maxHeartbeats 1000000 in
theorem laws_heldFieldS (n : Nat) (A : Option Addr) (cap : Nat) (k : Nat) (w : World) (hR : Rd encFld w A (upFl k n)) (hn : n ≤ 1048576) (hk : k ≤ 1048576) :
    Calls Tryz.prog 8 #[.slice A n cap, .int .i64 k] w fun e w' => e = .returned (.int .i64 ((k : Int) + 4 * n)) ∧ Ext w w' := by
  have hx := @ExtOf.cell
  go_enter Tryz.func8, Tryz.ntmps8
  go_wp2
  go_loopg [5, 1] n (fun g' i m wr => ∃ j q : Nat, g' = n - j ∧ j ≤ n ∧ i = .int .i64 j ∧ m = .int .i64 q ∧ q = k + 4 * j ∧ Ext w wr)
  case atStart => exact ⟨0, k, by omega, by omega, rfl, rfl, rfl, Ext.refl _⟩
  case round =>
    obtain ⟨j, q, hg', hj, rfl, rfl, hq, hw⟩ := hrel
    by_cases hjl : j < n
    · have hjx : j < (upFl k n).length := by rw [upFl_len]; exact hjl
      obtain ⟨b, off, hA, hlt, _⟩ := hR j hjx
      subst hA
      obtain ⟨c0, c1, c2, c3, hbl⟩ := (hR.ext hw).fld j hjx
      rw [upFl_get n k j hjx, ← hq] at c0 c1 c2 c3
      have hq2 := hd hq
      have hqb : q ≤ 10000000 := by omega
      clear hq
      unfold markFd at c0 c1 c2 c3
      dsimp only at c0 c1 c2 c3
      generalize hw1 : IntKind.i8.wrap ((q : Int) + 1) = a1 at c1
      generalize hw2 : IntKind.i16.wrap ((q : Int) + 1 + 1) = a2 at c2
      generalize hw3 : IntKind.i16.wrap ((q : Int) + 1 + 1 + 1) = a3 at c3
      have hmt := fun W => laws_markText q (by omega) W
      generalize markS q = t at c0 hmt
      go_wp2
      refine wp_region_ext (by kernel_rfl) (by kernel_rfl) ?_
      repeat (first | go_big_quiet_step (((go_at_call 18; with_reducible exact Calls.ext_of (hmt _)))) | quiet_step (((go_at_call 18; with_reducible exact Calls.ext_of (hmt _)))))
      refine wpQuiet_nil ?_
      intro w7 hq7
      have hb7 := ext_of_class hq7
      clear hq7
      obtain ⟨hc7, hf7, hz7⟩ := bcell3 hb7
      try simp at hz7
      have d1 := hb7.cell c1
      have d2 := hb7.cell c2
      have d3 := hb7.cell c3
      have dl := Nat.lt_of_lt_of_le hbl hb7.size
      have hw7 := hw.trans hb7
      clear hc7 hf7 hz7 hb7 c0 c1 c2 c3 hbl hmt
      go_wp2
      go_roundg (n - (j + 1))
      case rel => exact ⟨j + 1, q + 4, rfl, hjl, rfl, by rw [show ((q + 4 : Nat) : Int) = (q : Int) + 1 + 1 + 1 + 1 by omega], by rw [hq2.out]; omega, hw7⟩
      case measure => omega
    · obtain rfl : j = n := by omega
      subst hq
      go_wp2
      go_ret
      exact ⟨by simp, hw⟩
end Go.Proofs.YtdiblmlcapommaaGreatDoor
set_option linter.unusedVariables false
namespace Go.Proofs.YtdiblmlcapommaaGreatDoor
open Go.RowKit
section
variable {α β : Type} {e : Enc α} {f : Enc β} {T U : TypeId} {w w' w1 : World} {base base' : Nat} {v v' : Value} {xs : List α} {ys : List β}
/-- Two slices of the call's own, the one made behind the other. -/
def Apart (v v' : Value) : Prop := v.ownBlock = none ∨ v.ownBlock ≠ v'.ownBlock
theorem Apart.of (h : Ow e T w base v xs) (h' : Ow f U w' base' v' ys) (hb : w.heap.size ≤ base') : Apart v v' := by
  cases hv : v.ownBlock with
  | none => exact .inl hv
  | some k =>
    refine .inr ?_
    rw [hv]
    intro he
    have h1 := (h.lt k hv).2
    have h2 := (h'.lt k he.symm).1
    omega
theorem Apart.of' (h : Ow e T w base v xs) (h' : Ow f U w' base' v' ys) (hb : w.heap.size ≤ base') : Apart v' v := by
  cases hv : v'.ownBlock with
  | none => exact .inl hv
  | some k =>
    refine .inr ?_
    rw [hv]
    intro he
    have h1 := (h.lt k he.symm).2
    have h2 := (h'.lt k hv).1
    omega
theorem Ow.apart (h : Ow e T w base v xs) (hg : w.grownBy w' v'.ownBlock) (ha : Apart v v') : Ow e T w' base v xs := h.grown hg ha
theorem Ext.mark {w0 : World} (h : Ext w0 w) (hO : Ow e T w1 base v xs) (hb : w0.heap.size ≤ base) (hg : w.grownBy w' v.ownBlock) : Ext w0 w' :=
  h.trans' hg (fun k hk => Nat.le_trans hb (hO.lt k hk).1)
theorem Ow.rdA {A : Option Addr} {n cap : Nat} (h : Ow e T w base (.slice A n cap) xs) : Rd e w A xs := by
  obtain ⟨A', c, h1, _, h2⟩ := h.slice
  simp only [Value.slice.injEq] at h1
  obtain ⟨rfl, _⟩ := h1
  exact h2
end
end Go.Proofs.YtdiblmlcapommaaGreatDoor
set_option linter.unusedVariables false
set_option linter.unusedSimpArgs false
set_option maxRecDepth 100000
namespace Go.Proofs.YtdiblmlcapommaaGreatDoor
open Go.RowKit
set_option maxHeartbeats 1000000 in
theorem laws_FnExactReadScheme (text : ByteArray) (w : World) (hG : Glob w) (hE : Env w) (hK : Kn w) :
    Calls Tryz.prog 3 #[.string text] w fun e w' => e = .returned (.bool true) ∧ Ext w w' := by
  by_cases hs : text.size ≤ 1048576
  · have hq : ((1048576 : Int) < text.size) = False := by simp only [eq_iff_iff, iff_false]; omega
    go_enter Tryz.func3, Tryz.ntmps3
    go_wp2_with fail
    refine Calls.mono (spec_ReadScheme text hs _) ?_
    rintro e w3 ⟨xs, c, v3, rfl, hO3, hr3, hb3⟩
    have hlen : xs.length ≤ 1048576 := by have := hr3.len; omega
    have hu := fun ys d (h : RSP text ys d) => hd (RSP.uniq hr3 h)
    clear hr3
    obtain ⟨A3, cap3, rfl, hle3, hR3⟩ := hO3.slice
    have hW3 : Ext w w3 := hb3
    go_wp2_with fail
    refine Calls.mono (impl_ReadScheme text hs _ (hG.ext hW3) (hE.ext hW3) (hK.ext hW3)) ?_
    rintro e w5 ⟨ys, d, v5, rfl, hO5, hr5, hb5⟩
    obtain ⟨rfl, rfl⟩ := (hu _ _ hr5).out
    clear hr5
    obtain ⟨A5, cap5, rfl, hle5, hR5⟩ := hO5.slice
    have hW5 := hW3.trans hb5
    have sz3 := hb3.size
    have sz5 := hb5.size
    have ap35 := Apart.of hO3 hO5 (Nat.le_refl _)
    have base5 : w.heap.size ≤ w3.heap.size := hW3.size
    have hO3at5 := hO3.ext hb5
    clear hO3 hR3
    go_wp2_with fail
    refine Calls.mono (laws_eqFieldSSame xs _ _ _ _ _ hO5.rdA hO3at5.rdA hlen) ?_
    rintro e w6 ⟨rfl, hb6⟩
    have hW6 := hW5.trans hb6
    have hO3at6 := hO3at5.ext hb6
    have hO5at6 := hO5.ext hb6
    clear hO3at5 hO5 hR5
    go_wp2_with fail
    refine Calls.mono (laws_markFieldM xs _ 1 _ _ hO5at6 hlen (by omega)) ?_
    rintro e w11 ⟨rfl, hM5, gr11⟩
    have hW11 := hW6.mark hO5at6 base5 gr11
    have hO3at11 := hO3at6.apart gr11 ap35
    clear hO3at6 gr11 ap35
    go_wp2_with fail
    refine Calls.mono (laws_heldFieldS xs.length _ _ 1 _ hM5.rdA hlen (by omega)) ?_
    rintro e w12 ⟨rfl, hb12⟩
    have hW12 := hW11.trans hb12
    have hM5at12 := hM5.ext hb12
    have hO3at12 := hO3at11.ext hb12
    clear hM5 hO3at11
    go_wp2_with fail
    refine Calls.mono (impl_ReadScheme text hs _ (hG.ext hW12) (hE.ext hW12) (hK.ext hW12)) ?_
    rintro e w14 ⟨zs, d, v14, rfl, hO14, hr14, hb14⟩
    obtain ⟨rfl, rfl⟩ := (hu _ _ hr14).out
    clear hr14 hu
    obtain ⟨A14, cap14, rfl, hle14, hR14⟩ := hO14.slice
    have hW14 := hW12.trans hb14
    have hM5at14 := hM5at12.ext hb14
    have hO3at14 := hO3at12.ext hb14
    clear hM5at12 hO3at12
    go_wp2_with fail
    refine Calls.mono (laws_eqFieldSSame xs _ _ _ _ _ hO14.rdA hO3at14.rdA hlen) ?_
    rintro e w15 ⟨rfl, hb15⟩
    have hW15 := hW14.trans hb15
    have hM5at15 := hM5at14.ext hb15
    go_wp2_with fail
    refine Calls.mono (laws_heldFieldS xs.length _ _ 1 _ hM5at15.rdA hlen (by omega)) ?_
    rintro e w16 ⟨rfl, hb16⟩
    have hW16 := hW15.trans hb16
    go_wp2
    go_ret
    exact ⟨rfl, hW16⟩
  · have hq : ((1048576 : Int) < text.size) = True := by simp only [eq_iff_iff, iff_true]; omega
    go_enter Tryz.func3, Tryz.ntmps3
    go_wp2
    go_ret
    exact ⟨rfl, by ((repeat (first | with_reducible exact Ext.refl _ | with_reducible exact hw | with_reducible exact hb9 | with_reducible exact hb8 | with_reducible exact hb7 | with_reducible exact hb6 | with_reducible exact hb5 | with_reducible exact hb4 | with_reducible exact hb3 | with_reducible exact hb2 | with_reducible exact hb1 | with_reducible refine Ext.alloc ?_ _ | with_reducible refine Ext.drew ?_ | ((with_reducible refine Ext.set ?_ ?_ _); focus (dsimp only; omega)) | with_reducible refine Ext.trans ?_ hb9 | with_reducible refine Ext.trans ?_ hb8 | with_reducible refine Ext.trans ?_ hb7 | with_reducible refine Ext.trans ?_ hb6 | with_reducible refine Ext.trans ?_ hb5 | with_reducible refine Ext.trans ?_ hb4 | with_reducible refine Ext.trans ?_ hb3 | with_reducible refine Ext.trans ?_ hb2 | with_reducible refine Ext.trans ?_ hb1 | with_reducible refine Ext.trans ?_ hw)))⟩
end Go.Proofs.YtdiblmlcapommaaGreatDoor
set_option linter.unusedVariables false
set_option maxRecDepth 100000
namespace Go.Proofs.YtdiblmlcapommaaGreatDoor
open Go.RowKit
theorem laid_at {P : Program} {w : World} : ∀ {L : List (String × DataW Unit)} {ps : List MemPlace}, DataW.LaidVars P w L ps → ∀ (n : String) (d : DataW Unit), (n, d) ∈ L → ∃ g t cs fuel p, P.globalNamed n = some g ∧ (P.globals[g]?).map (·.type) = some t ∧ w.var? P n = some cs ∧ DataW.trod (fun _ => ()) P w 0 (fun _ => true) false fuel t cs.toList = some (d, p)
  | [], _, _, _, _, hm => by cases hm
  | x :: L, ps, h, n, d, hm => by
    obtain ⟨g, t, cs, fuel, p, q, h1, h2, h3, h4, h5, _⟩ := h
    rcases List.mem_cons.1 hm with rfl | hm
    · exact ⟨g, t, cs, fuel, p, h1, h2, h3, h4⟩
    · exact laid_at h5 n d hm
theorem err_laid {W : World} {n : String} {g : Nat} {nm : String} {d : DataW Unit} {t : TypeId} {cs : Array Value} {fuel : Nat} {p : List MemPlace} (ht : t = 58)
    (h3 : W.var? Tryz.prog n = some cs) (h4 : DataW.trod (fun _ => ()) Tryz.prog W 0 (fun _ => true) false fuel t cs.toList = some (.iface nm d, p)) : ∃ tp p, W.var? Tryz.prog n = some #[.iface tp p] := by
  subst ht
  obtain ⟨_, u, v, e, _⟩ := iface_of_trod Tryz.underlying58 h4
  refine ⟨u, v, ?_⟩
  rw [h3]
  congr 1
  exact Array.toList_inj.1 (by rw [e])
theorem env_of {L : List (String × DataW Unit)} {W : World} {n1 n2 : String} {d1 d2 : DataW Unit} (h1 : ("internal/strconv.uint64pow10", Lib.tabData .u64 Lib.pow10Tab) ∈ L) (h2 : ("strconv.ErrSyntax", .iface n1 d1) ∈ L) (h3 : ("strconv.ErrRange", .iface n2 d2) ∈ L)
    (h : laidMet Tryz.prog L W) : Env W := by
  obtain ⟨ps, hl, _⟩ := h
  refine ⟨?_, ?_, ?_⟩
  · obtain ⟨g, t, cs, fuel, p, a1, a2, a3, a4⟩ := laid_at hl _ _ h1
    obtain rfl := Option.some.inj (gTab.symm.trans a1)
    obtain rfl := Option.some.inj ((show (Tryz.prog.globals[4]?).map (·.type) = some 102 by kernel_rfl).symm.trans a2)
    unfold Lib.TabIs
    rw [a3, ← Lib.cells_of_tab Tryz.underlying102 Tryz.underlying47 (by kernel_rfl) (by kernel_rfl) a4]
  · obtain ⟨g, t, cs, fuel, p, a1, a2, a3, a4⟩ := laid_at hl _ _ h2
    obtain rfl := Option.some.inj (gSyn.symm.trans a1)
    exact err_laid (g := 0) (Option.some.inj ((show (Tryz.prog.globals[2]?).map (·.type) = some 58 by kernel_rfl).symm.trans a2)).symm a3 a4
  · obtain ⟨g, t, cs, fuel, p, a1, a2, a3, a4⟩ := laid_at hl _ _ h3
    obtain rfl := Option.some.inj (gRan.symm.trans a1)
    exact err_laid (g := 0) (Option.some.inj ((show (Tryz.prog.globals[3]?).map (·.type) = some 58 by kernel_rfl).symm.trans a2)).symm a3 a4
end Go.Proofs.YtdiblmlcapommaaGreatDoor
set_option linter.unusedVariables false
set_option maxRecDepth 100000
namespace Go.Proofs.YtdiblmlcapommaaGreatDoor
open Go.RowKit
theorem gKn : Tryz.prog.globalNamed "loop.example/g01261/impl.kindNames" = some 0 := by kernel_rfl
theorem gKnT : (Tryz.prog.globals[0]?).map (·.type) = some 41 := by kernel_rfl
theorem cells4K : Tryz.prog.cellsOf 41 = 4 := by kernel_rfl
theorem cells1K : Tryz.prog.cellsOf 9 = 1 := by kernel_rfl
theorem str_of_trodK {H : Type} {enc : TypeId × Value → H} {w : World} {base : Nat} {sp : Nat → Bool} {held : Bool} {fuel : Nat} {c : Value} {y : DataW H × List MemPlace}
    (h : DataW.trod enc Tryz.prog w base sp held fuel 9 [c] = some y) : ∃ s : ByteArray, c = .string s ∧ y = (.lit (.string s.data.toList), []) := by
  obtain ⟨s, hc, hy, _⟩ := DataW.trod_string Tryz.underlying9 h
  simp only [List.cons.injEq, and_true] at hc
  exact ⟨s, hc, hy⟩
theorem kn_of {L : List (String × DataW Unit)} {W : World} (h1 : ("loop.example/g01261/impl.kindNames", Rows.laid_loop_example_g01261_impl_kindNames) ∈ L) (h : laidMet Tryz.prog L W) : Kn W := by
  obtain ⟨ps, hl, _⟩ := h
  obtain ⟨g, t, cs, fuel, p, a1, a2, a3, a4⟩ := laid_at hl _ _ h1
  obtain rfl := Option.some.inj (gKn.symm.trans a1)
  obtain rfl := Option.some.inj (gKnT.symm.trans a2)
  have hcs : cs = #[.string (kindS 0), .string (kindS 1), .string (kindS 2), .string (kindS 3)] := by
    obtain ⟨l⟩ := cs
    cases fuel with
    | zero => simp [DataW.trod] at a4
    | succ fuel =>
      simp only [DataW.trod, Tryz.underlying41, cells4K, cells1K] at a4
      split at a4
      · rename_i hlen
        obtain ⟨c0, c1, c2, c3, rfl⟩ : ∃ c0 c1 c2 c3, l = [c0, c1, c2, c3] := by
          match l, hlen with
          | [a, b, c, d], _ => exact ⟨a, b, c, d, rfl⟩
        have e : List.range 4 = [0, 1, 2, 3] := rfl
        rw [e] at a4
        simp only [Option.map_eq_some_iff, List.mapM_cons, List.mapM_nil, Option.bind_eq_bind, Option.bind_eq_some_iff, Option.pure_def, Option.some.injEq] at a4
        obtain ⟨xs, ⟨y0, h0, _, ⟨y1, h1, _, ⟨y2, h2, _, ⟨y3, h3, _, rfl, rfl⟩, rfl⟩, rfl⟩, rfl⟩, hx⟩ := a4
        obtain ⟨n0, rfl, rfl⟩ := str_of_trodK h0
        obtain ⟨n1, rfl, rfl⟩ := str_of_trodK h1
        obtain ⟨n2, rfl, rfl⟩ := str_of_trodK h2
        obtain ⟨n3, rfl, rfl⟩ := str_of_trodK h3
        simp [Rows.laid_loop_example_g01261_impl_kindNames] at hx
        obtain ⟨⟨e0, e1, e2, e3⟩, _⟩ := hx
        have f : ∀ {s : ByteArray} {l : List UInt8}, s.data.toList = l → s = ⟨l.toArray⟩ := fun {s l} h => by rw [← h, Lib.mk_data]
        rw [f e0, f e1, f e2, f e3]
        rfl
      · cases a4
  subst hcs
  have hk : ∀ j, W.cell? ⟨0, j, none⟩ = (#[Value.string (kindS 0), .string (kindS 1), .string (kindS 2), .string (kindS 3)])[j]? := fun j => World.var?_cell gKn a3 j
  have hlt := World.block_lt_of_cell? _ _ (hk 0)
  intro k hk4
  refine ⟨_, _, rfl, hlt, fun j u hu => ?_⟩
  cases j with
  | succ j => simp [encStr] at hu
  | zero =>
    simp only [encStr, List.getElem?_cons_zero, Option.some.injEq] at hu
    subst hu
    rw [kindsL_at hk4]
    have h4 : k < 4 := hk4
    rcases (by omega : k = 0 ∨ k = 1 ∨ k = 2 ∨ k = 3) with rfl | rfl | rfl | rfl
    · exact hk 0
    · exact hk 1
    · exact hk 2
    · exact hk 3
end Go.Proofs.YtdiblmlcapommaaGreatDoor
set_option linter.unusedVariables false
set_option maxRecDepth 100000
namespace Go.Proofs.YtdiblmlcapommaaGreatDoor
open Go.ChangeShapes Go.WideShapes Go.ChangeAt Go.RowKit
theorem change_and_shaped {H : Type} {enc : TypeId × Value → H} {a : Assume} {C : Checked} {os : Os} {f : FuncId} {fn : Func} {s : ChangeSpec} {conds : List PathCond} {apart fresh handsOn again : Bool} {X : World → Array Value → Prop}
    (hX : ∀ (w w' : World) (args : Array Value), w.heap = w'.heap → X w args → X w' args)
    (own : ownKnob C.prog.godebug = none) (started : os.Started) (noInit : C.prog.inits.idxOf? f = none) (hfn : C.prog.funcs[f]? = some fn)
    (witness : ∃ (w : World) (tape : Tape) (i : Input), w.os = os ∧ (w.forCall tape i).Shaped C.prog ∧ i.vars = [] ∧ Input.okWide C.prog (w.forCall tape i) .any w.heap.size f i ∧
      ((s.pre enc C.prog fn conds apart (w.forCall tape i).memory i.args ∧ X (w.forCall tape i).memory i.args) ∧ sizedMet enc C.prog fn (OpenSpec.ofChange s) apart (w.forCall tape i).memory i.args) ∧ a.holds C.prog (lone (Frame.enter C.prog f i.args .normal) [] (w.forCall tape i)))
    (contract : ∀ (W : World) (base : Nat) (args : Array Value) (ds gs : List (DataW H)) (before : List MemPlace),
      (∀ (j : Nat) t v, fn.params[j]? = some t → args[j]? = some v → Value.okWide C.prog W .any base t v) →
      DataW.Whole enc C.prog fn.params.toList s.vars apart W args.toList ds gs before →
      conds.all (PathCond.test C.prog ⟨fn.params.toList, ds, s.plain.varTypes C.prog, gs⟩) = true →
      (DataW.weightsEach C.prog (fn.params.toList ++ s.plain.varTypes C.prog) (ds ++ gs)).all (· ≤ reachBytes) = true → X W args →
      W.ShapedOpen C.prog →
      Calls C.prog f args W fun e W' => ∃ v, e = .returned v ∧ s.post enc C.prog fn apart fresh handsOn again W args v W') :
    ReturnsInHanded a C os f .any (fun w args => (s.pre enc C.prog fn conds apart w args ∧ X w args) ∧ sizedMet enc C.prog fn (OpenSpec.ofChange s) apart w args) (s.post enc C.prog fn apart fresh handsOn again) := by
  refine returnsInHanded_of_calls own started noInit witness ?_
  intro w tape i _ hsh _ hok hpre hholds
  obtain ⟨_, _, _, fn', hfn', _, _, _, _, hval⟩ := hok
  have e : fn' = fn := Option.some.inj (hfn'.symm.trans hfn)
  subst e
  obtain ⟨⟨⟨ds, gs, before, hw, hc⟩, hx⟩, hz⟩ := hpre
  have hw' := DataW.Whole.of_heap (w' := w.forCall tape i) (by rfl) hw
  refine (contract (w.forCall tape i) w.heap.size i.args ds gs before hval hw' hc (hz.weights hw) (hX _ _ _ (by rfl) hx) hsh).mono fun e W' ⟨v, he, hp⟩ => ?_
  subst he
  exact ChangeSpec.post_blind hp
theorem open_text {w : World} {r : Reach} {b0 : Nat} {v : Value} {H : Type} {enc : TypeId × Value → H} {base : Nat} {spare : Nat → Bool} {held : Bool} {d : DataW H} {p : List MemPlace}
    (hv : Value.okWide Tryz.prog w r b0 9 v) (h : DataW.Trod enc Tryz.prog w base spare held 9 v d p) : ∃ s : ByteArray, v = .string s ∧ s.size ≤ 9223372036854775807 := by
  obtain ⟨s, h1, _, _, hm⟩ := Go.ChangeMaps.open_string Tryz.underlying9 hv h
  exact ⟨s, h1, by unfold maxLen at hm; omega⟩
end Go.Proofs.YtdiblmlcapommaaGreatDoor
