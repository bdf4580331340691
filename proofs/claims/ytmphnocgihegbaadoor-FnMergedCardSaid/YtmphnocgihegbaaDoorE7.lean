/-
  Contracts of the functions that find entries and their preferred ones.
-/
import Derived.Test.YtmphnocgihegbaaDoorE6
set_option linter.unusedVariables false
set_option linter.unusedSimpArgs false
set_option maxRecDepth 100000
namespace Go.Proofs.YtmphnocgihegbaaDoor
open Go.RowKit
/-- A slice of entries, as the contracts want it. -/
structure CatArg (w : World) (A : Option Addr) (cap : Nat) (xs : List Ent) : Prop where
  rd : Rd encEnt w A xs
  cap : xs.length ≤ cap
  len : xs.length ≤ 1048576
  ok : ∀ x ∈ xs, x.nm.size ≤ 9223372036854775807
theorem CatArg.ext {w w' : World} {A : Option Addr} {cap : Nat} {xs : List Ent} (h : CatArg w A cap xs) (hb : Ext w w') : CatArg w' A cap xs := ⟨h.rd.ext hb, h.cap, h.len, h.ok⟩
theorem cat_len {xs : List Ent} (h : catB xs = true) : xs.length ≤ 40 := by
  unfold catB at h
  simp only [Bool.and_eq_true, decide_eq_true_eq] at h
  exact h.1
theorem cat_stands {xs : List Ent} (h : catB xs = true) : standsB xs = true := by
  unfold catB at h
  simp only [Bool.and_eq_true, decide_eq_true_eq] at h
  exact h.2.1
theorem cat_tops {xs : List Ent} (h : catB xs = true) : topsB xs = true := by
  unfold catB at h
  simp only [Bool.and_eq_true, decide_eq_true_eq] at h
  exact h.2.2
/-- What FindEntry returns. -/
def findF (xs : List Ent) (nm : ByteArray) : Int × Int :=
  if catB xs = true then (if fidx (fun y : Ent => y.nm.toList == nm.toList) xs < 0 then (0, 6) else (fidx (fun y : Ent => y.nm.toList == nm.toList) xs, 0)) else (0, 1)
/-- Is i a place of a list? -/
def inX (xs : List Ent) (i : Int) : Bool := decide (0 ≤ i) && decide (i < (xs.length : Int))
/-- The code of a catalogue and of places in it. -/
def atsF (xs : List Ent) (is : List Int) : Int := if catB xs = true then (if is.all (inX xs) = true then 0 else 2) else 1
/-- The preferred entry of an entry. -/
def firstF (xs : List Ent) (i : Int) : Int := if xs[i.toNat]!.see = -1 then i else xs[i.toNat]!.see
def prefF (xs : List Ent) (i : Int) : Int × Int := if atsF xs [i] = 0 then (firstF xs i, 0) else (0, atsF xs [i])
theorem atsF_one {xs : List Ent} {i : Int} (h : atsF xs [i] = 0) : catB xs = true ∧ 0 ≤ i ∧ i < xs.length := by
  unfold atsF at h
  split at h
  · split at h
    · rename_i h1 h2
      simp only [List.all_cons, List.all_nil, Bool.and_true, inX, Bool.and_eq_true, decide_eq_true_eq] at h2
      exact ⟨h1, h2⟩
    · simp at h
  · simp at h
set_option maxHeartbeats 400000 in
theorem impl_FindEntry1 (y : Ent) (nm : ByteArray) (bx : Nat) (w : World) (hx : w.cell? ⟨bx, 0, none⟩ = some (.string nm)) (hlt : bx < w.heap.size) :
    Calls Tryd.prog 66 #[.agg #[.string y.nm, .int .i64 y.see, .int .i64 y.br], .pointer (some ⟨bx, 0, none⟩)] w fun e w' => e = .returned (.bool (y.nm.toList == nm.toList)) ∧ Ext w w' := by
  cases h : (y.nm.toList == nm.toList)
  all_goals
    go_enter Tryd.func66, Tryd.ntmps66
    go_wp2
    go_ret
    exact ⟨by first | rfl | simp [h], by ((repeat (first | with_reducible exact Ext.refl _ | with_reducible exact hw | with_reducible exact hb9 | with_reducible exact hb8 | with_reducible exact hb7 | with_reducible exact hb6 | with_reducible exact hb5 | with_reducible exact hb4 | with_reducible exact hb3 | with_reducible exact hb2 | with_reducible exact hb1 | with_reducible refine Ext.alloc ?_ _ | with_reducible refine Ext.drew ?_ | ((with_reducible refine Ext.set ?_ ?_ _); focus (dsimp only; omega)) | with_reducible refine Ext.trans ?_ hb9 | with_reducible refine Ext.trans ?_ hb8 | with_reducible refine Ext.trans ?_ hb7 | with_reducible refine Ext.trans ?_ hb6 | with_reducible refine Ext.trans ?_ hb5 | with_reducible refine Ext.trans ?_ hb4 | with_reducible refine Ext.trans ?_ hb3 | with_reducible refine Ext.trans ?_ hb2 | with_reducible refine Ext.trans ?_ hb1 | with_reducible refine Ext.trans ?_ hw)))⟩
set_option maxHeartbeats 400000 in
theorem slices_IndexFunc_findName (xs : List Ent) (A : Option Addr) (n cap : Nat) (w : World) (hnx : n = xs.length) (hR : Rd encEnt w A xs) (hn : n ≤ 1048576) (nm : ByteArray) (bx : Nat) (hx : w.cell? ⟨bx, 0, none⟩ = some (.string nm)) (hbx : bx < w.heap.size) :
    Calls Tryd.prog 65 #[.slice A n cap, .func (.func 66) #[] #[.pointer (some ⟨bx, 0, none⟩)]] w fun e w' => e = .returned (.int .i64 (fidx (fun y : Ent => y.nm.toList == nm.toList) xs)) ∧ Ext w w' := by
  subst hnx
  go_enter Tryd.func65, Tryd.ntmps65
  go_wp2
  go_loopg [8] xs.length (fun g i wr => ∃ k : Nat, g = xs.length - k ∧ k ≤ xs.length ∧ i = .int .i64 k ∧ Ext w wr ∧ (xs.take k).any (fun y : Ent => y.nm.toList == nm.toList) = false)
  case atStart => exact ⟨0, by omega, by omega, rfl, Ext.refl _, by rw [List.take_zero]; rfl⟩
  case round =>
    obtain ⟨k, hg, hk, rfl, hw, hQ⟩ := hrel
    by_cases hkl : k < xs.length
    · obtain ⟨b, off, hA, hlt, _⟩ := hR k hkl
      subst hA
      obtain ⟨m0, m1, m2, m3⟩ := (hR.ext hw).ent k hkl
      have hs := any_take (fun y : Ent => y.nm.toList == nm.toList) xs k hkl
      rw [hQ, Bool.false_or] at hs
      cases hq : (fun y : Ent => y.nm.toList == nm.toList) xs[k] with
      | true =>
        have hM := fidx_hit (fun y : Ent => y.nm.toList == nm.toList) xs k hkl hq hQ
        try dsimp only at hq
        clear hs hQ
        go_wp2_with fail
        refine Calls.mono (impl_FindEntry1 xs[k] nm bx _ (hw.cell hx) (Nat.lt_of_lt_of_le hbx hw.size)) ?_
        rintro e w1 ⟨rfl, hb1⟩
        simp only [hq]
        go_wp2
        go_ret
        exact ⟨by rw [hM]; rfl, by ((repeat (first | with_reducible exact Ext.refl _ | with_reducible exact hw | with_reducible exact hb9 | with_reducible exact hb8 | with_reducible exact hb7 | with_reducible exact hb6 | with_reducible exact hb5 | with_reducible exact hb4 | with_reducible exact hb3 | with_reducible exact hb2 | with_reducible exact hb1 | with_reducible refine Ext.alloc ?_ _ | with_reducible refine Ext.drew ?_ | ((with_reducible refine Ext.set ?_ ?_ _); focus (dsimp only; omega)) | with_reducible refine Ext.trans ?_ hb9 | with_reducible refine Ext.trans ?_ hb8 | with_reducible refine Ext.trans ?_ hb7 | with_reducible refine Ext.trans ?_ hb6 | with_reducible refine Ext.trans ?_ hb5 | with_reducible refine Ext.trans ?_ hb4 | with_reducible refine Ext.trans ?_ hb3 | with_reducible refine Ext.trans ?_ hb2 | with_reducible refine Ext.trans ?_ hb1 | with_reducible refine Ext.trans ?_ hw)))⟩
      | false =>
        have hs2 := hd (hs.trans hq)
        try dsimp only at hq
        clear hs hQ
        go_wp2_with fail
        refine Calls.mono (impl_FindEntry1 xs[k] nm bx _ (hw.cell hx) (Nat.lt_of_lt_of_le hbx hw.size)) ?_
        rintro e w1 ⟨rfl, hb1⟩
        simp only [hq]
        go_wp2
        go_roundg (xs.length - (k + 1))
        case rel => exact ⟨k + 1, rfl, hkl, rfl, by ((repeat (first | with_reducible exact Ext.refl _ | with_reducible exact hw | with_reducible exact hb9 | with_reducible exact hb8 | with_reducible exact hb7 | with_reducible exact hb6 | with_reducible exact hb5 | with_reducible exact hb4 | with_reducible exact hb3 | with_reducible exact hb2 | with_reducible exact hb1 | with_reducible refine Ext.alloc ?_ _ | with_reducible refine Ext.drew ?_ | ((with_reducible refine Ext.set ?_ ?_ _); focus (dsimp only; omega)) | with_reducible refine Ext.trans ?_ hb9 | with_reducible refine Ext.trans ?_ hb8 | with_reducible refine Ext.trans ?_ hb7 | with_reducible refine Ext.trans ?_ hb6 | with_reducible refine Ext.trans ?_ hb5 | with_reducible refine Ext.trans ?_ hb4 | with_reducible refine Ext.trans ?_ hb3 | with_reducible refine Ext.trans ?_ hb2 | with_reducible refine Ext.trans ?_ hb1 | with_reducible refine Ext.trans ?_ hw))), hs2.out⟩
        case measure => omega
    · obtain rfl : k = xs.length := by omega
      rw [List.take_length] at hQ
      have hM := fidx_none (fun y : Ent => y.nm.toList == nm.toList) xs hQ
      go_wp2
      go_ret
      exact ⟨by rw [hM]; rfl, hw⟩

set_option maxHeartbeats 400000 in
theorem impl_FindEntry (xs : List Ent) (A : Option Addr) (cap : Nat) (nm : ByteArray) (w : World) (hC : CatArg w A cap xs) (hG : Glob w) :
    Calls Tryd.prog 37 #[.slice A xs.length cap, .string nm] w fun e w' => e = .returned (.tuple #[.int .i64 (findF xs nm).1, .int .i64 (findF xs nm).2]) ∧ Ext w w' := by
  cases hc : catB xs with
  | false =>
    have hv : findF xs nm = (0, 1) := by unfold findF; rw [hc]; rfl
    rw [hv]
    go_enter Tryd.func37, Tryd.ntmps37
    go_wp2_with fail
    refine Calls.mono (impl_isCatalogue xs A cap _ (hC.rd.ext (by ((repeat (first | with_reducible exact Ext.refl _ | with_reducible exact hw | with_reducible exact hb9 | with_reducible exact hb8 | with_reducible exact hb7 | with_reducible exact hb6 | with_reducible exact hb5 | with_reducible exact hb4 | with_reducible exact hb3 | with_reducible exact hb2 | with_reducible exact hb1 | with_reducible refine Ext.alloc ?_ _ | with_reducible refine Ext.drew ?_ | ((with_reducible refine Ext.set ?_ ?_ _); focus (dsimp only; omega)) | with_reducible refine Ext.trans ?_ hb9 | with_reducible refine Ext.trans ?_ hb8 | with_reducible refine Ext.trans ?_ hb7 | with_reducible refine Ext.trans ?_ hb6 | with_reducible refine Ext.trans ?_ hb5 | with_reducible refine Ext.trans ?_ hb4 | with_reducible refine Ext.trans ?_ hb3 | with_reducible refine Ext.trans ?_ hb2 | with_reducible refine Ext.trans ?_ hb1 | with_reducible refine Ext.trans ?_ hw))))) hC.cap hC.ok (hG.ext (by ((repeat (first | with_reducible exact Ext.refl _ | with_reducible exact hw | with_reducible exact hb9 | with_reducible exact hb8 | with_reducible exact hb7 | with_reducible exact hb6 | with_reducible exact hb5 | with_reducible exact hb4 | with_reducible exact hb3 | with_reducible exact hb2 | with_reducible exact hb1 | with_reducible refine Ext.alloc ?_ _ | with_reducible refine Ext.drew ?_ | ((with_reducible refine Ext.set ?_ ?_ _); focus (dsimp only; omega)) | with_reducible refine Ext.trans ?_ hb9 | with_reducible refine Ext.trans ?_ hb8 | with_reducible refine Ext.trans ?_ hb7 | with_reducible refine Ext.trans ?_ hb6 | with_reducible refine Ext.trans ?_ hb5 | with_reducible refine Ext.trans ?_ hb4 | with_reducible refine Ext.trans ?_ hb3 | with_reducible refine Ext.trans ?_ hb2 | with_reducible refine Ext.trans ?_ hb1 | with_reducible refine Ext.trans ?_ hw)))))) ?_
    rintro e w1 ⟨rfl, hb1⟩
    simp only [hc]
    go_wp2
    refine bodyPost_ret (v := .tuple #[.int .i64 0, .int .i64 1]) (by simp [results, Tryd.results37, go_sem]) rfl ⟨rfl, ?_⟩
    (repeat (first | with_reducible exact Ext.refl _ | with_reducible exact hw | with_reducible exact hb9 | with_reducible exact hb8 | with_reducible exact hb7 | with_reducible exact hb6 | with_reducible exact hb5 | with_reducible exact hb4 | with_reducible exact hb3 | with_reducible exact hb2 | with_reducible exact hb1 | with_reducible refine Ext.alloc ?_ _ | with_reducible refine Ext.drew ?_ | ((with_reducible refine Ext.set ?_ ?_ _); focus (dsimp only; omega)) | with_reducible refine Ext.trans ?_ hb9 | with_reducible refine Ext.trans ?_ hb8 | with_reducible refine Ext.trans ?_ hb7 | with_reducible refine Ext.trans ?_ hb6 | with_reducible refine Ext.trans ?_ hb5 | with_reducible refine Ext.trans ?_ hb4 | with_reducible refine Ext.trans ?_ hb3 | with_reducible refine Ext.trans ?_ hb2 | with_reducible refine Ext.trans ?_ hb1 | with_reducible refine Ext.trans ?_ hw))
  | true =>
    have hv := hd (show findF xs nm = (if fidx (fun y : Ent => y.nm.toList == nm.toList) xs < 0 then (0, 6) else (fidx (fun y : Ent => y.nm.toList == nm.toList) xs, 0)) by unfold findF; rw [hc]; rfl)
    go_enter Tryd.func37, Tryd.ntmps37
    go_wp2_with fail
    refine Calls.mono (impl_isCatalogue xs A cap _ (hC.rd.ext (by ((repeat (first | with_reducible exact Ext.refl _ | with_reducible exact hw | with_reducible exact hb9 | with_reducible exact hb8 | with_reducible exact hb7 | with_reducible exact hb6 | with_reducible exact hb5 | with_reducible exact hb4 | with_reducible exact hb3 | with_reducible exact hb2 | with_reducible exact hb1 | with_reducible refine Ext.alloc ?_ _ | with_reducible refine Ext.drew ?_ | ((with_reducible refine Ext.set ?_ ?_ _); focus (dsimp only; omega)) | with_reducible refine Ext.trans ?_ hb9 | with_reducible refine Ext.trans ?_ hb8 | with_reducible refine Ext.trans ?_ hb7 | with_reducible refine Ext.trans ?_ hb6 | with_reducible refine Ext.trans ?_ hb5 | with_reducible refine Ext.trans ?_ hb4 | with_reducible refine Ext.trans ?_ hb3 | with_reducible refine Ext.trans ?_ hb2 | with_reducible refine Ext.trans ?_ hb1 | with_reducible refine Ext.trans ?_ hw))))) hC.cap hC.ok (hG.ext (by ((repeat (first | with_reducible exact Ext.refl _ | with_reducible exact hw | with_reducible exact hb9 | with_reducible exact hb8 | with_reducible exact hb7 | with_reducible exact hb6 | with_reducible exact hb5 | with_reducible exact hb4 | with_reducible exact hb3 | with_reducible exact hb2 | with_reducible exact hb1 | with_reducible refine Ext.alloc ?_ _ | with_reducible refine Ext.drew ?_ | ((with_reducible refine Ext.set ?_ ?_ _); focus (dsimp only; omega)) | with_reducible refine Ext.trans ?_ hb9 | with_reducible refine Ext.trans ?_ hb8 | with_reducible refine Ext.trans ?_ hb7 | with_reducible refine Ext.trans ?_ hb6 | with_reducible refine Ext.trans ?_ hb5 | with_reducible refine Ext.trans ?_ hb4 | with_reducible refine Ext.trans ?_ hb3 | with_reducible refine Ext.trans ?_ hb2 | with_reducible refine Ext.trans ?_ hb1 | with_reducible refine Ext.trans ?_ hw)))))) ?_
    rintro e w1 ⟨rfl, hb1⟩
    simp only [hc]
    have x0 : w1.cell? ⟨w.heap.size, 0, none⟩ = some (.string nm) := hb1.cell (by go_simp)
    have xl : w.heap.size < w1.heap.size := Nat.lt_of_lt_of_le (by simp) hb1.size
    have hw1 : Ext w w1 := by ((repeat (first | with_reducible exact Ext.refl _ | with_reducible exact hw | with_reducible exact hb9 | with_reducible exact hb8 | with_reducible exact hb7 | with_reducible exact hb6 | with_reducible exact hb5 | with_reducible exact hb4 | with_reducible exact hb3 | with_reducible exact hb2 | with_reducible exact hb1 | with_reducible refine Ext.alloc ?_ _ | with_reducible refine Ext.drew ?_ | ((with_reducible refine Ext.set ?_ ?_ _); focus (dsimp only; omega)) | with_reducible refine Ext.trans ?_ hb9 | with_reducible refine Ext.trans ?_ hb8 | with_reducible refine Ext.trans ?_ hb7 | with_reducible refine Ext.trans ?_ hb6 | with_reducible refine Ext.trans ?_ hb5 | with_reducible refine Ext.trans ?_ hb4 | with_reducible refine Ext.trans ?_ hb3 | with_reducible refine Ext.trans ?_ hb2 | with_reducible refine Ext.trans ?_ hb1 | with_reducible refine Ext.trans ?_ hw)))
    go_wp2_with fail
    refine Calls.mono (slices_IndexFunc_findName xs A _ cap _ rfl (hC.rd.ext hw1) hC.len nm w.heap.size x0 xl) ?_
    rintro e w2 ⟨rfl, hb2⟩
    clear hb1
    have hb1 := hw1
    clear hw1 x0 xl hc
    by_cases hr : fidx (fun y : Ent => y.nm.toList == nm.toList) xs < 0
    · generalize hfx : fidx (fun y : Ent => y.nm.toList == nm.toList) xs = r at hr
      have hfx2 := hd hfx
      clear hfx
      go_wp2
      refine bodyPost_ret (v := .tuple #[.int .i64 0, .int .i64 6]) (by simp [results, Tryd.results37, go_sem]) rfl ⟨by rw [hv.out, hfx2.out, if_pos hr], ?_⟩
      (repeat (first | with_reducible exact Ext.refl _ | with_reducible exact hw | with_reducible exact hb9 | with_reducible exact hb8 | with_reducible exact hb7 | with_reducible exact hb6 | with_reducible exact hb5 | with_reducible exact hb4 | with_reducible exact hb3 | with_reducible exact hb2 | with_reducible exact hb1 | with_reducible refine Ext.alloc ?_ _ | with_reducible refine Ext.drew ?_ | ((with_reducible refine Ext.set ?_ ?_ _); focus (dsimp only; omega)) | with_reducible refine Ext.trans ?_ hb9 | with_reducible refine Ext.trans ?_ hb8 | with_reducible refine Ext.trans ?_ hb7 | with_reducible refine Ext.trans ?_ hb6 | with_reducible refine Ext.trans ?_ hb5 | with_reducible refine Ext.trans ?_ hb4 | with_reducible refine Ext.trans ?_ hb3 | with_reducible refine Ext.trans ?_ hb2 | with_reducible refine Ext.trans ?_ hb1 | with_reducible refine Ext.trans ?_ hw))
    · generalize hfx : fidx (fun y : Ent => y.nm.toList == nm.toList) xs = r at hr
      have hfx2 := hd hfx
      clear hfx
      go_wp2
      refine bodyPost_ret (v := .tuple #[.int .i64 r, .int .i64 0]) (by simp [results, Tryd.results37, go_sem]) rfl ⟨by rw [hv.out, hfx2.out, if_neg (by omega)], ?_⟩
      (repeat (first | with_reducible exact Ext.refl _ | with_reducible exact hw | with_reducible exact hb9 | with_reducible exact hb8 | with_reducible exact hb7 | with_reducible exact hb6 | with_reducible exact hb5 | with_reducible exact hb4 | with_reducible exact hb3 | with_reducible exact hb2 | with_reducible exact hb1 | with_reducible refine Ext.alloc ?_ _ | with_reducible refine Ext.drew ?_ | ((with_reducible refine Ext.set ?_ ?_ _); focus (dsimp only; omega)) | with_reducible refine Ext.trans ?_ hb9 | with_reducible refine Ext.trans ?_ hb8 | with_reducible refine Ext.trans ?_ hb7 | with_reducible refine Ext.trans ?_ hb6 | with_reducible refine Ext.trans ?_ hb5 | with_reducible refine Ext.trans ?_ hb4 | with_reducible refine Ext.trans ?_ hb3 | with_reducible refine Ext.trans ?_ hb2 | with_reducible refine Ext.trans ?_ hb1 | with_reducible refine Ext.trans ?_ hw))
set_option maxHeartbeats 400000 in
theorem impl_preferred (xs : List Ent) (A : Option Addr) (cap : Nat) (i : Int) (w : World) (hR : Rd encEnt w A xs) (h0 : 0 ≤ i) (h1 : i < xs.length) (hn : xs.length ≤ 1048576) :
    Calls Tryd.prog 59 #[.slice A xs.length cap, .int .i64 i] w fun e w' => e = .returned (.int .i64 (firstF xs i)) ∧ Ext w w' := by
  obtain ⟨n, rfl⟩ : ∃ n : Nat, i = n := ⟨i.toNat, by omega⟩
  have hnl : n < xs.length := by omega
  obtain ⟨b, off, hA, hlt, _⟩ := hR n hnl
  subst hA
  obtain ⟨n0, n1, n2, n3⟩ := hR.ent n hnl
  have hv : firstF xs n = if xs[n].see = -1 then (n : Int) else xs[n].see := by unfold firstF; rw [Int.toNat_natCast, getBang xs n hnl]
  rw [hv]
  clear hv
  by_cases q : xs[n].see = -1
  · rw [if_pos q]
    have b1 : (xs[n].see != -1) = false := by simp [q]
    go_enter Tryd.func59, Tryd.ntmps59
    go_wp2
    go_ret
    exact ⟨rfl, by ((repeat (first | with_reducible exact Ext.refl _ | with_reducible exact hw | with_reducible exact hb9 | with_reducible exact hb8 | with_reducible exact hb7 | with_reducible exact hb6 | with_reducible exact hb5 | with_reducible exact hb4 | with_reducible exact hb3 | with_reducible exact hb2 | with_reducible exact hb1 | with_reducible refine Ext.alloc ?_ _ | with_reducible refine Ext.drew ?_ | ((with_reducible refine Ext.set ?_ ?_ _); focus (dsimp only; omega)) | with_reducible refine Ext.trans ?_ hb9 | with_reducible refine Ext.trans ?_ hb8 | with_reducible refine Ext.trans ?_ hb7 | with_reducible refine Ext.trans ?_ hb6 | with_reducible refine Ext.trans ?_ hb5 | with_reducible refine Ext.trans ?_ hb4 | with_reducible refine Ext.trans ?_ hb3 | with_reducible refine Ext.trans ?_ hb2 | with_reducible refine Ext.trans ?_ hb1 | with_reducible refine Ext.trans ?_ hw)))⟩
  · rw [if_neg q]
    have b1 : (xs[n].see != -1) = true := by simp [q]
    go_enter Tryd.func59, Tryd.ntmps59
    go_wp2
    go_ret
    exact ⟨rfl, by ((repeat (first | with_reducible exact Ext.refl _ | with_reducible exact hw | with_reducible exact hb9 | with_reducible exact hb8 | with_reducible exact hb7 | with_reducible exact hb6 | with_reducible exact hb5 | with_reducible exact hb4 | with_reducible exact hb3 | with_reducible exact hb2 | with_reducible exact hb1 | with_reducible refine Ext.alloc ?_ _ | with_reducible refine Ext.drew ?_ | ((with_reducible refine Ext.set ?_ ?_ _); focus (dsimp only; omega)) | with_reducible refine Ext.trans ?_ hb9 | with_reducible refine Ext.trans ?_ hb8 | with_reducible refine Ext.trans ?_ hb7 | with_reducible refine Ext.trans ?_ hb6 | with_reducible refine Ext.trans ?_ hb5 | with_reducible refine Ext.trans ?_ hb4 | with_reducible refine Ext.trans ?_ hb3 | with_reducible refine Ext.trans ?_ hb2 | with_reducible refine Ext.trans ?_ hb1 | with_reducible refine Ext.trans ?_ hw)))⟩
set_option maxHeartbeats 400000 in
theorem spec_l05First (xs : List Ent) (A : Option Addr) (cap : Nat) (i : Int) (w : World) (hR : Rd encEnt w A xs) (h0 : 0 ≤ i) (h1 : i < xs.length) (hn : xs.length ≤ 1048576) :
    Calls Tryd.prog 55 #[.slice A xs.length cap, .int .i64 i] w fun e w' => e = .returned (.int .i64 (firstF xs i)) ∧ Ext w w' := by
  obtain ⟨n, rfl⟩ : ∃ n : Nat, i = n := ⟨i.toNat, by omega⟩
  have hnl : n < xs.length := by omega
  obtain ⟨b, off, hA, hlt, _⟩ := hR n hnl
  subst hA
  obtain ⟨n0, n1, n2, n3⟩ := hR.ent n hnl
  have hv : firstF xs n = if xs[n].see = -1 then (n : Int) else xs[n].see := by unfold firstF; rw [Int.toNat_natCast, getBang xs n hnl]
  rw [hv]
  clear hv
  by_cases q : xs[n].see = -1
  · rw [if_pos q]
    have b1 : (xs[n].see != -1) = false := by simp [q]
    go_enter Tryd.func55, Tryd.ntmps55
    go_wp2
    go_ret
    exact ⟨rfl, by ((repeat (first | with_reducible exact Ext.refl _ | with_reducible exact hw | with_reducible exact hb9 | with_reducible exact hb8 | with_reducible exact hb7 | with_reducible exact hb6 | with_reducible exact hb5 | with_reducible exact hb4 | with_reducible exact hb3 | with_reducible exact hb2 | with_reducible exact hb1 | with_reducible refine Ext.alloc ?_ _ | with_reducible refine Ext.drew ?_ | ((with_reducible refine Ext.set ?_ ?_ _); focus (dsimp only; omega)) | with_reducible refine Ext.trans ?_ hb9 | with_reducible refine Ext.trans ?_ hb8 | with_reducible refine Ext.trans ?_ hb7 | with_reducible refine Ext.trans ?_ hb6 | with_reducible refine Ext.trans ?_ hb5 | with_reducible refine Ext.trans ?_ hb4 | with_reducible refine Ext.trans ?_ hb3 | with_reducible refine Ext.trans ?_ hb2 | with_reducible refine Ext.trans ?_ hb1 | with_reducible refine Ext.trans ?_ hw)))⟩
  · rw [if_neg q]
    have b1 : (xs[n].see != -1) = true := by simp [q]
    go_enter Tryd.func55, Tryd.ntmps55
    go_wp2
    go_ret
    exact ⟨rfl, by ((repeat (first | with_reducible exact Ext.refl _ | with_reducible exact hw | with_reducible exact hb9 | with_reducible exact hb8 | with_reducible exact hb7 | with_reducible exact hb6 | with_reducible exact hb5 | with_reducible exact hb4 | with_reducible exact hb3 | with_reducible exact hb2 | with_reducible exact hb1 | with_reducible refine Ext.alloc ?_ _ | with_reducible refine Ext.drew ?_ | ((with_reducible refine Ext.set ?_ ?_ _); focus (dsimp only; omega)) | with_reducible refine Ext.trans ?_ hb9 | with_reducible refine Ext.trans ?_ hb8 | with_reducible refine Ext.trans ?_ hb7 | with_reducible refine Ext.trans ?_ hb6 | with_reducible refine Ext.trans ?_ hb5 | with_reducible refine Ext.trans ?_ hb4 | with_reducible refine Ext.trans ?_ hb3 | with_reducible refine Ext.trans ?_ hb2 | with_reducible refine Ext.trans ?_ hb1 | with_reducible refine Ext.trans ?_ hw)))⟩
set_option maxHeartbeats 400000 in
theorem impl_checkEntries (xs : List Ent) (A : Option Addr) (cap : Nat) (is : List Int) (B : Option Addr) (cap' : Nat) (w : World) (hC : CatArg w A cap xs) (hI : Rd encI64 w B is) (hni : is.length ≤ 1048576) (hG : Glob w) :
    Calls Tryd.prog 42 #[.slice A xs.length cap, .slice B is.length cap'] w fun e w' => e = .returned (.int .i64 (atsF xs is)) ∧ Ext w w' := by
  cases hc : catB xs with
  | false =>
    have hv : atsF xs is = 1 := by unfold atsF; rw [hc]; rfl
    rw [hv]
    go_enter Tryd.func42, Tryd.ntmps42
    go_wp2_with fail
    refine Calls.mono (impl_isCatalogue xs A cap _ hC.rd hC.cap hC.ok hG) ?_
    rintro e w1 ⟨rfl, hb1⟩
    simp only [hc]
    go_wp2
    go_ret
    exact ⟨rfl, by ((repeat (first | with_reducible exact Ext.refl _ | with_reducible exact hw | with_reducible exact hb9 | with_reducible exact hb8 | with_reducible exact hb7 | with_reducible exact hb6 | with_reducible exact hb5 | with_reducible exact hb4 | with_reducible exact hb3 | with_reducible exact hb2 | with_reducible exact hb1 | with_reducible refine Ext.alloc ?_ _ | with_reducible refine Ext.drew ?_ | ((with_reducible refine Ext.set ?_ ?_ _); focus (dsimp only; omega)) | with_reducible refine Ext.trans ?_ hb9 | with_reducible refine Ext.trans ?_ hb8 | with_reducible refine Ext.trans ?_ hb7 | with_reducible refine Ext.trans ?_ hb6 | with_reducible refine Ext.trans ?_ hb5 | with_reducible refine Ext.trans ?_ hb4 | with_reducible refine Ext.trans ?_ hb3 | with_reducible refine Ext.trans ?_ hb2 | with_reducible refine Ext.trans ?_ hb1 | with_reducible refine Ext.trans ?_ hw)))⟩
  | true =>
    have hv := hd (show atsF xs is = (if is.all (inX xs) = true then 0 else 2) by unfold atsF; rw [hc]; rfl)
    have hlen := cat_len hc
    go_enter Tryd.func42, Tryd.ntmps42
    go_wp2_with fail
    refine Calls.mono (impl_isCatalogue xs A cap _ hC.rd hC.cap hC.ok hG) ?_
    rintro e w1 ⟨rfl, hb1⟩
    simp only [hc]
    go_wp2
    go_loopg [12] is.length (fun g i wr => ∃ k : Nat, g = is.length - k ∧ k ≤ is.length ∧ i = .int .i64 k ∧ Ext w wr ∧ (is.take k).all (inX xs) = true)
    case atStart => exact ⟨0, by omega, by omega, rfl, by ((repeat (first | with_reducible exact Ext.refl _ | with_reducible exact hw | with_reducible exact hb9 | with_reducible exact hb8 | with_reducible exact hb7 | with_reducible exact hb6 | with_reducible exact hb5 | with_reducible exact hb4 | with_reducible exact hb3 | with_reducible exact hb2 | with_reducible exact hb1 | with_reducible refine Ext.alloc ?_ _ | with_reducible refine Ext.drew ?_ | ((with_reducible refine Ext.set ?_ ?_ _); focus (dsimp only; omega)) | with_reducible refine Ext.trans ?_ hb9 | with_reducible refine Ext.trans ?_ hb8 | with_reducible refine Ext.trans ?_ hb7 | with_reducible refine Ext.trans ?_ hb6 | with_reducible refine Ext.trans ?_ hb5 | with_reducible refine Ext.trans ?_ hb4 | with_reducible refine Ext.trans ?_ hb3 | with_reducible refine Ext.trans ?_ hb2 | with_reducible refine Ext.trans ?_ hb1 | with_reducible refine Ext.trans ?_ hw))), by rw [List.take_zero]; rfl⟩
    case round =>
      obtain ⟨k, hg, hk, rfl, hw, hQ⟩ := hrel
      by_cases hkl : k < is.length
      · obtain ⟨b, off, hA, hlt, _⟩ := hI k hkl
        subst hA
        have m0 := (hI.ext hw).i64 k hkl
        have hT := all_take (inX xs) is k hkl
        rw [hQ, Bool.true_and] at hT
        have hmiss : ¬ (0 ≤ is[k] ∧ is[k] < xs.length) → is.all (inX xs) = false := fun h => all_miss _ is k hkl (by
          simp only [inX, Bool.and_eq_false_iff, decide_eq_false_iff_not]
          omega)
        by_cases q : 0 ≤ is[k] ∧ is[k] < xs.length
        · have hT2 := hd (hT.trans (show inX xs is[k] = true by simp [inX, q.1, q.2]))
          obtain ⟨q1, q2⟩ := q
          clear hT hQ hmiss
          go_wp2
          go_roundg (is.length - (k + 1))
          case rel => exact ⟨k + 1, rfl, hkl, rfl, hw, hT2.out⟩
          case measure => omega
        · have hm2 := hd (hmiss q)
          clear hT hQ hmiss
          by_cases q1 : is[k] < 0
          · go_wp2
            go_ret
            exact ⟨by rw [hv.out, hm2.out]; rfl, hw⟩
          · have q2 : (xs.length : Int) ≤ is[k] := by omega
            go_wp2
            go_ret
            exact ⟨by rw [hv.out, hm2.out]; rfl, hw⟩
      · obtain rfl : k = is.length := by omega
        rw [List.take_length] at hQ
        have hQ2 := hd hQ
        clear hQ
        go_wp2
        go_ret
        exact ⟨by rw [hv.out, hQ2.out]; rfl, hw⟩
set_option maxHeartbeats 400000 in
theorem spec_l05At (xs : List Ent) (A : Option Addr) (cap : Nat) (i : Int) (w : World) (hC : CatArg w A cap xs) :
    Calls Tryd.prog 39 #[.slice A xs.length cap, .int .i64 i] w fun e w' => e = .returned (.int .i64 (atsF xs [i])) ∧ Ext w w' := by
  have hlen := hC.len
  cases hc : catB xs with
  | false =>
    have hv : atsF xs [i] = 1 := by unfold atsF; rw [hc]; rfl
    rw [hv]
    go_enter Tryd.func39, Tryd.ntmps39
    go_wp2_with fail
    refine Calls.mono (spec_l05Ok xs A cap _ hC.rd hC.ok hC.len) ?_
    rintro e w1 ⟨rfl, hb1⟩
    simp only [hc]
    go_wp2
    go_ret
    exact ⟨rfl, by ((repeat (first | with_reducible exact Ext.refl _ | with_reducible exact hw | with_reducible exact hb9 | with_reducible exact hb8 | with_reducible exact hb7 | with_reducible exact hb6 | with_reducible exact hb5 | with_reducible exact hb4 | with_reducible exact hb3 | with_reducible exact hb2 | with_reducible exact hb1 | with_reducible refine Ext.alloc ?_ _ | with_reducible refine Ext.drew ?_ | ((with_reducible refine Ext.set ?_ ?_ _); focus (dsimp only; omega)) | with_reducible refine Ext.trans ?_ hb9 | with_reducible refine Ext.trans ?_ hb8 | with_reducible refine Ext.trans ?_ hb7 | with_reducible refine Ext.trans ?_ hb6 | with_reducible refine Ext.trans ?_ hb5 | with_reducible refine Ext.trans ?_ hb4 | with_reducible refine Ext.trans ?_ hb3 | with_reducible refine Ext.trans ?_ hb2 | with_reducible refine Ext.trans ?_ hb1 | with_reducible refine Ext.trans ?_ hw)))⟩
  | true =>
    have hv := hd <| show atsF xs [i] = (if inB i 0 ((xs.length : Int) - 1) = true then 0 else 2) from by
      unfold atsF
      rw [if_pos hc, show ([i].all (inX xs)) = inB i 0 ((xs.length : Int) - 1) from by
        simp only [List.all_cons, List.all_nil, Bool.and_true, inB, inX]
        congr 1
        rw [decide_eq_decide]
        omega]
    go_enter Tryd.func39, Tryd.ntmps39
    go_wp2_with fail
    refine Calls.mono (spec_l05Ok xs A cap _ hC.rd hC.ok hC.len) ?_
    rintro e w1 ⟨rfl, hb1⟩
    simp only [hc]
    go_wp2_with fail
    refine Calls.mono (spec_l00In _ _ _ _) ?_
    rintro e w2 ⟨rfl, hb2⟩
    cases hq : inB i 0 ((xs.length : Int) - 1)
    all_goals
      rw [hq] at hv
      go_wp2
      go_ret
      exact ⟨by rw [hv.out]; rfl, hb1.trans hb2⟩
