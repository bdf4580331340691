/-
  Contracts of the functions that ask whether a list of entries is a valid catalogue: the parts.
-/
import Derived.Test.YtmphnocgihegbaaDoorE4
import Derived.Test.YtmphnocgihegbaaDoorO2
import Derived.Test.YtmphnocgihegbaaDoorL7
set_option linter.unusedVariables false
set_option linter.unusedSimpArgs false
set_option maxRecDepth 100000
namespace Go.Proofs.YtmphnocgihegbaaDoor
open Go.RowKit
theorem Rd.lit2 {W : World} {a b : Int} {t : TypeId} : Rd encI64 (W.alloc (.cells #[.int .i64 a, .int .i64 b] t)) (some ⟨W.heap.size, 0, none⟩) [a, b] := Rd.lit encI64 W [a, b] _ t (by simp) rfl
/-- The first n entries stand well. -/
def standsTo (xs : List Ent) (n : Nat) : Bool := (List.range n).all (standB xs)
theorem standsTo_succ (xs : List Ent) (n : Nat) : standsTo xs (n + 1) = (standsTo xs n && standB xs n) := by
  unfold standsTo
  rw [List.range_succ, List.all_append]
  simp
theorem stands_miss {xs : List Ent} (i : Nat) (hi : i < xs.length) (h : standB xs i = false) : standsB xs = false := by
  unfold standsB
  rw [List.all_eq_false]
  exact ⟨i, List.mem_range.2 hi, by simp [h]⟩
/-- The ways up from the first n entries end. -/
def topsTo (xs : List Ent) (n : Nat) : Bool := (List.range n).all fun i => decide (climb xs xs.length i < 0)
theorem topsTo_succ (xs : List Ent) (n : Nat) (h : topsTo xs n = true) (h2 : climb xs xs.length n < 0) : topsTo xs (n + 1) = true := by
  unfold topsTo at *
  rw [List.range_succ, List.all_append, h]
  simp [h2]
theorem tops_miss {xs : List Ent} (i : Nat) (hi : i < xs.length) (h : 0 ≤ climb xs xs.length i) : topsB xs = false := by
  unfold topsB
  rw [List.all_eq_false]
  exact ⟨i, List.mem_range.2 hi, by simp; omega⟩
set_option maxHeartbeats 400000 in
theorem impl_isCatalogue1 (y : Ent) (nm : ByteArray) (bx : Nat) (w : World) (hx : w.cell? ⟨bx, 0, none⟩ = some (.string nm)) (hlt : bx < w.heap.size) :
    Calls Tryd.prog 75 #[.agg #[.string y.nm, .int .i64 y.see, .int .i64 y.br], .pointer (some ⟨bx, 0, none⟩)] w fun e w' => e = .returned (.bool (y.nm.toList == nm.toList)) ∧ Ext w w' := by
  cases h : (y.nm.toList == nm.toList)
  all_goals
    go_enter Tryd.func75, Tryd.ntmps75
    go_wp2
    go_ret
    exact ⟨by first | rfl | simp [h], by ((repeat (first | with_reducible exact Ext.refl _ | with_reducible exact hw | with_reducible exact hb9 | with_reducible exact hb8 | with_reducible exact hb7 | with_reducible exact hb6 | with_reducible exact hb5 | with_reducible exact hb4 | with_reducible exact hb3 | with_reducible exact hb2 | with_reducible exact hb1 | with_reducible refine Ext.alloc ?_ _ | with_reducible refine Ext.drew ?_ | ((with_reducible refine Ext.set ?_ ?_ _); focus (dsimp only; omega)) | with_reducible refine Ext.trans ?_ hb9 | with_reducible refine Ext.trans ?_ hb8 | with_reducible refine Ext.trans ?_ hb7 | with_reducible refine Ext.trans ?_ hb6 | with_reducible refine Ext.trans ?_ hb5 | with_reducible refine Ext.trans ?_ hb4 | with_reducible refine Ext.trans ?_ hb3 | with_reducible refine Ext.trans ?_ hb2 | with_reducible refine Ext.trans ?_ hb1 | with_reducible refine Ext.trans ?_ hw)))⟩
set_option maxHeartbeats 400000 in
theorem slices_IndexFunc_sameName (xs : List Ent) (A : Option Addr) (n cap : Nat) (w : World) (hnx : n = xs.length) (hR : Rd encEnt w A xs) (hn : n ≤ 1048576) (nm : ByteArray) (bx : Nat) (hx : w.cell? ⟨bx, 0, none⟩ = some (.string nm)) (hbx : bx < w.heap.size) :
    Calls Tryd.prog 65 #[.slice A n cap, .func (.func 75) #[] #[.pointer (some ⟨bx, 0, none⟩)]] w fun e w' => e = .returned (.int .i64 (fidx (fun y : Ent => y.nm.toList == nm.toList) xs)) ∧ Ext w w' := by
  subst hnx
  go_enter Tryd.func65, Tryd.ntmps65
  go_wp2
  go_loopg [8] xs.length (fun g i wr => ∃ k : Nat, g = xs.length - k ∧ k ≤ xs.length ∧ i = .int .i64 k ∧ Ext w wr ∧ (xs.take k).any (fun y : Ent => y.nm.toList == nm.toList) = false)
  case atStart => exact ⟨0, by omega, by omega, rfl, Ext.refl _, by rw [List.take_zero]; rfl⟩
  case round =>
    obtain ⟨k, hg, hk, rfl, hw, hQ⟩ := hrel
    by_cases hkl : k < xs.length
    · obtain ⟨b, off, hA, hlt, _⟩ := hR k hkl
      subst hA
      obtain ⟨m0, m1, m2, m3⟩ := (hR.ext hw).ent k hkl
      have hs := any_take (fun y : Ent => y.nm.toList == nm.toList) xs k hkl
      rw [hQ, Bool.false_or] at hs
      cases hq : (fun y : Ent => y.nm.toList == nm.toList) xs[k] with
      | true =>
        have hM := fidx_hit (fun y : Ent => y.nm.toList == nm.toList) xs k hkl hq hQ
        try dsimp only at hq
        clear hs hQ
        go_wp2_with fail
        refine Calls.mono (impl_isCatalogue1 xs[k] nm bx _ (hw.cell hx) (Nat.lt_of_lt_of_le hbx hw.size)) ?_
        rintro e w1 ⟨rfl, hb1⟩
        simp only [hq]
        go_wp2
        go_ret
        exact ⟨by rw [hM]; rfl, by ((repeat (first | with_reducible exact Ext.refl _ | with_reducible exact hw | with_reducible exact hb9 | with_reducible exact hb8 | with_reducible exact hb7 | with_reducible exact hb6 | with_reducible exact hb5 | with_reducible exact hb4 | with_reducible exact hb3 | with_reducible exact hb2 | with_reducible exact hb1 | with_reducible refine Ext.alloc ?_ _ | with_reducible refine Ext.drew ?_ | ((with_reducible refine Ext.set ?_ ?_ _); focus (dsimp only; omega)) | with_reducible refine Ext.trans ?_ hb9 | with_reducible refine Ext.trans ?_ hb8 | with_reducible refine Ext.trans ?_ hb7 | with_reducible refine Ext.trans ?_ hb6 | with_reducible refine Ext.trans ?_ hb5 | with_reducible refine Ext.trans ?_ hb4 | with_reducible refine Ext.trans ?_ hb3 | with_reducible refine Ext.trans ?_ hb2 | with_reducible refine Ext.trans ?_ hb1 | with_reducible refine Ext.trans ?_ hw)))⟩
      | false =>
        have hs2 := hd (hs.trans hq)
        try dsimp only at hq
        clear hs hQ
        go_wp2_with fail
        refine Calls.mono (impl_isCatalogue1 xs[k] nm bx _ (hw.cell hx) (Nat.lt_of_lt_of_le hbx hw.size)) ?_
        rintro e w1 ⟨rfl, hb1⟩
        simp only [hq]
        go_wp2
        go_roundg (xs.length - (k + 1))
        case rel => exact ⟨k + 1, rfl, hkl, rfl, by ((repeat (first | with_reducible exact Ext.refl _ | with_reducible exact hw | with_reducible exact hb9 | with_reducible exact hb8 | with_reducible exact hb7 | with_reducible exact hb6 | with_reducible exact hb5 | with_reducible exact hb4 | with_reducible exact hb3 | with_reducible exact hb2 | with_reducible exact hb1 | with_reducible refine Ext.alloc ?_ _ | with_reducible refine Ext.drew ?_ | ((with_reducible refine Ext.set ?_ ?_ _); focus (dsimp only; omega)) | with_reducible refine Ext.trans ?_ hb9 | with_reducible refine Ext.trans ?_ hb8 | with_reducible refine Ext.trans ?_ hb7 | with_reducible refine Ext.trans ?_ hb6 | with_reducible refine Ext.trans ?_ hb5 | with_reducible refine Ext.trans ?_ hb4 | with_reducible refine Ext.trans ?_ hb3 | with_reducible refine Ext.trans ?_ hb2 | with_reducible refine Ext.trans ?_ hb1 | with_reducible refine Ext.trans ?_ hw))), hs2.out⟩
        case measure => omega
    · obtain rfl : k = xs.length := by omega
      rw [List.take_length] at hQ
      have hM := fidx_none (fun y : Ent => y.nm.toList == nm.toList) xs hQ
      go_wp2
      go_ret
      exact ⟨by rw [hM]; rfl, hw⟩

def hasNm (xs : List Ent) (nm : ByteArray) : Bool := xs.any fun y => y.nm.toList == nm.toList
theorem hasNm_fidx (xs : List Ent) (nm : ByteArray) : hasNm xs nm = decide (fidx (fun y : Ent => y.nm.toList == nm.toList) xs ≥ 0) := by
  rw [Bool.eq_iff_iff, decide_eq_true_iff]
  exact (fidx_ge _ xs).symm
set_option maxHeartbeats 400000 in
theorem slices_ContainsFunc_sameName (xs : List Ent) (A : Option Addr) (n cap : Nat) (w : World) (hnx : n = xs.length) (hR : Rd encEnt w A xs) (hn : n ≤ 1048576) (nm : ByteArray) (bx : Nat) (hx : w.cell? ⟨bx, 0, none⟩ = some (.string nm)) (hbx : bx < w.heap.size) :
    Calls Tryd.prog 74 #[.slice A n cap, .func (.func 75) #[] #[.pointer (some ⟨bx, 0, none⟩)]] w fun e w' => e = .returned (.bool (hasNm xs nm)) ∧ Ext w w' := by
  subst hnx
  have hI := slices_IndexFunc_sameName xs A _ cap w rfl hR hn nm bx hx hbx
  have hm := hasNm_fidx xs nm
  generalize fidx (fun y : Ent => y.nm.toList == nm.toList) xs = q at hm hI
  rw [hm]
  clear hm
  go_enter Tryd.func74, Tryd.ntmps74
  go_wp2_with fail
  refine Calls.mono (hI) ?_
  rintro e w1 ⟨rfl, hb1⟩
  go_wp2
  go_ret
  exact ⟨rfl, by ((repeat (first | with_reducible exact Ext.refl _ | with_reducible exact hw | with_reducible exact hb9 | with_reducible exact hb8 | with_reducible exact hb7 | with_reducible exact hb6 | with_reducible exact hb5 | with_reducible exact hb4 | with_reducible exact hb3 | with_reducible exact hb2 | with_reducible exact hb1 | with_reducible refine Ext.alloc ?_ _ | with_reducible refine Ext.drew ?_ | ((with_reducible refine Ext.set ?_ ?_ _); focus (dsimp only; omega)) | with_reducible refine Ext.trans ?_ hb9 | with_reducible refine Ext.trans ?_ hb8 | with_reducible refine Ext.trans ?_ hb7 | with_reducible refine Ext.trans ?_ hb6 | with_reducible refine Ext.trans ?_ hb5 | with_reducible refine Ext.trans ?_ hb4 | with_reducible refine Ext.trans ?_ hb3 | with_reducible refine Ext.trans ?_ hb2 | with_reducible refine Ext.trans ?_ hb1 | with_reducible refine Ext.trans ?_ hw)))⟩
set_option maxHeartbeats 2000000 in
theorem impl_isCatalogue (xs : List Ent) (A : Option Addr) (cap : Nat) (w : World) (hR : Rd encEnt w A xs) (hcap : xs.length ≤ cap) (hok : ∀ x ∈ xs, x.nm.size ≤ 9223372036854775807) (hG : Glob w) :
    Calls Tryd.prog 53 #[.slice A xs.length cap] w fun e w' => e = .returned (.bool (catB xs)) ∧ Ext w w' := by
  by_cases h40 : xs.length ≤ 40
  · have hv : catB xs = (standsB xs && topsB xs) := by unfold catB; rw [decide_eq_true h40, Bool.true_and]
    go_enter Tryd.func53, Tryd.ntmps53
    go_wp2
    go_loopg [14] xs.length (fun g i wr => ∃ k : Nat, g = xs.length - k ∧ k ≤ xs.length ∧ i = .int .i64 k ∧ Ext w wr ∧ standsTo xs k = true)
    case atStart => exact ⟨0, by omega, by omega, rfl, Ext.refl _, rfl⟩
    case round =>
      obtain ⟨k, hg, hk, rfl, hw, hQ⟩ := hrel
      by_cases hkl : k < xs.length
      · obtain ⟨b, off, hA, hlt, _⟩ := hR k hkl
        subst hA
        obtain ⟨m0, m1, m2, m3⟩ := (hR.ext hw).ent k hkl
        have hkk := getBang xs k hkl
        cases hN : entNameB xs[k].nm with
        | false =>
          have hv2 : catB xs = false := by
            rw [hv, stands_miss k hkl (by unfold standB; rw [hkk, hN]; rfl), Bool.false_and]
          clear hQ hv
          go_wp2_with fail
          refine Calls.mono (impl_isEntryName xs[k].nm _ (hok _ (List.getElem_mem hkl)) (hG.ext (by ((repeat (first | with_reducible exact Ext.refl _ | with_reducible exact hw | with_reducible exact hb9 | with_reducible exact hb8 | with_reducible exact hb7 | with_reducible exact hb6 | with_reducible exact hb5 | with_reducible exact hb4 | with_reducible exact hb3 | with_reducible exact hb2 | with_reducible exact hb1 | with_reducible refine Ext.alloc ?_ _ | with_reducible refine Ext.drew ?_ | ((with_reducible refine Ext.set ?_ ?_ _); focus (dsimp only; omega)) | with_reducible refine Ext.trans ?_ hb9 | with_reducible refine Ext.trans ?_ hb8 | with_reducible refine Ext.trans ?_ hb7 | with_reducible refine Ext.trans ?_ hb6 | with_reducible refine Ext.trans ?_ hb5 | with_reducible refine Ext.trans ?_ hb4 | with_reducible refine Ext.trans ?_ hb3 | with_reducible refine Ext.trans ?_ hb2 | with_reducible refine Ext.trans ?_ hb1 | with_reducible refine Ext.trans ?_ hw)))))) ?_
          rintro e w1 ⟨rfl, hb1⟩
          simp only [hN]
          go_wp2
          go_ret
          exact ⟨by first | rfl | (rw [hv2]; rfl), by ((repeat (first | with_reducible exact Ext.refl _ | with_reducible exact hw | with_reducible exact hb9 | with_reducible exact hb8 | with_reducible exact hb7 | with_reducible exact hb6 | with_reducible exact hb5 | with_reducible exact hb4 | with_reducible exact hb3 | with_reducible exact hb2 | with_reducible exact hb1 | with_reducible refine Ext.alloc ?_ _ | with_reducible refine Ext.drew ?_ | ((with_reducible refine Ext.set ?_ ?_ _); focus (dsimp only; omega)) | with_reducible refine Ext.trans ?_ hb9 | with_reducible refine Ext.trans ?_ hb8 | with_reducible refine Ext.trans ?_ hb7 | with_reducible refine Ext.trans ?_ hb6 | with_reducible refine Ext.trans ?_ hb5 | with_reducible refine Ext.trans ?_ hb4 | with_reducible refine Ext.trans ?_ hb3 | with_reducible refine Ext.trans ?_ hb2 | with_reducible refine Ext.trans ?_ hb1 | with_reducible refine Ext.trans ?_ hw)))⟩
        | true =>
          go_wp2_with fail
          refine Calls.mono (impl_isEntryName xs[k].nm _ (hok _ (List.getElem_mem hkl)) (hG.ext (by ((repeat (first | with_reducible exact Ext.refl _ | with_reducible exact hw | with_reducible exact hb9 | with_reducible exact hb8 | with_reducible exact hb7 | with_reducible exact hb6 | with_reducible exact hb5 | with_reducible exact hb4 | with_reducible exact hb3 | with_reducible exact hb2 | with_reducible exact hb1 | with_reducible refine Ext.alloc ?_ _ | with_reducible refine Ext.drew ?_ | ((with_reducible refine Ext.set ?_ ?_ _); focus (dsimp only; omega)) | with_reducible refine Ext.trans ?_ hb9 | with_reducible refine Ext.trans ?_ hb8 | with_reducible refine Ext.trans ?_ hb7 | with_reducible refine Ext.trans ?_ hb6 | with_reducible refine Ext.trans ?_ hb5 | with_reducible refine Ext.trans ?_ hb4 | with_reducible refine Ext.trans ?_ hb3 | with_reducible refine Ext.trans ?_ hb2 | with_reducible refine Ext.trans ?_ hb1 | with_reducible refine Ext.trans ?_ hw)))))) ?_
          rintro e w1 ⟨rfl, hb1⟩
          simp only [hN]
          have x0 : w1.cell? ⟨wr.heap.size, 0, none⟩ = some (.string xs[k].nm) := hb1.cell (by go_simp)
          have x1 : w1.cell? ⟨wr.heap.size, 1, none⟩ = some (.int .i64 xs[k].see) := hb1.cell (by go_simp)
          have x2 : w1.cell? ⟨wr.heap.size, 2, none⟩ = some (.int .i64 xs[k].br) := hb1.cell (by go_simp)
          have xl : wr.heap.size < w1.heap.size := Nat.lt_of_lt_of_le (by simp) hb1.size
          have hw1 : Ext w w1 := by ((repeat (first | with_reducible exact Ext.refl _ | with_reducible exact hw | with_reducible exact hb9 | with_reducible exact hb8 | with_reducible exact hb7 | with_reducible exact hb6 | with_reducible exact hb5 | with_reducible exact hb4 | with_reducible exact hb3 | with_reducible exact hb2 | with_reducible exact hb1 | with_reducible refine Ext.alloc ?_ _ | with_reducible refine Ext.drew ?_ | ((with_reducible refine Ext.set ?_ ?_ _); focus (dsimp only; omega)) | with_reducible refine Ext.trans ?_ hb9 | with_reducible refine Ext.trans ?_ hb8 | with_reducible refine Ext.trans ?_ hb7 | with_reducible refine Ext.trans ?_ hb6 | with_reducible refine Ext.trans ?_ hb5 | with_reducible refine Ext.trans ?_ hb4 | with_reducible refine Ext.trans ?_ hb3 | with_reducible refine Ext.trans ?_ hb2 | with_reducible refine Ext.trans ?_ hb1 | with_reducible refine Ext.trans ?_ hw)))
          clear hb1
          go_wp2_with fail
          refine Calls.mono (slices_ContainsFunc_sameName (xs.take k) (some ⟨b, off, none⟩) k cap _ (by rw [List.length_take]; omega) ((hR.ext hw1).take k) (by omega) xs[k].nm wr.heap.size x0 xl) ?_
          rintro e w2 ⟨rfl, hb2⟩
          have hany : hasNm (xs.take k) xs[k].nm = (xs.take k).any fun y => y.nm.toList == xs[k].nm.toList := rfl
          cases hH : hasNm (xs.take k) xs[k].nm with
          | true =>
            have hv2 : catB xs = false := by
              rw [hv, stands_miss k hkl (by unfold standB; rw [hkk, ← hany, hH, Bool.not_true, Bool.false_and, Bool.and_false]), Bool.false_and]
            clear hQ hv hany
            simp only [hH]
            go_wp2
            go_ret
            exact ⟨by first | rfl | (rw [hv2]; rfl), hw1.trans hb2⟩
          | false =>
            have y1 := hb2.cell x1
            have y2 := hb2.cell x2
            have yl := Nat.lt_of_lt_of_le xl hb2.size
            have hw2 : Ext w w2 := hw1.trans hb2
            clear x0 x1 x2 hb2 hw1
            simp only [hH]
            go_wp2
            go_loopg [36] 2 (fun g i w3 => ∃ j : Nat, g = 2 - j ∧ j ≤ 2 ∧ i = .int .i64 j ∧ Ext w2 w3 ∧ Rd encI64 w3 (some ⟨w2.heap.size, 0, none⟩) [xs[k].see, xs[k].br] ∧ ([xs[k].see, xs[k].br].take j).all (refB xs) = true)
            case atStart => exact ⟨0, by omega, by omega, rfl, by ((repeat (first | with_reducible exact Ext.refl _ | with_reducible exact hw | with_reducible exact hb9 | with_reducible exact hb8 | with_reducible exact hb7 | with_reducible exact hb6 | with_reducible exact hb5 | with_reducible exact hb4 | with_reducible exact hb3 | with_reducible exact hb2 | with_reducible exact hb1 | with_reducible refine Ext.alloc ?_ _ | with_reducible refine Ext.drew ?_ | ((with_reducible refine Ext.set ?_ ?_ _); focus (dsimp only; omega)) | with_reducible refine Ext.trans ?_ hb9 | with_reducible refine Ext.trans ?_ hb8 | with_reducible refine Ext.trans ?_ hb7 | with_reducible refine Ext.trans ?_ hb6 | with_reducible refine Ext.trans ?_ hb5 | with_reducible refine Ext.trans ?_ hb4 | with_reducible refine Ext.trans ?_ hb3 | with_reducible refine Ext.trans ?_ hb2 | with_reducible refine Ext.trans ?_ hb1 | with_reducible refine Ext.trans ?_ hw))), Rd.lit2, rfl⟩
            case round =>
              obtain ⟨j, hg3, hj, rfl, hb3, hL, hP⟩ := hrel
              have z1 := hb3.cell y1
              have z2 := hb3.cell y2
              have zl := Nat.lt_of_lt_of_le yl hb3.size
              have hw3 : Ext w wr := hw2.trans hb3
              by_cases hj2 : j < 2
              · have hjl : j < [xs[k].see, xs[k].br].length := hj2
                have hc := hL.i64 j hjl
                rw [Nat.zero_add] at hc
                have hT := all_take (refB xs) [xs[k].see, xs[k].br] j hjl
                rw [hP, Bool.true_and] at hT
                have hmiss : refB xs [xs[k].see, xs[k].br][j] = false → catB xs = false := by
                  intro hr
                  have hor : refB xs xs[k].see = false ∨ refB xs xs[k].br = false := by
                    rcases (show j = 0 ∨ j = 1 by omega) with rfl | rfl
                    · exact .inl hr
                    · exact .inr hr
                  rw [hv, stands_miss k hkl ?_, Bool.false_and]
                  unfold standB
                  rw [hkk]
                  rcases hor with h | h <;> rw [h] <;> simp
                generalize [xs[k].see, xs[k].br][j] = v at hc hT hmiss
                have hr : refB xs v = refB xs v := rfl
                conv at hr => lhs; unfold refB prefB
                by_cases c1 : v < -1
                · have hv2 : catB xs = false := hmiss (by rw [← hr]; first | (simp; done) | (simp; omega))
                  clear hr hmiss hT hP hQ hv hany hH hN hL hok
                  go_wp2
                  go_ret
                  exact ⟨by first | rfl | (rw [hv2]; rfl), hw3⟩
                · by_cases c2 : (xs.length : Int) ≤ v
                  · have hv2 : catB xs = false := hmiss (by rw [← hr]; first | (simp; done) | (simp; omega))
                    clear hr hmiss hT hP hQ hv hany hH hN hL hok
                    go_wp2
                    go_ret
                    exact ⟨by first | rfl | (rw [hv2]; rfl), hw3⟩
                  · by_cases c3 : v < 0
                    · obtain rfl : v = -1 := by omega
                      have hrt : refB xs (-1) = true := rfl
                      have hT2 := hd (hT.trans hrt)
                      clear hr hmiss hT
                      go_wp2
                      go_roundg (2 - (j + 1))
                      case rel => exact ⟨j + 1, rfl, hj2, rfl, hb3, hL, hT2.out⟩
                      case measure => omega
                    · obtain ⟨n, rfl⟩ : ∃ n : Nat, v = n := ⟨v.toNat, by omega⟩
                      have hnl : n < xs.length := by omega
                      obtain ⟨n0, n1, n2, n3⟩ := (hR.ext hw3).ent n hnl
                      have hnn := getBang xs n hnl
                      by_cases hs : xs[n].see = -1
                      · have hrt : refB xs n = true := by rw [← hr]; simp [hnn, hs, hnl]
                        have hT2 := hd (hT.trans hrt)
                        clear hr hmiss hT
                        go_wp2
                        go_roundg (2 - (j + 1))
                        case rel => exact ⟨j + 1, rfl, hj2, rfl, hb3, hL, hT2.out⟩
                        case measure => omega
                      · have hv2 : catB xs = false := hmiss (by rw [← hr]; first | (simp [hnn, hs]; done) | (simp [hnn, hs]; omega))
                        clear hr hmiss hT hP hQ hv hany hH hN hL hok
                        go_wp2
                        go_ret
                        exact ⟨by first | rfl | (rw [hv2]; rfl), hw3⟩
              · obtain rfl : j = 2 := by omega
                have hP2 : refB xs xs[k].see = true ∧ refB xs xs[k].br = true := by
                  simpa using hP
                obtain ⟨p1, p2⟩ := hP2
                have hst : standB xs k = (xs[k].see == -1 || xs[k].br == -1) := by
                  unfold standB
                  rw [hkk, hN, ← hany, hH, p1, p2]
                  rfl
                clear hP hL
                by_cases q1 : xs[k].see = -1
                · have hQ2 := hd (show standsTo xs (k + 1) = true by rw [standsTo_succ, hQ, hst, q1]; rfl)
                  clear hst hQ hany
                  go_wp2
                  go_roundg (xs.length - (k + 1))
                  case rel => exact ⟨k + 1, rfl, hkl, rfl, hw3, hQ2.out⟩
                  case measure => omega
                · by_cases q2 : xs[k].br = -1
                  · have hQ2 := hd (show standsTo xs (k + 1) = true by rw [standsTo_succ, hQ, hst, q2]; simp)
                    clear hst hQ hany
                    go_wp2
                    go_roundg (xs.length - (k + 1))
                    case rel => exact ⟨k + 1, rfl, hkl, rfl, hw3, hQ2.out⟩
                    case measure => omega
                  · have hv2 : catB xs = false := by
                      rw [hv, stands_miss k hkl (by rw [hst]; simp [q1, q2]), Bool.false_and]
                    have b1 : (xs[k].see != -1) = true := by simp [q1]
                    have b2 : (xs[k].br != -1) = true := by simp [q2]
                    clear hst hQ hany hv
                    go_wp2
                    go_ret
                    exact ⟨by first | rfl | (rw [hv2]; rfl), hw3⟩
      · obtain rfl : k = xs.length := by omega
        have hS : standsB xs = true := hQ
        have hvt : catB xs = topsB xs := by rw [hv, hS, Bool.true_and]
        clear hv hQ
        go_wp2
        go_loopg [72] xs.length (fun g i wr => ∃ k : Nat, g = xs.length - k ∧ k ≤ xs.length ∧ i = .int .i64 k ∧ Ext w wr ∧ topsTo xs k = true)
        case atStart => exact ⟨0, by omega, by omega, rfl, hw, rfl⟩
        case round =>
          obtain ⟨k, hg, hk, rfl, hw, hQ⟩ := hrel
          by_cases hkl : k < xs.length
          · go_wp2
            go_loopg [78, 8] xs.length (fun g i a w3 => ∃ j : Nat, g = xs.length - j ∧ j ≤ xs.length ∧ i = .int .i64 j ∧ a = .int .i64 (climb xs j k) ∧ Ext w w3)
            case atStart => exact ⟨0, by omega, by omega, rfl, rfl, hw⟩
            case round =>
              obtain ⟨j, hg3, hj, rfl, rfl, hw⟩ := hrel
              have hin := climb_in hS j (a := (k : Int)) (.inr ⟨by omega, by omega⟩)
              by_cases hj2 : j < xs.length
              · have hsucc := climb_succ xs j k
                generalize climb xs j k = a at hin hsucc
                by_cases ha : a < 0
                · have hsu := hd (hsucc.trans (show stepUp xs a = a by unfold stepUp; rw [if_neg (by omega)]))
                  clear hsucc
                  go_wp2
                  go_roundg (xs.length - (j + 1))
                  case rel => exact ⟨j + 1, rfl, hj2, rfl, by rw [hsu.out], hw⟩
                  case measure => omega
                · obtain ⟨n, rfl⟩ : ∃ n : Nat, a = n := ⟨a.toNat, by omega⟩
                  have hnl : n < xs.length := by unfold InC at hin; omega
                  obtain ⟨b, off, hA, hlt, _⟩ := hR n hnl
                  subst hA
                  obtain ⟨n0, n1, n2, n3⟩ := (hR.ext hw).ent n hnl
                  have hsu := hd (hsucc.trans (show stepUp xs n = xs[n].br by unfold stepUp; rw [if_pos (by omega), Int.toNat_natCast, getBang xs n hnl]))
                  clear hsucc
                  go_wp2
                  go_roundg (xs.length - (j + 1))
                  case rel => exact ⟨j + 1, rfl, hj2, rfl, by rw [hsu.out], hw⟩
                  case measure => omega
              · obtain rfl : j = xs.length := by omega
                by_cases ha : climb xs xs.length k < 0
                · have hQ2 := hd (topsTo_succ xs k hQ ha)
                  clear hQ
                  generalize climb xs xs.length k = a at ha
                  go_wp2
                  go_roundg (xs.length - (k + 1))
                  case rel => exact ⟨k + 1, rfl, hkl, rfl, hw, hQ2.out⟩
                  case measure => omega
                · have hv2 : catB xs = false := by rw [hvt]; exact tops_miss k hkl (by omega)
                  clear hQ hvt
                  generalize climb xs xs.length k = a at ha
                  go_wp2
                  go_ret
                  exact ⟨by first | rfl | (rw [hv2]; rfl), hw⟩
          · obtain rfl : k = xs.length := by omega
            have hv2 : catB xs = true := hvt.trans hQ
            clear hQ hvt
            go_wp2
            go_ret
            exact ⟨by first | rfl | (rw [hv2]; rfl), hw⟩
  · have hv : catB xs = false := by unfold catB; rw [decide_eq_false h40, Bool.false_and]
    go_enter Tryd.func53, Tryd.ntmps53
    go_wp2
    go_ret
    exact ⟨by first | rfl | (rw [hv]; rfl), Ext.refl _⟩
