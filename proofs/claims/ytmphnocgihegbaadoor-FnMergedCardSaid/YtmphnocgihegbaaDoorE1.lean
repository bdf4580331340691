/-
  Contracts of the functions that copy, compare and measure entries.
-/
import Derived.Test.YtmphnocgihegbaaDoorRows
import Derived.Test.YtmphnocgihegbaaDoorE0
set_option linter.unusedVariables false
set_option linter.unusedSimpArgs false
namespace Go.Proofs.YtmphnocgihegbaaDoor
open Go.RowKit
theorem eqA_Ent (d : Nat) (a a' : ByteArray) (b c b' c' : Int) (w : World) :
    (Op.equalIn (d + 2) 49 (.agg #[.string a, .int .i64 b, .int .i64 c]) (.agg #[.string a', .int .i64 b', .int .i64 c'])).run Tryd.prog w = .ok (entB ⟨a, b, c⟩ ⟨a', b', c'⟩) w := by
  rw [Op.equalIn]
  simp only [Sem.run_bind, run_underlying Tryd.underlying49, Result.andThen_ok, Std.Legacy.Range.forIn_eq_forIn_range', Std.Legacy.Range.size]
  go_simp
  unfold entB
  cases h1 : (a.toList == a'.toList) <;> cases h2 : (b == b') <;> cases h3 : (c == c') <;> go_simp <;> simp_all
set_option maxHeartbeats 400000 in
theorem laws_toEntry (x : Ent) (w : World) :
    Calls Tryd.prog 41 #[.agg #[.string x.nm, .int .i64 x.see, .int .i64 x.br]] w fun e w' => e = .returned (.agg #[.string x.nm, .int .i64 x.see, .int .i64 x.br]) ∧ Ext w w' := by
  go_enter Tryd.func41, Tryd.ntmps41
  go_wp2
  refine bodyPost_ret (v := .agg #[.string x.nm, .int .i64 x.see, .int .i64 x.br]) (by simp [results, Tryd.results41, go_sem]) rfl ⟨rfl, ?_⟩
  (repeat (first | with_reducible exact Ext.refl _ | with_reducible exact hw | with_reducible exact hb9 | with_reducible exact hb8 | with_reducible exact hb7 | with_reducible exact hb6 | with_reducible exact hb5 | with_reducible exact hb4 | with_reducible exact hb3 | with_reducible exact hb2 | with_reducible exact hb1 | with_reducible refine Ext.alloc ?_ _ | with_reducible refine Ext.drew ?_ | ((with_reducible refine Ext.set ?_ ?_ _); focus (dsimp only; omega)) | with_reducible refine Ext.trans ?_ hb9 | with_reducible refine Ext.trans ?_ hb8 | with_reducible refine Ext.trans ?_ hb7 | with_reducible refine Ext.trans ?_ hb6 | with_reducible refine Ext.trans ?_ hb5 | with_reducible refine Ext.trans ?_ hb4 | with_reducible refine Ext.trans ?_ hb3 | with_reducible refine Ext.trans ?_ hb2 | with_reducible refine Ext.trans ?_ hb1 | with_reducible refine Ext.trans ?_ hw))
set_option maxHeartbeats 400000 in
theorem laws_eqEntry (x y : Ent) (w : World) :
    Calls Tryd.prog 44 #[.agg #[.string x.nm, .int .i64 x.see, .int .i64 x.br], .agg #[.string y.nm, .int .i64 y.see, .int .i64 y.br]] w fun e w' => e = .returned (.bool (entB x y)) ∧ Ext w w' := by
  unfold entB
  cases h1 : (x.nm.toList == y.nm.toList) <;> cases h2 : (x.see == y.see) <;> cases h3 : (x.br == y.br)
  all_goals
    go_enter Tryd.func44, Tryd.ntmps44
    go_wp2
    go_ret
    refine ⟨rfl, ?_⟩
    (repeat (first | with_reducible exact Ext.refl _ | with_reducible exact hw | with_reducible exact hb9 | with_reducible exact hb8 | with_reducible exact hb7 | with_reducible exact hb6 | with_reducible exact hb5 | with_reducible exact hb4 | with_reducible exact hb3 | with_reducible exact hb2 | with_reducible exact hb1 | with_reducible refine Ext.alloc ?_ _ | with_reducible refine Ext.drew ?_ | ((with_reducible refine Ext.set ?_ ?_ _); focus (dsimp only; omega)) | with_reducible refine Ext.trans ?_ hb9 | with_reducible refine Ext.trans ?_ hb8 | with_reducible refine Ext.trans ?_ hb7 | with_reducible refine Ext.trans ?_ hb6 | with_reducible refine Ext.trans ?_ hb5 | with_reducible refine Ext.trans ?_ hb4 | with_reducible refine Ext.trans ?_ hb3 | with_reducible refine Ext.trans ?_ hb2 | with_reducible refine Ext.trans ?_ hb1 | with_reducible refine Ext.trans ?_ hw))
set_option maxHeartbeats 400000 in
theorem laws_szEntry (x : Ent) (left : Int) (h0 : 0 ≤ left) (h1 : left ≤ 1048576) (hx : x.nm.size ≤ 9223372036854775807) (w : World) :
    Calls Tryd.prog 38 #[.agg #[.string x.nm, .int .i64 x.see, .int .i64 x.br], .int .i64 left] w fun e w' => e = .returned (.int .i64 (szF x.nm.size left)) ∧ Ext w w' := by
  by_cases hh : (x.nm.size : Int) ≤ left
  · have hv : szF x.nm.size left = left - x.nm.size := if_pos hh
    rw [hv]
    clear hv
    go_enter Tryd.func38, Tryd.ntmps38
    go_wp2
    go_ret
    exact ⟨rfl, by ((repeat (first | with_reducible exact Ext.refl _ | with_reducible exact hw | with_reducible exact hb9 | with_reducible exact hb8 | with_reducible exact hb7 | with_reducible exact hb6 | with_reducible exact hb5 | with_reducible exact hb4 | with_reducible exact hb3 | with_reducible exact hb2 | with_reducible exact hb1 | with_reducible refine Ext.alloc ?_ _ | with_reducible refine Ext.drew ?_ | ((with_reducible refine Ext.set ?_ ?_ _); focus (dsimp only; omega)) | with_reducible refine Ext.trans ?_ hb9 | with_reducible refine Ext.trans ?_ hb8 | with_reducible refine Ext.trans ?_ hb7 | with_reducible refine Ext.trans ?_ hb6 | with_reducible refine Ext.trans ?_ hb5 | with_reducible refine Ext.trans ?_ hb4 | with_reducible refine Ext.trans ?_ hb3 | with_reducible refine Ext.trans ?_ hb2 | with_reducible refine Ext.trans ?_ hb1 | with_reducible refine Ext.trans ?_ hw)))⟩
  · have hv : szF x.nm.size left = -1 := if_neg hh
    rw [hv]
    clear hv
    go_enter Tryd.func38, Tryd.ntmps38
    go_wp2
    go_ret
    exact ⟨rfl, by ((repeat (first | with_reducible exact Ext.refl _ | with_reducible exact hw | with_reducible exact hb9 | with_reducible exact hb8 | with_reducible exact hb7 | with_reducible exact hb6 | with_reducible exact hb5 | with_reducible exact hb4 | with_reducible exact hb3 | with_reducible exact hb2 | with_reducible exact hb1 | with_reducible refine Ext.alloc ?_ _ | with_reducible refine Ext.drew ?_ | ((with_reducible refine Ext.set ?_ ?_ _); focus (dsimp only; omega)) | with_reducible refine Ext.trans ?_ hb9 | with_reducible refine Ext.trans ?_ hb8 | with_reducible refine Ext.trans ?_ hb7 | with_reducible refine Ext.trans ?_ hb6 | with_reducible refine Ext.trans ?_ hb5 | with_reducible refine Ext.trans ?_ hb4 | with_reducible refine Ext.trans ?_ hb3 | with_reducible refine Ext.trans ?_ hb2 | with_reducible refine Ext.trans ?_ hb1 | with_reducible refine Ext.trans ?_ hw)))⟩
theorem laws_toEntryS_info : (Tryd.prog.info? 49).map (fun i => (i.zero, i.size, i.bytes)) = some (some (.agg #[.string ⟨#[]⟩, .int .i64 0, .int .i64 0]), (encEnt).sz, 32) := by kernel_rfl
theorem laws_toEntryS_size : (Tryd.prog.info? 49).map (·.size) = some (encEnt).sz := by kernel_rfl
set_option maxHeartbeats 400000 in
theorem laws_toEntryS (xs : List Ent) (A : Option Addr) (cap : Nat) (w : World) (hR : Rd encEnt w A xs) (hn : xs.length ≤ 1048576) :
    Calls Tryd.prog 11 #[.slice A xs.length cap] w fun e w' => ∃ v, e = .returned v ∧ Ow encEnt 49 w' w.heap.size v xs ∧ Ext w w' := by
  go_enter Tryd.func11, Tryd.ntmps11
  go_wp2_with (at_make; refine wpList_made encEnt (by rfl) _ _ 27 (by rfl) (Ent.z) (.agg #[.string ⟨#[]⟩, .int .i64 0, .int .i64 0]) 32 Tryd.underlying27 laws_toEntryS_info (by rfl) .i64 .i64 xs.length (by rfl) (by rfl) (by omega) (by omega) (Nat.le_refl _) (Nat.le_refl _) (Ext.refl w) ?_)
  intro w1 hO hb1 hg1
  go_wp2
  go_loopg [4] xs.length (fun g i wr => ∃ k : Nat, g = xs.length - k ∧ k ≤ xs.length ∧ i = .int .i64 k ∧ Ext w wr ∧ Ow encEnt 49 wr w.heap.size (.slice (some ⟨w.heap.size, 0, none⟩) xs.length xs.length) (fill xs (Ent.z) k))
  case atStart => exact ⟨0, by omega, by omega, rfl, hb1, by rw [fill_zero]; exact hO⟩
  case round =>
    obtain ⟨k, hg, hk, rfl, hw, hO⟩ := hrel
    by_cases hkl : k < xs.length
    · obtain ⟨b, off, hA, hlt, _⟩ := hR k hkl
      subst hA
      obtain ⟨m0, m1, m2, m3⟩ := (hR.ext hw).ent k hkl
      go_wp2_with fail
      refine Calls.mono (laws_toEntry _ _) ?_
      rintro e w2 ⟨rfl, hb2⟩
      go_wp2_with (refine wpList_put encEnt (by rfl) _ _ _ (by rfl) laws_toEntryS_size (hO.ext hb2) k hkl (by rfl) xs[k] (by rfl) (Nat.le_refl _) (hw.trans hb2) ?_)
      intro w3 hO3 hb3 hg3
      go_wp2
      go_roundg (xs.length - (k + 1))
      case rel => exact ⟨k + 1, rfl, hkl, rfl, hb3, by rw [← fill_set xs (Ent.z) k hkl]; exact hO3⟩
      case measure => omega
    · obtain rfl : k = xs.length := by omega
      go_wp2
      go_ret
      rw [fill_full] at hO
      exact ⟨_, rfl, hO, hw⟩

set_option maxHeartbeats 400000 in
theorem laws_eqEntryS (xs ys : List Ent) (A B : Option Addr) (cap cap' : Nat) (w : World) (hR : Rd encEnt w A xs) (hS : Rd encEnt w B ys) (hn : xs.length ≤ 1048576) (hm : ys.length ≤ 1048576) :
    Calls Tryd.prog 14 #[.slice A xs.length cap, .slice B ys.length cap'] w fun e w' => e = .returned (.bool (eqL entB xs ys)) ∧ Ext w w' := by
  have hx := @ExtOf.cell
  by_cases hl : xs.length = ys.length
  · go_enter Tryd.func14, Tryd.ntmps14
    go_wp2
    go_loopg [5] xs.length (fun g i wr => ∃ k : Nat, g = xs.length - k ∧ k ≤ xs.length ∧ i = .int .i64 k ∧ Ext w wr ∧ eqL entB xs ys = eqL entB (xs.drop k) (ys.drop k))
    case atStart => exact ⟨0, by omega, by omega, rfl, Ext.refl _, rfl⟩
    case round =>
      obtain ⟨k, hg, hk, rfl, hw, hQ⟩ := hrel
      by_cases hkl : k < xs.length
      · have hky : k < ys.length := by omega
        rw [eqL_drop entB xs ys k hkl hky] at hQ
        obtain ⟨b, off, hA, hlt, _⟩ := hR k hkl
        subst hA
        obtain ⟨b', off', hB, hlt', _⟩ := hS k hky
        subst hB
        obtain ⟨m0, m1, m2, m3⟩ := (hR.ext hw).ent k hkl
        obtain ⟨n0, n1, n2, n3⟩ := (hS.ext hw).ent k hky
        cases hq : entB xs[k] ys[k] with
        | true =>
          rw [hq, Bool.true_and] at hQ
          go_wp2
          refine wp_region_ext (by kernel_rfl) (by kernel_rfl) ?_
          repeat (first | go_big_quiet_step ((go_at_call 44; with_reducible exact Calls.ext_of (laws_eqEntry xs[k] ys[k] _))) | quiet_step ((go_at_call 44; with_reducible exact Calls.ext_of (laws_eqEntry xs[k] ys[k] _))))
          refine wpQuiet_nil ?_
          intro w1 hq1
          have hb1 := ext_of_class hq1
          clear hq1
          obtain ⟨hc1, hf1, hz1⟩ := bcell3 hb1
          try simp at hz1
          go_wp2
          go_roundg (xs.length - (k + 1))
          case rel => exact ⟨k + 1, rfl, hkl, rfl, by ((repeat (first | with_reducible exact Ext.refl _ | with_reducible exact hw | with_reducible exact hb9 | with_reducible exact hb8 | with_reducible exact hb7 | with_reducible exact hb6 | with_reducible exact hb5 | with_reducible exact hb4 | with_reducible exact hb3 | with_reducible exact hb2 | with_reducible exact hb1 | with_reducible refine Ext.alloc ?_ _ | with_reducible refine Ext.drew ?_ | ((with_reducible refine Ext.set ?_ ?_ _); focus (dsimp only; omega)) | with_reducible refine Ext.trans ?_ hb9 | with_reducible refine Ext.trans ?_ hb8 | with_reducible refine Ext.trans ?_ hb7 | with_reducible refine Ext.trans ?_ hb6 | with_reducible refine Ext.trans ?_ hb5 | with_reducible refine Ext.trans ?_ hb4 | with_reducible refine Ext.trans ?_ hb3 | with_reducible refine Ext.trans ?_ hb2 | with_reducible refine Ext.trans ?_ hb1 | with_reducible refine Ext.trans ?_ hw))), hQ⟩
          case measure => omega
        | false =>
          rw [hq, Bool.false_and] at hQ
          go_wp2
          refine wp_region_ext (by kernel_rfl) (by kernel_rfl) ?_
          repeat (first | go_big_quiet_step ((go_at_call 44; with_reducible exact Calls.ext_of (laws_eqEntry xs[k] ys[k] _))) | quiet_step ((go_at_call 44; with_reducible exact Calls.ext_of (laws_eqEntry xs[k] ys[k] _))))
          refine wpQuiet_nil ?_
          intro w1 hq1
          have hb1 := ext_of_class hq1
          clear hq1
          obtain ⟨hc1, hf1, hz1⟩ := bcell3 hb1
          try simp at hz1
          go_wp2
          go_ret
          exact ⟨by rw [hQ]; rfl, by ((repeat (first | with_reducible exact Ext.refl _ | with_reducible exact hw | with_reducible exact hb9 | with_reducible exact hb8 | with_reducible exact hb7 | with_reducible exact hb6 | with_reducible exact hb5 | with_reducible exact hb4 | with_reducible exact hb3 | with_reducible exact hb2 | with_reducible exact hb1 | with_reducible refine Ext.alloc ?_ _ | with_reducible refine Ext.drew ?_ | ((with_reducible refine Ext.set ?_ ?_ _); focus (dsimp only; omega)) | with_reducible refine Ext.trans ?_ hb9 | with_reducible refine Ext.trans ?_ hb8 | with_reducible refine Ext.trans ?_ hb7 | with_reducible refine Ext.trans ?_ hb6 | with_reducible refine Ext.trans ?_ hb5 | with_reducible refine Ext.trans ?_ hb4 | with_reducible refine Ext.trans ?_ hb3 | with_reducible refine Ext.trans ?_ hb2 | with_reducible refine Ext.trans ?_ hb1 | with_reducible refine Ext.trans ?_ hw)))⟩
      · rw [eqL_end entB xs ys k (by omega) (by omega)] at hQ
        go_wp2
        go_ret
        exact ⟨by rw [hQ]; rfl, hw⟩
  · rw [eqL_len entB xs ys hl]
    go_enter Tryd.func14, Tryd.ntmps14
    go_wp2
    go_ret
    exact ⟨rfl, Ext.refl _⟩

set_option maxHeartbeats 400000 in
theorem spec_SameCatalogue (xs ys : List Ent) (A B : Option Addr) (cap cap' : Nat) (w : World) (hR : Rd encEnt w A xs) (hS : Rd encEnt w B ys) (hn : xs.length ≤ 1048576) (hm : ys.length ≤ 1048576) :
    Calls Tryd.prog 30 #[.slice A xs.length cap, .slice B ys.length cap'] w fun e w' => e = .returned (.bool (eqL entB xs ys)) ∧ Ext w w' := by
  have hx := @ExtOf.cell
  have he := @eqA_Ent
  by_cases hl : xs.length = ys.length
  · rw [hl]
    go_enter Tryd.func30, Tryd.ntmps30
    go_wp2
    go_loopg [5] ys.length (fun g i wr => ∃ k : Nat, g = ys.length - k ∧ k ≤ ys.length ∧ i = .int .i64 k ∧ Ext w wr ∧ eqL entB xs ys = eqL entB (xs.drop k) (ys.drop k))
    case atStart => exact ⟨0, by omega, by omega, rfl, Ext.refl _, rfl⟩
    case round =>
      obtain ⟨k, hg, hk, rfl, hw, hQ⟩ := hrel
      by_cases hky : k < ys.length
      · have hkl : k < xs.length := by omega
        rw [eqL_drop entB xs ys k hkl hky] at hQ
        obtain ⟨b, off, hA, hlt, _⟩ := hR k hkl
        subst hA
        obtain ⟨b', off', hB, hlt', _⟩ := hS k hky
        subst hB
        obtain ⟨m0, m1, m2, m3⟩ := (hR.ext hw).ent k hkl
        obtain ⟨n0, n1, n2, n3⟩ := (hS.ext hw).ent k hky
        have hdq := entB_is xs[k] ys[k]
        cases hq : entB xs[k] ys[k] with
        | true =>
          rw [hq, Bool.true_and] at hQ
          rw [hq] at hdq
          go_wp2
          refine wp_region_ext (by kernel_rfl) (by kernel_rfl) ?_
          repeat (first | go_big_quiet_step (fail) | quiet_step (fail))
          refine wpQuiet_nil ?_
          intro w1 hq1
          have hb1 := ext_of_class hq1
          clear hq1
          obtain ⟨hc1, hf1, hz1⟩ := bcell3 hb1
          try simp at hz1
          go_wp2
          go_roundg (ys.length - (k + 1))
          case rel => exact ⟨k + 1, rfl, hky, rfl, by ((repeat (first | with_reducible exact Ext.refl _ | with_reducible exact hw | with_reducible exact hb9 | with_reducible exact hb8 | with_reducible exact hb7 | with_reducible exact hb6 | with_reducible exact hb5 | with_reducible exact hb4 | with_reducible exact hb3 | with_reducible exact hb2 | with_reducible exact hb1 | with_reducible refine Ext.alloc ?_ _ | with_reducible refine Ext.drew ?_ | ((with_reducible refine Ext.set ?_ ?_ _); focus (dsimp only; omega)) | with_reducible refine Ext.trans ?_ hb9 | with_reducible refine Ext.trans ?_ hb8 | with_reducible refine Ext.trans ?_ hb7 | with_reducible refine Ext.trans ?_ hb6 | with_reducible refine Ext.trans ?_ hb5 | with_reducible refine Ext.trans ?_ hb4 | with_reducible refine Ext.trans ?_ hb3 | with_reducible refine Ext.trans ?_ hb2 | with_reducible refine Ext.trans ?_ hb1 | with_reducible refine Ext.trans ?_ hw))), hQ⟩
          case measure => omega
        | false =>
          rw [hq, Bool.false_and] at hQ
          rw [hq] at hdq
          go_wp2
          refine wp_region_ext (by kernel_rfl) (by kernel_rfl) ?_
          repeat (first | go_big_quiet_step (fail) | quiet_step (fail))
          refine wpQuiet_nil ?_
          intro w1 hq1
          have hb1 := ext_of_class hq1
          clear hq1
          obtain ⟨hc1, hf1, hz1⟩ := bcell3 hb1
          try simp at hz1
          go_wp2
          go_ret
          exact ⟨by rw [hQ]; rfl, by ((repeat (first | with_reducible exact Ext.refl _ | with_reducible exact hw | with_reducible exact hb9 | with_reducible exact hb8 | with_reducible exact hb7 | with_reducible exact hb6 | with_reducible exact hb5 | with_reducible exact hb4 | with_reducible exact hb3 | with_reducible exact hb2 | with_reducible exact hb1 | with_reducible refine Ext.alloc ?_ _ | with_reducible refine Ext.drew ?_ | ((with_reducible refine Ext.set ?_ ?_ _); focus (dsimp only; omega)) | with_reducible refine Ext.trans ?_ hb9 | with_reducible refine Ext.trans ?_ hb8 | with_reducible refine Ext.trans ?_ hb7 | with_reducible refine Ext.trans ?_ hb6 | with_reducible refine Ext.trans ?_ hb5 | with_reducible refine Ext.trans ?_ hb4 | with_reducible refine Ext.trans ?_ hb3 | with_reducible refine Ext.trans ?_ hb2 | with_reducible refine Ext.trans ?_ hb1 | with_reducible refine Ext.trans ?_ hw)))⟩
      · rw [eqL_end entB xs ys k (by omega) (by omega)] at hQ
        go_wp2
        go_ret
        exact ⟨by rw [hQ]; rfl, hw⟩
  · rw [eqL_len entB xs ys hl]
    go_enter Tryd.func30, Tryd.ntmps30
    go_wp2
    go_ret
    exact ⟨rfl, Ext.refl _⟩

