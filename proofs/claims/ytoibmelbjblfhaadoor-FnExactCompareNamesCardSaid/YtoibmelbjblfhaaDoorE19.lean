/-
  Contracts of the functions that compare names, and the walk of the law FnExactCompareNames.
-/
import Derived.Test.YtoibmelbjblfhaaDoorE18
set_option linter.unusedVariables false
set_option linter.unusedSimpArgs false
set_option maxRecDepth 100000
namespace Go.Proofs.YtoibmelbjblfhaaDoor
open Go.RowKit
set_option maxHeartbeats 1000000 in
theorem impl_compareNames (a b : ByteArray) (ha : entNameB a = true) (hb : entNameB b = true) (w : World) (hG : Glob w) :
    Calls Tryd.prog 60 #[.string a, .string b] w fun e w' => e = .returned (.int .i64 (cmpN a b)) ∧ Ext w w' := by
  obtain ⟨hsa, hwa⟩ := name_words ha
  obtain ⟨hsb, hwb⟩ := name_words hb
  have hla := filedF_len (splitC 32 a)
  have hlb := filedF_len (splitC 32 b)
  have hla2 := splitC_le a 32
  have hlb2 := splitC_le b 32
  have hv := hd (show cmpN a b = orI (cmpL (filedF (splitC 32 a)) (filedF (splitC 32 b))) (cmpB a b) from rfl)
  go_enter Tryd.func60, Tryd.ntmps60
  go_wp2_with fail
  refine Calls.mono (impl_filedWords a hsa _ hG) ?_
  rintro e w1 ⟨A1, n1, c1, rfl, hn1, hR1, hb1⟩
  go_wp2_with fail
  refine Calls.mono (impl_filedWords b hsb _ (hG.ext hb1)) ?_
  rintro e w2 ⟨A2, n2, c2, rfl, hn2, hR2, hb2⟩
  generalize filedF (splitC 32 a) = xs at hla hwa hv hn1 hR1
  generalize filedF (splitC 32 b) = ys at hlb hwb hv hn2 hR2
  subst hn1 hn2
  go_wp2_with fail
  refine Calls.mono (slices_CompareFunc xs ys A1 A2 _ _ _ _ _ rfl rfl (hR1.ext hb2) hR2 (fun x hx => (hwa x hx).2) (fun y hy => (hwb y hy).2) (by omega) (by omega)) ?_
  rintro e w3 ⟨rfl, hb3⟩
  go_wp2_with fail
  refine Calls.mono (strings_Compare a b _) ?_
  rintro e w4 ⟨rfl, hb4⟩
  generalize cmpL xs ys = p at hv
  generalize cmpB a b = q at hv
  go_wp2_with fail
  refine Calls.mono (cmp_Or p q _ 2 _ Rd.lit2) ?_
  rintro e w5 ⟨rfl, hb5⟩
  go_wp2
  go_ret
  exact ⟨by rw [hv.out]; rfl, by ((repeat (first | with_reducible exact Ext.refl _ | with_reducible exact hw | with_reducible exact hb9 | with_reducible exact hb8 | with_reducible exact hb7 | with_reducible exact hb6 | with_reducible exact hb5 | with_reducible exact hb4 | with_reducible exact hb3 | with_reducible exact hb2 | with_reducible exact hb1 | with_reducible refine Ext.alloc ?_ _ | with_reducible refine Ext.drew ?_ | ((with_reducible refine Ext.set ?_ ?_ _); focus (dsimp only; omega)) | with_reducible refine Ext.trans ?_ hb9 | with_reducible refine Ext.trans ?_ hb8 | with_reducible refine Ext.trans ?_ hb7 | with_reducible refine Ext.trans ?_ hb6 | with_reducible refine Ext.trans ?_ hb5 | with_reducible refine Ext.trans ?_ hb4 | with_reducible refine Ext.trans ?_ hb3 | with_reducible refine Ext.trans ?_ hb2 | with_reducible refine Ext.trans ?_ hb1 | with_reducible refine Ext.trans ?_ hw)))⟩
set_option maxHeartbeats 1000000 in
theorem spec_l05Compare (a b : ByteArray) (ha : entNameB a = true) (hb : entNameB b = true) (w : World) :
    Calls Tryd.prog 59 #[.string a, .string b] w fun e w' => e = .returned (.int .i64 (cmpN a b)) ∧ Ext w w' := by
  have hx := @ExtOf.cell
  obtain ⟨hsa, hwa⟩ := name_words ha
  obtain ⟨hsb, hwb⟩ := name_words hb
  have hla := filedF_len (splitC 32 a)
  have hlb := filedF_len (splitC 32 b)
  have hla2 := splitC_le a 32
  have hlb2 := splitC_le b 32
  have hv := hd (show cmpN a b = orI (cmpL (filedF (splitC 32 a)) (filedF (splitC 32 b))) (cmpB a b) from rfl)
  go_enter Tryd.func59, Tryd.ntmps59
  go_wp2_with fail
  refine Calls.mono (spec_l05Words a hsa _) ?_
  rintro e w1 ⟨A1, n1, c1, rfl, hn1, hR1, hb1⟩
  go_wp2_with fail
  refine Calls.mono (spec_l05Words b hsb _) ?_
  rintro e w2 ⟨A2, n2, c2, rfl, hn2, hR2, hb2⟩
  have hR1' := hR1.ext hb2
  clear hR1
  generalize filedF (splitC 32 a) = xs at hla hwa hv hn1 hR1'
  generalize filedF (splitC 32 b) = ys at hlb hwb hv hn2 hR2
  subst hn1 hn2
  go_wp2
  go_loopg [7] xs.length (fun g i wr => ∃ k : Nat, g = xs.length - k ∧ k ≤ xs.length ∧ k ≤ ys.length ∧ i = .int .i64 k ∧ Ext w2 wr ∧ cmpL xs ys = cmpL (xs.drop k) (ys.drop k))
  case atStart => exact ⟨0, by omega, by omega, by omega, rfl, Ext.refl _, rfl⟩
  case round =>
    obtain ⟨k, hg, hk, hk2, rfl, hw, hQ⟩ := hrel
    by_cases hkl : k < xs.length
    · by_cases hky : k < ys.length
      · obtain ⟨bk, off, hA, hlt, _⟩ := hR1' k hkl
        subst hA
        obtain ⟨bk', off', hB, hlt', _⟩ := hR2 k hky
        subst hB
        have m0 := (hR1'.ext hw).str k hkl
        have n0 := (hR2.ext hw).str k hky
        have m3 : bk < wr.heap.size := Nat.lt_of_lt_of_le hlt hw.size
        have n3 : bk' < wr.heap.size := Nat.lt_of_lt_of_le hlt' hw.size
        rw [cmpL_step xs ys k hkl hky] at hQ
        have hcx := hwa _ (List.getElem_mem hkl)
        have hcy := hwb _ (List.getElem_mem hky)
        have hcw := fun W => spec_l05Word xs[k] ys[k] hcx.1 hcy.1 (by omega) (by omega) W
        by_cases q : cmpW xs[k] ys[k] = 0
        · have hQ2 := hd (hQ.trans (by rw [if_neg (by simp [q])]))
          rw [q] at hcw
          clear hQ hcx hcy
          go_wp2
          refine wp_region_ext (by kernel_rfl) (by kernel_rfl) ?_
          repeat (first | go_big_quiet_step ((go_at_call 77; with_reducible exact Calls.ext_of (hcw _))) | quiet_step ((go_at_call 77; with_reducible exact Calls.ext_of (hcw _))))
          refine wpQuiet_nil ?_
          intro w4 hq4
          have hb4 := ext_of_class hq4
          clear hq4
          obtain ⟨hc4, hf4, hz4⟩ := bcell3 hb4
          try simp at hz4
          go_wp2
          go_roundg (xs.length - (k + 1))
          case rel => exact ⟨k + 1, rfl, hkl, hky, rfl, by ((repeat (first | with_reducible exact Ext.refl _ | with_reducible exact hw | with_reducible exact hb9 | with_reducible exact hb8 | with_reducible exact hb7 | with_reducible exact hb6 | with_reducible exact hb5 | with_reducible exact hb4 | with_reducible exact hb3 | with_reducible exact hb2 | with_reducible exact hb1 | with_reducible refine Ext.alloc ?_ _ | with_reducible refine Ext.drew ?_ | ((with_reducible refine Ext.set ?_ ?_ _); focus (dsimp only; omega)) | with_reducible refine Ext.trans ?_ hb9 | with_reducible refine Ext.trans ?_ hb8 | with_reducible refine Ext.trans ?_ hb7 | with_reducible refine Ext.trans ?_ hb6 | with_reducible refine Ext.trans ?_ hb5 | with_reducible refine Ext.trans ?_ hb4 | with_reducible refine Ext.trans ?_ hb3 | with_reducible refine Ext.trans ?_ hb2 | with_reducible refine Ext.trans ?_ hb1 | with_reducible refine Ext.trans ?_ hw))), hQ2.out⟩
          case measure => omega
        · have hQ2 := hd (hQ.trans (by rw [if_pos q]))
          generalize cmpW xs[k] ys[k] = c at q hcw hQ2
          have q2 : (c != 0) = true := by simp [q]
          have hv2 := hd (show cmpN a b = c by rw [hv.out, hQ2.out, orI_pos q])
          clear hQ hcx hcy hQ2 hv
          go_wp2
          refine wp_region_ext (by kernel_rfl) (by kernel_rfl) ?_
          repeat (first | go_big_quiet_step ((go_at_call 77; with_reducible exact Calls.ext_of (hcw _))) | quiet_step ((go_at_call 77; with_reducible exact Calls.ext_of (hcw _))))
          refine wpQuiet_nil ?_
          intro w4 hq4
          have hb4 := ext_of_class hq4
          clear hq4
          obtain ⟨hc4, hf4, hz4⟩ := bcell3 hb4
          try simp at hz4
          go_wp2
          go_ret
          exact ⟨by rw [hv2.out]; rfl, by ((repeat (first | with_reducible exact Ext.refl _ | with_reducible exact hw | with_reducible exact hb9 | with_reducible exact hb8 | with_reducible exact hb7 | with_reducible exact hb6 | with_reducible exact hb5 | with_reducible exact hb4 | with_reducible exact hb3 | with_reducible exact hb2 | with_reducible exact hb1 | with_reducible refine Ext.alloc ?_ _ | with_reducible refine Ext.drew ?_ | ((with_reducible refine Ext.set ?_ ?_ _); focus (dsimp only; omega)) | with_reducible refine Ext.trans ?_ hb9 | with_reducible refine Ext.trans ?_ hb8 | with_reducible refine Ext.trans ?_ hb7 | with_reducible refine Ext.trans ?_ hb6 | with_reducible refine Ext.trans ?_ hb5 | with_reducible refine Ext.trans ?_ hb4 | with_reducible refine Ext.trans ?_ hb3 | with_reducible refine Ext.trans ?_ hb2 | with_reducible refine Ext.trans ?_ hb1 | with_reducible refine Ext.trans ?_ hw)))⟩
      · have hQ2 := hQ.trans (cmpL_long xs ys k hkl (by omega))
        have hv2 := hd (show cmpN a b = (if (xs.length : Int) - ys.length < 0 then -1 else if (xs.length : Int) - ys.length > 0 then 1 else 0) by rw [hv.out, hQ2, orI_pos (by simp), if_neg (by omega), if_pos (by omega)])
        have hl : ((xs.length : Int) != (ys.length : Int)) = true := by simp; omega
        clear hQ hQ2 hv
        go_wp2_with fail
        refine Calls.mono (spec_l05Sign ((xs.length : Int) - ys.length) _) ?_
        rintro e w4 ⟨rfl, hb4⟩
        rw [← hv2.out]
        go_wp2
        go_ret
        exact ⟨rfl, by ((repeat (first | with_reducible exact Ext.refl _ | with_reducible exact hw | with_reducible exact hb9 | with_reducible exact hb8 | with_reducible exact hb7 | with_reducible exact hb6 | with_reducible exact hb5 | with_reducible exact hb4 | with_reducible exact hb3 | with_reducible exact hb2 | with_reducible exact hb1 | with_reducible refine Ext.alloc ?_ _ | with_reducible refine Ext.drew ?_ | ((with_reducible refine Ext.set ?_ ?_ _); focus (dsimp only; omega)) | with_reducible refine Ext.trans ?_ hb9 | with_reducible refine Ext.trans ?_ hb8 | with_reducible refine Ext.trans ?_ hb7 | with_reducible refine Ext.trans ?_ hb6 | with_reducible refine Ext.trans ?_ hb5 | with_reducible refine Ext.trans ?_ hb4 | with_reducible refine Ext.trans ?_ hb3 | with_reducible refine Ext.trans ?_ hb2 | with_reducible refine Ext.trans ?_ hb1 | with_reducible refine Ext.trans ?_ hw)))⟩
    · by_cases hky : k < ys.length
      · have hQ2 := hQ.trans (cmpL_short xs ys k (by omega) hky)
        have hv2 := hd (show cmpN a b = (if (xs.length : Int) - ys.length < 0 then -1 else if (xs.length : Int) - ys.length > 0 then 1 else 0) by rw [hv.out, hQ2, orI_pos (by simp), if_pos (by omega)])
        have hl : ((xs.length : Int) != (ys.length : Int)) = true := by simp; omega
        clear hQ hQ2 hv
        go_wp2_with fail
        refine Calls.mono (spec_l05Sign ((xs.length : Int) - ys.length) _) ?_
        rintro e w4 ⟨rfl, hb4⟩
        rw [← hv2.out]
        go_wp2
        go_ret
        exact ⟨rfl, by ((repeat (first | with_reducible exact Ext.refl _ | with_reducible exact hw | with_reducible exact hb9 | with_reducible exact hb8 | with_reducible exact hb7 | with_reducible exact hb6 | with_reducible exact hb5 | with_reducible exact hb4 | with_reducible exact hb3 | with_reducible exact hb2 | with_reducible exact hb1 | with_reducible refine Ext.alloc ?_ _ | with_reducible refine Ext.drew ?_ | ((with_reducible refine Ext.set ?_ ?_ _); focus (dsimp only; omega)) | with_reducible refine Ext.trans ?_ hb9 | with_reducible refine Ext.trans ?_ hb8 | with_reducible refine Ext.trans ?_ hb7 | with_reducible refine Ext.trans ?_ hb6 | with_reducible refine Ext.trans ?_ hb5 | with_reducible refine Ext.trans ?_ hb4 | with_reducible refine Ext.trans ?_ hb3 | with_reducible refine Ext.trans ?_ hb2 | with_reducible refine Ext.trans ?_ hb1 | with_reducible refine Ext.trans ?_ hw)))⟩
      · have hQ2 := hQ.trans (cmpL_end xs ys k (by omega) (by omega))
        have hv2 := hd (show cmpN a b = cmpB a b by rw [hv.out, hQ2, orI_zero])
        have hl : ((xs.length : Int) != (ys.length : Int)) = false := by simp; omega
        clear hQ hQ2 hv
        go_wp2_with fail
        refine Calls.mono (spec_l05Order a b _) ?_
        rintro e w4 ⟨rfl, hb4⟩
        rw [← hv2.out]
        go_wp2
        go_ret
        exact ⟨rfl, by ((repeat (first | with_reducible exact Ext.refl _ | with_reducible exact hw | with_reducible exact hb9 | with_reducible exact hb8 | with_reducible exact hb7 | with_reducible exact hb6 | with_reducible exact hb5 | with_reducible exact hb4 | with_reducible exact hb3 | with_reducible exact hb2 | with_reducible exact hb1 | with_reducible refine Ext.alloc ?_ _ | with_reducible refine Ext.drew ?_ | ((with_reducible refine Ext.set ?_ ?_ _); focus (dsimp only; omega)) | with_reducible refine Ext.trans ?_ hb9 | with_reducible refine Ext.trans ?_ hb8 | with_reducible refine Ext.trans ?_ hb7 | with_reducible refine Ext.trans ?_ hb6 | with_reducible refine Ext.trans ?_ hb5 | with_reducible refine Ext.trans ?_ hb4 | with_reducible refine Ext.trans ?_ hb3 | with_reducible refine Ext.trans ?_ hb2 | with_reducible refine Ext.trans ?_ hb1 | with_reducible refine Ext.trans ?_ hw)))⟩
set_option maxHeartbeats 400000 in
theorem impl_CompareNames (a b : ByteArray) (hsa : a.size ≤ 9223372036854775807) (hsb : b.size ≤ 9223372036854775807) (w : World) (hG : Glob w) :
    Calls Tryd.prog 28 #[.string a, .string b] w fun e w' => e = .returned (.tuple #[.int .i64 (cnF a b).1, .int .i64 (cnF a b).2]) ∧ Ext w w' := by
  cases h1 : entNameB a with
  | false =>
    have hv := hd (show cnF a b = (0, 1) by unfold cnF; rw [if_neg (by simp [h1])])
    go_enter Tryd.func28, Tryd.ntmps28
    go_wp2_with fail
    refine Calls.mono (impl_isEntryName a _ hsa hG) ?_
    rintro e w1 ⟨rfl, hb1⟩
    rw [h1]
    go_wp2
    refine bodyPost_ret (v := .tuple #[.int .i64 0, .int .i64 1]) (by simp [results, Tryd.results28, go_sem]) rfl ⟨by rw [hv.out], ?_⟩
    (repeat (first | with_reducible exact Ext.refl _ | with_reducible exact hw | with_reducible exact hb9 | with_reducible exact hb8 | with_reducible exact hb7 | with_reducible exact hb6 | with_reducible exact hb5 | with_reducible exact hb4 | with_reducible exact hb3 | with_reducible exact hb2 | with_reducible exact hb1 | with_reducible refine Ext.alloc ?_ _ | with_reducible refine Ext.drew ?_ | ((with_reducible refine Ext.set ?_ ?_ _); focus (dsimp only; omega)) | with_reducible refine Ext.trans ?_ hb9 | with_reducible refine Ext.trans ?_ hb8 | with_reducible refine Ext.trans ?_ hb7 | with_reducible refine Ext.trans ?_ hb6 | with_reducible refine Ext.trans ?_ hb5 | with_reducible refine Ext.trans ?_ hb4 | with_reducible refine Ext.trans ?_ hb3 | with_reducible refine Ext.trans ?_ hb2 | with_reducible refine Ext.trans ?_ hb1 | with_reducible refine Ext.trans ?_ hw))
  | true =>
    cases h2 : entNameB b with
    | false =>
      have hv := hd (show cnF a b = (0, 1) by unfold cnF; rw [if_neg (by simp [h2])])
      go_enter Tryd.func28, Tryd.ntmps28
      go_wp2_with fail
      refine Calls.mono (impl_isEntryName a _ hsa hG) ?_
      rintro e w1 ⟨rfl, hb1⟩
      rw [h1]
      go_wp2_with fail
      refine Calls.mono (impl_isEntryName b _ hsb (hG.ext hb1)) ?_
      rintro e w2 ⟨rfl, hb2⟩
      rw [h2]
      go_wp2
      refine bodyPost_ret (v := .tuple #[.int .i64 0, .int .i64 1]) (by simp [results, Tryd.results28, go_sem]) rfl ⟨by rw [hv.out], ?_⟩
      (repeat (first | with_reducible exact Ext.refl _ | with_reducible exact hw | with_reducible exact hb9 | with_reducible exact hb8 | with_reducible exact hb7 | with_reducible exact hb6 | with_reducible exact hb5 | with_reducible exact hb4 | with_reducible exact hb3 | with_reducible exact hb2 | with_reducible exact hb1 | with_reducible refine Ext.alloc ?_ _ | with_reducible refine Ext.drew ?_ | ((with_reducible refine Ext.set ?_ ?_ _); focus (dsimp only; omega)) | with_reducible refine Ext.trans ?_ hb9 | with_reducible refine Ext.trans ?_ hb8 | with_reducible refine Ext.trans ?_ hb7 | with_reducible refine Ext.trans ?_ hb6 | with_reducible refine Ext.trans ?_ hb5 | with_reducible refine Ext.trans ?_ hb4 | with_reducible refine Ext.trans ?_ hb3 | with_reducible refine Ext.trans ?_ hb2 | with_reducible refine Ext.trans ?_ hb1 | with_reducible refine Ext.trans ?_ hw))
    | true =>
      have hv := hd (show cnF a b = (cmpN a b, 0) by unfold cnF; rw [if_pos ⟨h1, h2⟩])
      go_enter Tryd.func28, Tryd.ntmps28
      go_wp2_with fail
      refine Calls.mono (impl_isEntryName a _ hsa hG) ?_
      rintro e w1 ⟨rfl, hb1⟩
      rw [h1]
      go_wp2_with fail
      refine Calls.mono (impl_isEntryName b _ hsb (hG.ext hb1)) ?_
      rintro e w2 ⟨rfl, hb2⟩
      rw [h2]
      go_wp2_with fail
      refine Calls.mono (impl_compareNames a b h1 h2 _ (hG.ext (hb1.trans hb2))) ?_
      rintro e w3 ⟨rfl, hb3⟩
      generalize cmpN a b = p at hv
      go_wp2
      refine bodyPost_ret (v := .tuple #[.int .i64 p, .int .i64 0]) (by simp [results, Tryd.results28, go_sem]) rfl ⟨by rw [hv.out], ?_⟩
      (repeat (first | with_reducible exact Ext.refl _ | with_reducible exact hw | with_reducible exact hb9 | with_reducible exact hb8 | with_reducible exact hb7 | with_reducible exact hb6 | with_reducible exact hb5 | with_reducible exact hb4 | with_reducible exact hb3 | with_reducible exact hb2 | with_reducible exact hb1 | with_reducible refine Ext.alloc ?_ _ | with_reducible refine Ext.drew ?_ | ((with_reducible refine Ext.set ?_ ?_ _); focus (dsimp only; omega)) | with_reducible refine Ext.trans ?_ hb9 | with_reducible refine Ext.trans ?_ hb8 | with_reducible refine Ext.trans ?_ hb7 | with_reducible refine Ext.trans ?_ hb6 | with_reducible refine Ext.trans ?_ hb5 | with_reducible refine Ext.trans ?_ hb4 | with_reducible refine Ext.trans ?_ hb3 | with_reducible refine Ext.trans ?_ hb2 | with_reducible refine Ext.trans ?_ hb1 | with_reducible refine Ext.trans ?_ hw))

set_option maxHeartbeats 400000 in
theorem spec_CompareNames (a b : ByteArray) (hsa : a.size ≤ 9223372036854775807) (hsb : b.size ≤ 9223372036854775807) (w : World)  :
    Calls Tryd.prog 27 #[.string a, .string b] w fun e w' => e = .returned (.tuple #[.int .i64 (cnF a b).1, .int .i64 (cnF a b).2]) ∧ Ext w w' := by
  cases h1 : entNameB a with
  | false =>
    have hv := hd (show cnF a b = (0, 1) by unfold cnF; rw [if_neg (by simp [h1])])
    go_enter Tryd.func27, Tryd.ntmps27
    go_wp2_with fail
    refine Calls.mono (spec_l05Name a _ hsa) ?_
    rintro e w1 ⟨rfl, hb1⟩
    rw [h1]
    go_wp2
    refine bodyPost_ret (v := .tuple #[.int .i64 0, .int .i64 1]) (by simp [results, Tryd.results27, go_sem]) rfl ⟨by rw [hv.out], ?_⟩
    (repeat (first | with_reducible exact Ext.refl _ | with_reducible exact hw | with_reducible exact hb9 | with_reducible exact hb8 | with_reducible exact hb7 | with_reducible exact hb6 | with_reducible exact hb5 | with_reducible exact hb4 | with_reducible exact hb3 | with_reducible exact hb2 | with_reducible exact hb1 | with_reducible refine Ext.alloc ?_ _ | with_reducible refine Ext.drew ?_ | ((with_reducible refine Ext.set ?_ ?_ _); focus (dsimp only; omega)) | with_reducible refine Ext.trans ?_ hb9 | with_reducible refine Ext.trans ?_ hb8 | with_reducible refine Ext.trans ?_ hb7 | with_reducible refine Ext.trans ?_ hb6 | with_reducible refine Ext.trans ?_ hb5 | with_reducible refine Ext.trans ?_ hb4 | with_reducible refine Ext.trans ?_ hb3 | with_reducible refine Ext.trans ?_ hb2 | with_reducible refine Ext.trans ?_ hb1 | with_reducible refine Ext.trans ?_ hw))
  | true =>
    cases h2 : entNameB b with
    | false =>
      have hv := hd (show cnF a b = (0, 1) by unfold cnF; rw [if_neg (by simp [h2])])
      go_enter Tryd.func27, Tryd.ntmps27
      go_wp2_with fail
      refine Calls.mono (spec_l05Name a _ hsa) ?_
      rintro e w1 ⟨rfl, hb1⟩
      rw [h1]
      go_wp2_with fail
      refine Calls.mono (spec_l05Name b _ hsb) ?_
      rintro e w2 ⟨rfl, hb2⟩
      rw [h2]
      go_wp2
      refine bodyPost_ret (v := .tuple #[.int .i64 0, .int .i64 1]) (by simp [results, Tryd.results27, go_sem]) rfl ⟨by rw [hv.out], ?_⟩
      (repeat (first | with_reducible exact Ext.refl _ | with_reducible exact hw | with_reducible exact hb9 | with_reducible exact hb8 | with_reducible exact hb7 | with_reducible exact hb6 | with_reducible exact hb5 | with_reducible exact hb4 | with_reducible exact hb3 | with_reducible exact hb2 | with_reducible exact hb1 | with_reducible refine Ext.alloc ?_ _ | with_reducible refine Ext.drew ?_ | ((with_reducible refine Ext.set ?_ ?_ _); focus (dsimp only; omega)) | with_reducible refine Ext.trans ?_ hb9 | with_reducible refine Ext.trans ?_ hb8 | with_reducible refine Ext.trans ?_ hb7 | with_reducible refine Ext.trans ?_ hb6 | with_reducible refine Ext.trans ?_ hb5 | with_reducible refine Ext.trans ?_ hb4 | with_reducible refine Ext.trans ?_ hb3 | with_reducible refine Ext.trans ?_ hb2 | with_reducible refine Ext.trans ?_ hb1 | with_reducible refine Ext.trans ?_ hw))
    | true =>
      have hv := hd (show cnF a b = (cmpN a b, 0) by unfold cnF; rw [if_pos ⟨h1, h2⟩])
      go_enter Tryd.func27, Tryd.ntmps27
      go_wp2_with fail
      refine Calls.mono (spec_l05Name a _ hsa) ?_
      rintro e w1 ⟨rfl, hb1⟩
      rw [h1]
      go_wp2_with fail
      refine Calls.mono (spec_l05Name b _ hsb) ?_
      rintro e w2 ⟨rfl, hb2⟩
      rw [h2]
      go_wp2_with fail
      refine Calls.mono (spec_l05Compare a b h1 h2 _) ?_
      rintro e w3 ⟨rfl, hb3⟩
      generalize cmpN a b = p at hv
      go_wp2
      refine bodyPost_ret (v := .tuple #[.int .i64 p, .int .i64 0]) (by simp [results, Tryd.results27, go_sem]) rfl ⟨by rw [hv.out], ?_⟩
      (repeat (first | with_reducible exact Ext.refl _ | with_reducible exact hw | with_reducible exact hb9 | with_reducible exact hb8 | with_reducible exact hb7 | with_reducible exact hb6 | with_reducible exact hb5 | with_reducible exact hb4 | with_reducible exact hb3 | with_reducible exact hb2 | with_reducible exact hb1 | with_reducible refine Ext.alloc ?_ _ | with_reducible refine Ext.drew ?_ | ((with_reducible refine Ext.set ?_ ?_ _); focus (dsimp only; omega)) | with_reducible refine Ext.trans ?_ hb9 | with_reducible refine Ext.trans ?_ hb8 | with_reducible refine Ext.trans ?_ hb7 | with_reducible refine Ext.trans ?_ hb6 | with_reducible refine Ext.trans ?_ hb5 | with_reducible refine Ext.trans ?_ hb4 | with_reducible refine Ext.trans ?_ hb3 | with_reducible refine Ext.trans ?_ hb2 | with_reducible refine Ext.trans ?_ hb1 | with_reducible refine Ext.trans ?_ hw))

set_option maxHeartbeats 400000 in
theorem laws_FnExactCompareNames (a b : ByteArray) (w : World) (hsa : a.size ≤ 9223372036854775807) (hsb : b.size ≤ 9223372036854775807) (hG : Glob w) :
    Calls Tryd.prog 8 #[.string a, .string b] w fun e w' => e = .returned (.bool true) ∧ Ext w w' := by
  rcases Nat.lt_or_ge 1048576 a.size with h1 | h1
  · go_enter Tryd.func8, Tryd.ntmps8
    go_wp2
    go_ret
    exact ⟨rfl, Ext.refl _⟩
  · rcases Nat.lt_or_ge 1048576 b.size with h2 | h2
    · go_enter Tryd.func8, Tryd.ntmps8
      go_wp2
      go_ret
      exact ⟨rfl, Ext.refl _⟩
    · go_enter Tryd.func8, Tryd.ntmps8
      go_wp2_with fail
      refine Calls.mono (spec_CompareNames a b hsa hsb _) ?_
      rintro e w1 ⟨rfl, hb1⟩
      go_wp2_with fail
      refine Calls.mono (impl_CompareNames a b hsa hsb _ (hG.ext hb1)) ?_
      rintro e w2 ⟨rfl, hb2⟩
      generalize cnF a b = q
      obtain ⟨q1, q2⟩ := q
      go_wp2
      go_ret
      exact ⟨rfl, by ((repeat (first | with_reducible exact Ext.refl _ | with_reducible exact hw | with_reducible exact hb9 | with_reducible exact hb8 | with_reducible exact hb7 | with_reducible exact hb6 | with_reducible exact hb5 | with_reducible exact hb4 | with_reducible exact hb3 | with_reducible exact hb2 | with_reducible exact hb1 | with_reducible refine Ext.alloc ?_ _ | with_reducible refine Ext.drew ?_ | ((with_reducible refine Ext.set ?_ ?_ _); focus (dsimp only; omega)) | with_reducible refine Ext.trans ?_ hb9 | with_reducible refine Ext.trans ?_ hb8 | with_reducible refine Ext.trans ?_ hb7 | with_reducible refine Ext.trans ?_ hb6 | with_reducible refine Ext.trans ?_ hb5 | with_reducible refine Ext.trans ?_ hb4 | with_reducible refine Ext.trans ?_ hb3 | with_reducible refine Ext.trans ?_ hb2 | with_reducible refine Ext.trans ?_ hb1 | with_reducible refine Ext.trans ?_ hw)))⟩
