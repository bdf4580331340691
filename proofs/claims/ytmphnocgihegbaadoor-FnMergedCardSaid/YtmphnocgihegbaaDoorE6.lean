/-
  Contracts of the reference's functions that ask whether a list of entries is a valid catalogue.
-/
import Derived.Test.YtmphnocgihegbaaDoorE5
set_option linter.unusedVariables false
set_option linter.unusedSimpArgs false
set_option maxRecDepth 100000
namespace Go.Proofs.YtmphnocgihegbaaDoor
open Go.RowKit
set_option maxHeartbeats 400000 in
theorem spec_l05Preferred (xs : List Ent) (A : Option Addr) (cap : Nat) (v : Int) (w : World) (hR : Rd encEnt w A xs) (hn : xs.length ≤ 1048576) :
    Calls Tryd.prog 69 #[.slice A xs.length cap, .int .i64 v] w fun e w' => e = .returned (.bool (prefB xs v)) ∧ Ext w w' := by
  by_cases hin : 0 ≤ v ∧ v < xs.length
  · have hb : inB v 0 ((xs.length : Int) - 1) = true := by simp [inB]; omega
    obtain ⟨n, rfl⟩ : ∃ n : Nat, v = n := ⟨v.toNat, by omega⟩
    have hnl : n < xs.length := by omega
    obtain ⟨b, off, hA, hlt, _⟩ := hR n hnl
    subst hA
    obtain ⟨n0, n1, n2, n3⟩ := hR.ent n hnl
    have hv : prefB xs n = (xs[n].see == -1) := by
      unfold prefB
      rw [Int.toNat_natCast, getBang xs n hnl, decide_eq_true hin.1, decide_eq_true hin.2]
      rfl
    rw [hv]
    clear hv
    go_enter Tryd.func69, Tryd.ntmps69
    go_wp2_with fail
    refine Calls.mono (spec_l00In _ _ _ _) ?_
    rintro e w1 ⟨rfl, hb1⟩
    have p1 := hb1.cell n1
    have pl := Nat.lt_of_lt_of_le n3 hb1.size
    simp only [hb]
    go_wp2
    go_ret
    exact ⟨rfl, by ((repeat (first | with_reducible exact Ext.refl _ | with_reducible exact hw | with_reducible exact hb9 | with_reducible exact hb8 | with_reducible exact hb7 | with_reducible exact hb6 | with_reducible exact hb5 | with_reducible exact hb4 | with_reducible exact hb3 | with_reducible exact hb2 | with_reducible exact hb1 | with_reducible refine Ext.alloc ?_ _ | with_reducible refine Ext.drew ?_ | ((with_reducible refine Ext.set ?_ ?_ _); focus (dsimp only; omega)) | with_reducible refine Ext.trans ?_ hb9 | with_reducible refine Ext.trans ?_ hb8 | with_reducible refine Ext.trans ?_ hb7 | with_reducible refine Ext.trans ?_ hb6 | with_reducible refine Ext.trans ?_ hb5 | with_reducible refine Ext.trans ?_ hb4 | with_reducible refine Ext.trans ?_ hb3 | with_reducible refine Ext.trans ?_ hb2 | with_reducible refine Ext.trans ?_ hb1 | with_reducible refine Ext.trans ?_ hw)))⟩
  · have hb : inB v 0 ((xs.length : Int) - 1) = false := by
      simp only [inB, Bool.and_eq_false_iff, decide_eq_false_iff_not]
      omega
    have hv : prefB xs v = false := by
      simp only [prefB, Bool.and_eq_false_iff, decide_eq_false_iff_not]
      omega
    rw [hv]
    clear hv
    go_enter Tryd.func69, Tryd.ntmps69
    go_wp2_with fail
    refine Calls.mono (spec_l00In _ _ _ _) ?_
    rintro e w1 ⟨rfl, hb1⟩
    simp only [hb]
    go_wp2
    go_ret
    exact ⟨rfl, by ((repeat (first | with_reducible exact Ext.refl _ | with_reducible exact hw | with_reducible exact hb9 | with_reducible exact hb8 | with_reducible exact hb7 | with_reducible exact hb6 | with_reducible exact hb5 | with_reducible exact hb4 | with_reducible exact hb3 | with_reducible exact hb2 | with_reducible exact hb1 | with_reducible refine Ext.alloc ?_ _ | with_reducible refine Ext.drew ?_ | ((with_reducible refine Ext.set ?_ ?_ _); focus (dsimp only; omega)) | with_reducible refine Ext.trans ?_ hb9 | with_reducible refine Ext.trans ?_ hb8 | with_reducible refine Ext.trans ?_ hb7 | with_reducible refine Ext.trans ?_ hb6 | with_reducible refine Ext.trans ?_ hb5 | with_reducible refine Ext.trans ?_ hb4 | with_reducible refine Ext.trans ?_ hb3 | with_reducible refine Ext.trans ?_ hb2 | with_reducible refine Ext.trans ?_ hb1 | with_reducible refine Ext.trans ?_ hw)))⟩
set_option maxHeartbeats 2000000 in
theorem spec_l05Ok (xs : List Ent) (A : Option Addr) (cap : Nat) (w : World) (hR : Rd encEnt w A xs) (hok : ∀ x ∈ xs, x.nm.size ≤ 9223372036854775807) (hn : xs.length ≤ 1048576) :
    Calls Tryd.prog 48 #[.slice A xs.length cap] w fun e w' => e = .returned (.bool (catB xs)) ∧ Ext w w' := by
  have hx := @ExtOf.cell
  by_cases h40 : xs.length ≤ 40
  · have hv : catB xs = (standsB xs && topsB xs) := by unfold catB; rw [decide_eq_true h40, Bool.true_and]
    go_enter Tryd.func48, Tryd.ntmps48
    go_wp2
    go_loopg [3] xs.length (fun g i wr => ∃ k : Nat, g = xs.length - k ∧ k ≤ xs.length ∧ i = .int .i64 k ∧ Ext w wr ∧ standsTo xs k = true)
    case atStart => exact ⟨0, by omega, by omega, rfl, Ext.refl _, rfl⟩
    case round =>
      obtain ⟨k, hg, hk, rfl, hw, hQ⟩ := hrel
      by_cases hkl : k < xs.length
      · obtain ⟨b, off, hA, hlt, _⟩ := hR k hkl
        subst hA
        obtain ⟨m0, m1, m2, m3⟩ := (hR.ext hw).ent k hkl
        have hkk := getBang xs k hkl
        have hnm := hok _ (List.getElem_mem hkl)
        have hmiss : standB xs k = false → catB xs = false := fun h => by rw [hv, stands_miss k hkl h, Bool.false_and]
        cases hN : entNameB xs[k].nm with
        | false =>
          have hv2 : catB xs = false := hmiss (by unfold standB; rw [hkk, hN]; rfl)
          clear hQ hv hmiss hok
          go_wp2_with fail
          refine Calls.mono (spec_l05Name xs[k].nm _ hnm) ?_
          rintro e w1 ⟨rfl, hb1⟩
          simp only [hN]
          go_wp2
          go_ret
          exact ⟨by first | rfl | (rw [hv2]; rfl), by ((repeat (first | with_reducible exact Ext.refl _ | with_reducible exact hw | with_reducible exact hb9 | with_reducible exact hb8 | with_reducible exact hb7 | with_reducible exact hb6 | with_reducible exact hb5 | with_reducible exact hb4 | with_reducible exact hb3 | with_reducible exact hb2 | with_reducible exact hb1 | with_reducible refine Ext.alloc ?_ _ | with_reducible refine Ext.drew ?_ | ((with_reducible refine Ext.set ?_ ?_ _); focus (dsimp only; omega)) | with_reducible refine Ext.trans ?_ hb9 | with_reducible refine Ext.trans ?_ hb8 | with_reducible refine Ext.trans ?_ hb7 | with_reducible refine Ext.trans ?_ hb6 | with_reducible refine Ext.trans ?_ hb5 | with_reducible refine Ext.trans ?_ hb4 | with_reducible refine Ext.trans ?_ hb3 | with_reducible refine Ext.trans ?_ hb2 | with_reducible refine Ext.trans ?_ hb1 | with_reducible refine Ext.trans ?_ hw)))⟩
        | true =>
          cases hsee : refB xs xs[k].see with
          | false =>
            have hv2 : catB xs = false := hmiss (by unfold standB; rw [hkk, hsee]; simp)
            have hs1 : (xs[k].see != -1) = true := by
              simp only [refB, Bool.or_eq_false_iff, beq_eq_false_iff_ne] at hsee
              simp [hsee.1]
            have hs2 : prefB xs xs[k].see = false := by
              simp only [refB, Bool.or_eq_false_iff] at hsee
              exact hsee.2
            clear hQ hv hmiss hok
            go_wp2_with fail
            refine Calls.mono (spec_l05Name xs[k].nm _ hnm) ?_
            rintro e w1 ⟨rfl, hb1⟩
            simp only [hN]
            have hw1 : Ext w w1 := by ((repeat (first | with_reducible exact Ext.refl _ | with_reducible exact hw | with_reducible exact hb9 | with_reducible exact hb8 | with_reducible exact hb7 | with_reducible exact hb6 | with_reducible exact hb5 | with_reducible exact hb4 | with_reducible exact hb3 | with_reducible exact hb2 | with_reducible exact hb1 | with_reducible refine Ext.alloc ?_ _ | with_reducible refine Ext.drew ?_ | ((with_reducible refine Ext.set ?_ ?_ _); focus (dsimp only; omega)) | with_reducible refine Ext.trans ?_ hb9 | with_reducible refine Ext.trans ?_ hb8 | with_reducible refine Ext.trans ?_ hb7 | with_reducible refine Ext.trans ?_ hb6 | with_reducible refine Ext.trans ?_ hb5 | with_reducible refine Ext.trans ?_ hb4 | with_reducible refine Ext.trans ?_ hb3 | with_reducible refine Ext.trans ?_ hb2 | with_reducible refine Ext.trans ?_ hb1 | with_reducible refine Ext.trans ?_ hw)))
            obtain ⟨n0, n1, n2, n3⟩ := (hR.ext hw1).ent k hkl
            go_wp2_with fail
            refine Calls.mono (spec_l05Preferred xs _ _ xs[k].see _ (hR.ext hw1) hn) ?_
            rintro e w2 ⟨rfl, hb2⟩
            simp only [hs2]
            go_wp2
            go_ret
            exact ⟨by first | rfl | (rw [hv2]; rfl), hw1.trans hb2⟩
          | true =>
            by_cases q1 : xs[k].see = -1
            · have b1 : (xs[k].see != -1) = false := by simp [q1]
              cases hbr : refB xs xs[k].br with
              | false =>
                have hv2 : catB xs = false := hmiss (by unfold standB; rw [hkk, hbr]; simp)
                have hs1 : (xs[k].br != -1) = true := by
                  simp only [refB, Bool.or_eq_false_iff, beq_eq_false_iff_ne] at hbr
                  simp [hbr.1]
                have hs2 : prefB xs xs[k].br = false := by
                  simp only [refB, Bool.or_eq_false_iff] at hbr
                  exact hbr.2
                clear hQ hv hmiss hok
                go_wp2_with fail
                refine Calls.mono (spec_l05Name xs[k].nm _ hnm) ?_
                rintro e w1 ⟨rfl, hb1⟩
                simp only [hN]
                have hw1 : Ext w w1 := by ((repeat (first | with_reducible exact Ext.refl _ | with_reducible exact hw | with_reducible exact hb9 | with_reducible exact hb8 | with_reducible exact hb7 | with_reducible exact hb6 | with_reducible exact hb5 | with_reducible exact hb4 | with_reducible exact hb3 | with_reducible exact hb2 | with_reducible exact hb1 | with_reducible refine Ext.alloc ?_ _ | with_reducible refine Ext.drew ?_ | ((with_reducible refine Ext.set ?_ ?_ _); focus (dsimp only; omega)) | with_reducible refine Ext.trans ?_ hb9 | with_reducible refine Ext.trans ?_ hb8 | with_reducible refine Ext.trans ?_ hb7 | with_reducible refine Ext.trans ?_ hb6 | with_reducible refine Ext.trans ?_ hb5 | with_reducible refine Ext.trans ?_ hb4 | with_reducible refine Ext.trans ?_ hb3 | with_reducible refine Ext.trans ?_ hb2 | with_reducible refine Ext.trans ?_ hb1 | with_reducible refine Ext.trans ?_ hw)))
                obtain ⟨n0, n1, n2, n3⟩ := (hR.ext hw1).ent k hkl
                go_wp2_with fail
                refine Calls.mono (spec_l05Preferred xs _ _ xs[k].br _ (hR.ext hw1) hn) ?_
                rintro e w2 ⟨rfl, hb2⟩
                simp only [hs2]
                go_wp2
                go_ret
                exact ⟨by first | rfl | (rw [hv2]; rfl), hw1.trans hb2⟩
              | true =>
                have hst : ((xs.take k).any fun y => y.nm.toList == xs[k].nm.toList) = false → standB xs k = true := fun ha => by
                  unfold standB
                  rw [hkk, hN, ha, hsee, hbr]
                  simp [q1]
                by_cases q2 : xs[k].br = -1
                · have b2 : (xs[k].br != -1) = false := by simp [q2]
                  go_wp2_with fail
                  refine Calls.mono (spec_l05Name xs[k].nm _ hnm) ?_
                  rintro e w1 ⟨rfl, hb1⟩
                  simp only [hN]
                  have hwe : Ext w w1 := by ((repeat (first | with_reducible exact Ext.refl _ | with_reducible exact hw | with_reducible exact hb9 | with_reducible exact hb8 | with_reducible exact hb7 | with_reducible exact hb6 | with_reducible exact hb5 | with_reducible exact hb4 | with_reducible exact hb3 | with_reducible exact hb2 | with_reducible exact hb1 | with_reducible refine Ext.alloc ?_ _ | with_reducible refine Ext.drew ?_ | ((with_reducible refine Ext.set ?_ ?_ _); focus (dsimp only; omega)) | with_reducible refine Ext.trans ?_ hb9 | with_reducible refine Ext.trans ?_ hb8 | with_reducible refine Ext.trans ?_ hb7 | with_reducible refine Ext.trans ?_ hb6 | with_reducible refine Ext.trans ?_ hb5 | with_reducible refine Ext.trans ?_ hb4 | with_reducible refine Ext.trans ?_ hb3 | with_reducible refine Ext.trans ?_ hb2 | with_reducible refine Ext.trans ?_ hb1 | with_reducible refine Ext.trans ?_ hw)))
                  obtain ⟨n0, n1, n2, n3⟩ := (hR.ext hwe).ent k hkl
                  clear hb1 hw
                  clear hmiss hok
                  have hst0 := hd hst
                  clear hst hN
                  go_wp2
                  go_loopg [5] k (fun g i w3 => ∃ j : Nat, g = k - j ∧ j ≤ k ∧ i = .int .i64 j ∧ Ext w w3 ∧ ((xs.take k).take j).any (fun y => y.nm.toList == xs[k].nm.toList) = false)
                  case atStart => exact ⟨0, by omega, by omega, rfl, hwe, by rw [List.take_zero]; rfl⟩
                  case round =>
                    obtain ⟨j, hg3, hj, rfl, hw, hP⟩ := hrel
                    obtain ⟨m0, m1, m2, m3⟩ := (hR.ext hw).ent k hkl
                    by_cases hjk : j < k
                    · have hjl : j < (xs.take k).length := by rw [List.length_take]; omega
                      have hjx : (xs.take k)[j] = xs[j] := List.getElem_take
                      obtain ⟨n0, n1, n2, n3⟩ := (hR.ext hw).ent j (by omega)
                      have hT := any_take (fun y : Ent => y.nm.toList == xs[k].nm.toList) (xs.take k) j hjl
                      rw [hP, Bool.false_or, hjx] at hT
                      cases hq : (xs[j].nm.toList == xs[k].nm.toList) with
                      | true =>
                        have hv2 : catB xs = false := by
                          rw [hv, stands_miss k hkl ?_, Bool.false_and]
                          have ha : ((xs.take k).any fun y => y.nm.toList == xs[k].nm.toList) = true := any_hit _ _ j hjl (by rw [hjx]; exact hq)
                          unfold standB
                          rw [hkk, ha]
                          simp
                        clear hT hP hQ hv hst0
                        go_wp2
                        refine wp_region_ext (by kernel_rfl) (by kernel_rfl) ?_
                        repeat (first | go_big_quiet_step (fail) | quiet_step (fail))
                        refine wpQuiet_nil ?_
                        intro w7 hq7
                        have hb7 := ext_of_class hq7
                        clear hq7
                        obtain ⟨hc7, hf7, hz7⟩ := bcell3 hb7
                        try simp at hz7
                        go_wp2
                        go_ret
                        exact ⟨by first | rfl | (rw [hv2]; rfl), by ((repeat (first | with_reducible exact Ext.refl _ | with_reducible exact hw | with_reducible exact hb9 | with_reducible exact hb8 | with_reducible exact hb7 | with_reducible exact hb6 | with_reducible exact hb5 | with_reducible exact hb4 | with_reducible exact hb3 | with_reducible exact hb2 | with_reducible exact hb1 | with_reducible refine Ext.alloc ?_ _ | with_reducible refine Ext.drew ?_ | ((with_reducible refine Ext.set ?_ ?_ _); focus (dsimp only; omega)) | with_reducible refine Ext.trans ?_ hb9 | with_reducible refine Ext.trans ?_ hb8 | with_reducible refine Ext.trans ?_ hb7 | with_reducible refine Ext.trans ?_ hb6 | with_reducible refine Ext.trans ?_ hb5 | with_reducible refine Ext.trans ?_ hb4 | with_reducible refine Ext.trans ?_ hb3 | with_reducible refine Ext.trans ?_ hb2 | with_reducible refine Ext.trans ?_ hb1 | with_reducible refine Ext.trans ?_ hw)))⟩
                      | false =>
                        have hT2 := hd (hT.trans hq)
                        clear hT hP hv hQ hst0
                        go_wp2
                        refine wp_region_ext (by kernel_rfl) (by kernel_rfl) ?_
                        repeat (first | go_big_quiet_step (fail) | quiet_step (fail))
                        refine wpQuiet_nil ?_
                        intro w7 hq7
                        have hb7 := ext_of_class hq7
                        clear hq7
                        obtain ⟨hc7, hf7, hz7⟩ := bcell3 hb7
                        try simp at hz7
                        go_wp2
                        go_roundg (k - (j + 1))
                        case rel => exact ⟨j + 1, rfl, hjk, rfl, by ((repeat (first | with_reducible exact Ext.refl _ | with_reducible exact hw | with_reducible exact hb9 | with_reducible exact hb8 | with_reducible exact hb7 | with_reducible exact hb6 | with_reducible exact hb5 | with_reducible exact hb4 | with_reducible exact hb3 | with_reducible exact hb2 | with_reducible exact hb1 | with_reducible refine Ext.alloc ?_ _ | with_reducible refine Ext.drew ?_ | ((with_reducible refine Ext.set ?_ ?_ _); focus (dsimp only; omega)) | with_reducible refine Ext.trans ?_ hb9 | with_reducible refine Ext.trans ?_ hb8 | with_reducible refine Ext.trans ?_ hb7 | with_reducible refine Ext.trans ?_ hb6 | with_reducible refine Ext.trans ?_ hb5 | with_reducible refine Ext.trans ?_ hb4 | with_reducible refine Ext.trans ?_ hb3 | with_reducible refine Ext.trans ?_ hb2 | with_reducible refine Ext.trans ?_ hb1 | with_reducible refine Ext.trans ?_ hw))), hT2.out⟩
                        case measure => omega
                    · obtain rfl : j = k := by omega
                      rw [List.take_of_length_le (by rw [List.length_take]; omega)] at hP
                      have hQ2 := hd (show standsTo xs (j + 1) = true by
                        rw [standsTo_succ, hQ, Bool.true_and]
                        exact hst0.out hP)
                      clear hP hQ hst0
                      go_wp2
                      go_roundg (xs.length - (j + 1))
                      case rel => exact ⟨j + 1, rfl, hkl, rfl, hw, hQ2.out⟩
                      case measure => omega
                · have b2 : (xs[k].br != -1) = true := by simp [q2]
                  have hs2 : prefB xs xs[k].br = true := by
                    simp only [refB, Bool.or_eq_true, beq_iff_eq] at hbr
                    exact hbr.resolve_left q2
                  go_wp2_with fail
                  refine Calls.mono (spec_l05Name xs[k].nm _ hnm) ?_
                  rintro e w1 ⟨rfl, hb1⟩
                  simp only [hN]
                  have hw1 : Ext w w1 := by ((repeat (first | with_reducible exact Ext.refl _ | with_reducible exact hw | with_reducible exact hb9 | with_reducible exact hb8 | with_reducible exact hb7 | with_reducible exact hb6 | with_reducible exact hb5 | with_reducible exact hb4 | with_reducible exact hb3 | with_reducible exact hb2 | with_reducible exact hb1 | with_reducible refine Ext.alloc ?_ _ | with_reducible refine Ext.drew ?_ | ((with_reducible refine Ext.set ?_ ?_ _); focus (dsimp only; omega)) | with_reducible refine Ext.trans ?_ hb9 | with_reducible refine Ext.trans ?_ hb8 | with_reducible refine Ext.trans ?_ hb7 | with_reducible refine Ext.trans ?_ hb6 | with_reducible refine Ext.trans ?_ hb5 | with_reducible refine Ext.trans ?_ hb4 | with_reducible refine Ext.trans ?_ hb3 | with_reducible refine Ext.trans ?_ hb2 | with_reducible refine Ext.trans ?_ hb1 | with_reducible refine Ext.trans ?_ hw)))
                  obtain ⟨n0, n1, n2, n3⟩ := (hR.ext hw1).ent k hkl
                  go_wp2_with fail
                  refine Calls.mono (spec_l05Preferred xs _ _ xs[k].br _ (hR.ext hw1) hn) ?_
                  rintro e w2 ⟨rfl, hb2⟩
                  simp only [hs2]
                  have hwe : Ext w w2 := hw1.trans hb2
                  clear hb1 hw hb2 hw1
                  clear hmiss hok
                  have hst0 := hd hst
                  clear hst hN
                  go_wp2
                  go_loopg [5] k (fun g i w3 => ∃ j : Nat, g = k - j ∧ j ≤ k ∧ i = .int .i64 j ∧ Ext w w3 ∧ ((xs.take k).take j).any (fun y => y.nm.toList == xs[k].nm.toList) = false)
                  case atStart => exact ⟨0, by omega, by omega, rfl, hwe, by rw [List.take_zero]; rfl⟩
                  case round =>
                    obtain ⟨j, hg3, hj, rfl, hw, hP⟩ := hrel
                    obtain ⟨m0, m1, m2, m3⟩ := (hR.ext hw).ent k hkl
                    by_cases hjk : j < k
                    · have hjl : j < (xs.take k).length := by rw [List.length_take]; omega
                      have hjx : (xs.take k)[j] = xs[j] := List.getElem_take
                      obtain ⟨n0, n1, n2, n3⟩ := (hR.ext hw).ent j (by omega)
                      have hT := any_take (fun y : Ent => y.nm.toList == xs[k].nm.toList) (xs.take k) j hjl
                      rw [hP, Bool.false_or, hjx] at hT
                      cases hq : (xs[j].nm.toList == xs[k].nm.toList) with
                      | true =>
                        have hv2 : catB xs = false := by
                          rw [hv, stands_miss k hkl ?_, Bool.false_and]
                          have ha : ((xs.take k).any fun y => y.nm.toList == xs[k].nm.toList) = true := any_hit _ _ j hjl (by rw [hjx]; exact hq)
                          unfold standB
                          rw [hkk, ha]
                          simp
                        clear hT hP hQ hv hst0
                        go_wp2
                        refine wp_region_ext (by kernel_rfl) (by kernel_rfl) ?_
                        repeat (first | go_big_quiet_step (fail) | quiet_step (fail))
                        refine wpQuiet_nil ?_
                        intro w7 hq7
                        have hb7 := ext_of_class hq7
                        clear hq7
                        obtain ⟨hc7, hf7, hz7⟩ := bcell3 hb7
                        try simp at hz7
                        go_wp2
                        go_ret
                        exact ⟨by first | rfl | (rw [hv2]; rfl), by ((repeat (first | with_reducible exact Ext.refl _ | with_reducible exact hw | with_reducible exact hb9 | with_reducible exact hb8 | with_reducible exact hb7 | with_reducible exact hb6 | with_reducible exact hb5 | with_reducible exact hb4 | with_reducible exact hb3 | with_reducible exact hb2 | with_reducible exact hb1 | with_reducible refine Ext.alloc ?_ _ | with_reducible refine Ext.drew ?_ | ((with_reducible refine Ext.set ?_ ?_ _); focus (dsimp only; omega)) | with_reducible refine Ext.trans ?_ hb9 | with_reducible refine Ext.trans ?_ hb8 | with_reducible refine Ext.trans ?_ hb7 | with_reducible refine Ext.trans ?_ hb6 | with_reducible refine Ext.trans ?_ hb5 | with_reducible refine Ext.trans ?_ hb4 | with_reducible refine Ext.trans ?_ hb3 | with_reducible refine Ext.trans ?_ hb2 | with_reducible refine Ext.trans ?_ hb1 | with_reducible refine Ext.trans ?_ hw)))⟩
                      | false =>
                        have hT2 := hd (hT.trans hq)
                        clear hT hP hv hQ hst0
                        go_wp2
                        refine wp_region_ext (by kernel_rfl) (by kernel_rfl) ?_
                        repeat (first | go_big_quiet_step (fail) | quiet_step (fail))
                        refine wpQuiet_nil ?_
                        intro w7 hq7
                        have hb7 := ext_of_class hq7
                        clear hq7
                        obtain ⟨hc7, hf7, hz7⟩ := bcell3 hb7
                        try simp at hz7
                        go_wp2
                        go_roundg (k - (j + 1))
                        case rel => exact ⟨j + 1, rfl, hjk, rfl, by ((repeat (first | with_reducible exact Ext.refl _ | with_reducible exact hw | with_reducible exact hb9 | with_reducible exact hb8 | with_reducible exact hb7 | with_reducible exact hb6 | with_reducible exact hb5 | with_reducible exact hb4 | with_reducible exact hb3 | with_reducible exact hb2 | with_reducible exact hb1 | with_reducible refine Ext.alloc ?_ _ | with_reducible refine Ext.drew ?_ | ((with_reducible refine Ext.set ?_ ?_ _); focus (dsimp only; omega)) | with_reducible refine Ext.trans ?_ hb9 | with_reducible refine Ext.trans ?_ hb8 | with_reducible refine Ext.trans ?_ hb7 | with_reducible refine Ext.trans ?_ hb6 | with_reducible refine Ext.trans ?_ hb5 | with_reducible refine Ext.trans ?_ hb4 | with_reducible refine Ext.trans ?_ hb3 | with_reducible refine Ext.trans ?_ hb2 | with_reducible refine Ext.trans ?_ hb1 | with_reducible refine Ext.trans ?_ hw))), hT2.out⟩
                        case measure => omega
                    · obtain rfl : j = k := by omega
                      rw [List.take_of_length_le (by rw [List.length_take]; omega)] at hP
                      have hQ2 := hd (show standsTo xs (j + 1) = true by
                        rw [standsTo_succ, hQ, Bool.true_and]
                        exact hst0.out hP)
                      clear hP hQ hst0
                      go_wp2
                      go_roundg (xs.length - (j + 1))
                      case rel => exact ⟨j + 1, rfl, hkl, rfl, hw, hQ2.out⟩
                      case measure => omega
            · have b1 : (xs[k].see != -1) = true := by simp [q1]
              have hs2 : prefB xs xs[k].see = true := by
                simp only [refB, Bool.or_eq_true, beq_iff_eq] at hsee
                exact hsee.resolve_left q1
              by_cases q2 : xs[k].br = -1
              · have b2 : (xs[k].br != -1) = false := by simp [q2]
                have hbr : refB xs xs[k].br = true := by rw [q2]; rfl
                have hst : ((xs.take k).any fun y => y.nm.toList == xs[k].nm.toList) = false → standB xs k = true := fun ha => by
                  unfold standB
                  rw [hkk, hN, ha, hsee, hbr]
                  simp [q2]
                go_wp2_with fail
                refine Calls.mono (spec_l05Name xs[k].nm _ hnm) ?_
                rintro e w1 ⟨rfl, hb1⟩
                simp only [hN]
                have hw1 : Ext w w1 := by ((repeat (first | with_reducible exact Ext.refl _ | with_reducible exact hw | with_reducible exact hb9 | with_reducible exact hb8 | with_reducible exact hb7 | with_reducible exact hb6 | with_reducible exact hb5 | with_reducible exact hb4 | with_reducible exact hb3 | with_reducible exact hb2 | with_reducible exact hb1 | with_reducible refine Ext.alloc ?_ _ | with_reducible refine Ext.drew ?_ | ((with_reducible refine Ext.set ?_ ?_ _); focus (dsimp only; omega)) | with_reducible refine Ext.trans ?_ hb9 | with_reducible refine Ext.trans ?_ hb8 | with_reducible refine Ext.trans ?_ hb7 | with_reducible refine Ext.trans ?_ hb6 | with_reducible refine Ext.trans ?_ hb5 | with_reducible refine Ext.trans ?_ hb4 | with_reducible refine Ext.trans ?_ hb3 | with_reducible refine Ext.trans ?_ hb2 | with_reducible refine Ext.trans ?_ hb1 | with_reducible refine Ext.trans ?_ hw)))
                obtain ⟨n0, n1, n2, n3⟩ := (hR.ext hw1).ent k hkl
                go_wp2_with fail
                refine Calls.mono (spec_l05Preferred xs _ _ xs[k].see _ (hR.ext hw1) hn) ?_
                rintro e w2 ⟨rfl, hb2⟩
                simp only [hs2]
                have hwe : Ext w w2 := hw1.trans hb2
                have hw2 := hwe
                clear n0 n1 n2 n3
                obtain ⟨n0, n1, n2, n3⟩ := (hR.ext hw2).ent k hkl
                clear hb1 hw hb2 hw1
                clear hmiss hok
                have hst0 := hd hst
                clear hst hN
                go_wp2
                go_loopg [5] k (fun g i w3 => ∃ j : Nat, g = k - j ∧ j ≤ k ∧ i = .int .i64 j ∧ Ext w w3 ∧ ((xs.take k).take j).any (fun y => y.nm.toList == xs[k].nm.toList) = false)
                case atStart => exact ⟨0, by omega, by omega, rfl, hwe, by rw [List.take_zero]; rfl⟩
                case round =>
                  obtain ⟨j, hg3, hj, rfl, hw, hP⟩ := hrel
                  obtain ⟨m0, m1, m2, m3⟩ := (hR.ext hw).ent k hkl
                  by_cases hjk : j < k
                  · have hjl : j < (xs.take k).length := by rw [List.length_take]; omega
                    have hjx : (xs.take k)[j] = xs[j] := List.getElem_take
                    obtain ⟨n0, n1, n2, n3⟩ := (hR.ext hw).ent j (by omega)
                    have hT := any_take (fun y : Ent => y.nm.toList == xs[k].nm.toList) (xs.take k) j hjl
                    rw [hP, Bool.false_or, hjx] at hT
                    cases hq : (xs[j].nm.toList == xs[k].nm.toList) with
                    | true =>
                      have hv2 : catB xs = false := by
                        rw [hv, stands_miss k hkl ?_, Bool.false_and]
                        have ha : ((xs.take k).any fun y => y.nm.toList == xs[k].nm.toList) = true := any_hit _ _ j hjl (by rw [hjx]; exact hq)
                        unfold standB
                        rw [hkk, ha]
                        simp
                      clear hT hP hQ hv hst0
                      go_wp2
                      refine wp_region_ext (by kernel_rfl) (by kernel_rfl) ?_
                      repeat (first | go_big_quiet_step (fail) | quiet_step (fail))
                      refine wpQuiet_nil ?_
                      intro w7 hq7
                      have hb7 := ext_of_class hq7
                      clear hq7
                      obtain ⟨hc7, hf7, hz7⟩ := bcell3 hb7
                      try simp at hz7
                      go_wp2
                      go_ret
                      exact ⟨by first | rfl | (rw [hv2]; rfl), by ((repeat (first | with_reducible exact Ext.refl _ | with_reducible exact hw | with_reducible exact hb9 | with_reducible exact hb8 | with_reducible exact hb7 | with_reducible exact hb6 | with_reducible exact hb5 | with_reducible exact hb4 | with_reducible exact hb3 | with_reducible exact hb2 | with_reducible exact hb1 | with_reducible refine Ext.alloc ?_ _ | with_reducible refine Ext.drew ?_ | ((with_reducible refine Ext.set ?_ ?_ _); focus (dsimp only; omega)) | with_reducible refine Ext.trans ?_ hb9 | with_reducible refine Ext.trans ?_ hb8 | with_reducible refine Ext.trans ?_ hb7 | with_reducible refine Ext.trans ?_ hb6 | with_reducible refine Ext.trans ?_ hb5 | with_reducible refine Ext.trans ?_ hb4 | with_reducible refine Ext.trans ?_ hb3 | with_reducible refine Ext.trans ?_ hb2 | with_reducible refine Ext.trans ?_ hb1 | with_reducible refine Ext.trans ?_ hw)))⟩
                    | false =>
                      have hT2 := hd (hT.trans hq)
                      clear hT hP hv hQ hst0
                      go_wp2
                      refine wp_region_ext (by kernel_rfl) (by kernel_rfl) ?_
                      repeat (first | go_big_quiet_step (fail) | quiet_step (fail))
                      refine wpQuiet_nil ?_
                      intro w7 hq7
                      have hb7 := ext_of_class hq7
                      clear hq7
                      obtain ⟨hc7, hf7, hz7⟩ := bcell3 hb7
                      try simp at hz7
                      go_wp2
                      go_roundg (k - (j + 1))
                      case rel => exact ⟨j + 1, rfl, hjk, rfl, by ((repeat (first | with_reducible exact Ext.refl _ | with_reducible exact hw | with_reducible exact hb9 | with_reducible exact hb8 | with_reducible exact hb7 | with_reducible exact hb6 | with_reducible exact hb5 | with_reducible exact hb4 | with_reducible exact hb3 | with_reducible exact hb2 | with_reducible exact hb1 | with_reducible refine Ext.alloc ?_ _ | with_reducible refine Ext.drew ?_ | ((with_reducible refine Ext.set ?_ ?_ _); focus (dsimp only; omega)) | with_reducible refine Ext.trans ?_ hb9 | with_reducible refine Ext.trans ?_ hb8 | with_reducible refine Ext.trans ?_ hb7 | with_reducible refine Ext.trans ?_ hb6 | with_reducible refine Ext.trans ?_ hb5 | with_reducible refine Ext.trans ?_ hb4 | with_reducible refine Ext.trans ?_ hb3 | with_reducible refine Ext.trans ?_ hb2 | with_reducible refine Ext.trans ?_ hb1 | with_reducible refine Ext.trans ?_ hw))), hT2.out⟩
                      case measure => omega
                  · obtain rfl : j = k := by omega
                    rw [List.take_of_length_le (by rw [List.length_take]; omega)] at hP
                    have hQ2 := hd (show standsTo xs (j + 1) = true by
                      rw [standsTo_succ, hQ, Bool.true_and]
                      exact hst0.out hP)
                    clear hP hQ hst0
                    go_wp2
                    go_roundg (xs.length - (j + 1))
                    case rel => exact ⟨j + 1, rfl, hkl, rfl, hw, hQ2.out⟩
                    case measure => omega
              · have hv2 : catB xs = false := hmiss (by unfold standB; rw [hkk]; simp [q1, q2])
                have b2 : (xs[k].br != -1) = true := by simp [q2]
                clear hQ hv hmiss hok
                go_wp2_with fail
                refine Calls.mono (spec_l05Name xs[k].nm _ hnm) ?_
                rintro e w1 ⟨rfl, hb1⟩
                simp only [hN]
                have hw1 : Ext w w1 := by ((repeat (first | with_reducible exact Ext.refl _ | with_reducible exact hw | with_reducible exact hb9 | with_reducible exact hb8 | with_reducible exact hb7 | with_reducible exact hb6 | with_reducible exact hb5 | with_reducible exact hb4 | with_reducible exact hb3 | with_reducible exact hb2 | with_reducible exact hb1 | with_reducible refine Ext.alloc ?_ _ | with_reducible refine Ext.drew ?_ | ((with_reducible refine Ext.set ?_ ?_ _); focus (dsimp only; omega)) | with_reducible refine Ext.trans ?_ hb9 | with_reducible refine Ext.trans ?_ hb8 | with_reducible refine Ext.trans ?_ hb7 | with_reducible refine Ext.trans ?_ hb6 | with_reducible refine Ext.trans ?_ hb5 | with_reducible refine Ext.trans ?_ hb4 | with_reducible refine Ext.trans ?_ hb3 | with_reducible refine Ext.trans ?_ hb2 | with_reducible refine Ext.trans ?_ hb1 | with_reducible refine Ext.trans ?_ hw)))
                obtain ⟨n0, n1, n2, n3⟩ := (hR.ext hw1).ent k hkl
                go_wp2_with fail
                refine Calls.mono (spec_l05Preferred xs _ _ xs[k].see _ (hR.ext hw1) hn) ?_
                rintro e w2 ⟨rfl, hb2⟩
                simp only [hs2]
                have hw2 : Ext w w2 := hw1.trans hb2
                clear n0 n1 n2 n3
                obtain ⟨n0, n1, n2, n3⟩ := (hR.ext hw2).ent k hkl
                go_wp2
                go_ret
                exact ⟨by first | rfl | (rw [hv2]; rfl), hw2⟩
      · obtain rfl : k = xs.length := by omega
        have hS : standsB xs = true := hQ
        have hvt : catB xs = topsB xs := by rw [hv, hS, Bool.true_and]
        clear hv hQ
        go_wp2
        go_loopg [6] xs.length (fun g i wr => ∃ k : Nat, g = xs.length - k ∧ k ≤ xs.length ∧ i = .int .i64 k ∧ Ext w wr ∧ topsTo xs k = true)
        case atStart => exact ⟨0, by omega, by omega, rfl, hw, rfl⟩
        case round =>
          obtain ⟨k, hg, hk, rfl, hw, hQ⟩ := hrel
          by_cases hkl : k < xs.length
          · go_wp2
            go_loopg [7, 8] xs.length (fun g a i w3 => ∃ j : Nat, ∃ n : Nat, g = xs.length - j ∧ j ≤ xs.length ∧ i = .int .i64 j ∧ a = .int .i64 n ∧ n < xs.length ∧ climb xs j k = n ∧ Ext w w3)
            case atStart => exact ⟨0, k, by omega, by omega, rfl, rfl, hkl, rfl, hw⟩
            case round =>
              obtain ⟨j, n, hg3, hj, rfl, rfl, hnl, hcl, hw⟩ := hrel
              have hcl2 := hd hcl
              clear hcl
              obtain ⟨b, off, hA, hlt, _⟩ := hR n hnl
              subst hA
              obtain ⟨n0, n1, n2, n3⟩ := (hR.ext hw).ent n hnl
              have hsu : climb xs (j + 1) k = xs[n].br := by
                rw [climb_succ, hcl2.out]
                unfold stepUp
                rw [if_pos (by omega), Int.toNat_natCast, getBang xs n hnl]
              have hsu2 := hd hsu
              by_cases q : xs[n].br = -1
              · have hlow : climb xs xs.length k < 0 := climb_short hS k (.inr ⟨by omega, by omega⟩) (j + 1) (by rw [hsu, q]; decide)
                have hQ2 := hd (topsTo_succ xs k hQ hlow)
                clear hsu hQ hlow
                go_wp2
                go_roundg (xs.length - (k + 1))
                case rel => exact ⟨k + 1, rfl, hkl, rfl, hw, hQ2.out⟩
                case measure => omega
              · have hq : (xs[n].br != -1) = true := by simp [q]
                by_cases hjl : j = xs.length
                · have hv2 : catB xs = false := by
                    rw [hvt]
                    refine tops_miss k hkl ?_
                    rw [← hjl, hcl2.out]
                    omega
                  clear hsu hQ hvt
                  subst hjl
                  go_wp2
                  go_ret
                  exact ⟨by first | rfl | (rw [hv2]; rfl), hw⟩
                · have hin := br_in hS n hnl
                  rw [getBang xs n hnl] at hin
                  obtain ⟨n', hn'⟩ : ∃ n' : Nat, xs[n].br = n' := ⟨xs[n].br.toNat, by unfold InC at hin; omega⟩
                  have hnl' : n' < xs.length := by unfold InC at hin; omega
                  rw [hn'] at n2 hsu2 hq
                  clear hsu
                  go_wp2
                  go_roundg (xs.length - (j + 1))
                  case rel => exact ⟨j + 1, n', rfl, by omega, rfl, rfl, hnl', hsu2.out, hw⟩
                  case measure => omega
          · obtain rfl : k = xs.length := by omega
            have hv2 : catB xs = true := hvt.trans hQ
            clear hQ hvt
            go_wp2
            go_ret
            exact ⟨by first | rfl | (rw [hv2]; rfl), hw⟩
  · have hv : catB xs = false := by unfold catB; rw [decide_eq_false h40, Bool.false_and]
    go_enter Tryd.func48, Tryd.ntmps48
    go_wp2
    go_ret
    exact ⟨by first | rfl | (rw [hv]; rfl), Ext.refl _⟩
