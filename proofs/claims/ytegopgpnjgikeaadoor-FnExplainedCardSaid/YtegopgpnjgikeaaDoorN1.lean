/-
  Contracts of the functions that ask whether a text is a name.
-/
import Derived.Test.YtegopgpnjgikeaaDoorC1
import Derived.Test.YtegopgpnjgikeaaDoorT1
set_option linter.unusedVariables false
set_option linter.unusedSimpArgs false
namespace Go.Proofs.YtegopgpnjgikeaaDoor
open Go.RowKit
def isLow (c : UInt8) : Bool := decide (97 ≤ c.toNat) && decide (c.toNat ≤ 122)
abbrev lowSet : ByteArray := ⟨#[97, 98, 99, 100, 101, 102, 103, 104, 105, 106, 107, 108, 109, 110, 111, 112, 113, 114, 115, 116, 117, 118, 119, 120, 121, 122]⟩
theorem inS_low (c : UInt8) : inS lowSet.data.toList c = isLow c := by
  have h : ∀ n : Fin 256, inS lowSet.data.toList (UInt8.ofNat n.val) = isLow (UInt8.ofNat n.val) := by decide +kernel
  have := h ⟨c.toNat, c.toNat_lt⟩
  simpa using this
/-- Is a text a name? -/
def isNameB (s : ByteArray) : Bool := decide (1 ≤ s.size) && (decide (s.size ≤ 16) && s.data.toList.all isLow)
set_option maxRecDepth 100000 in
set_option maxHeartbeats 400000 in
theorem impl_isName (s : ByteArray) (w : World) (hs : s.size ≤ 9223372036854775807) :
    Calls Tryd.prog 103 #[.string s] w fun e w' => e = .returned (.bool (isNameB s)) ∧ Ext w w' := by
  by_cases h1 : 1 ≤ s.size
  · by_cases h2 : s.size ≤ 16
    · have hv : isNameB s = s.data.toList.all isLow := by simp [isNameB, h1, h2]
      go_enter Tryd.func103, Tryd.ntmps103
      go_wp2_with fail
      refine Calls.mono (strings_Trim s lowSet _ hs (by decide) (by decide) (by decide)) ?_
      rintro e w1 ⟨t, rfl, ht, hz, hb1⟩
      have hall : t.toList.isEmpty = s.data.toList.all isLow := by
        rw [ByteArray.toList_eq, ht, Bool.eq_iff_iff, List.isEmpty_iff, trimLR_nil_iff]
        rw [List.all_eq_true, List.all_eq_true]
        exact ⟨fun h x hx => (inS_low x).symm.trans (h x hx), fun h x hx => (inS_low x).trans (h x hx)⟩
      rw [← hall] at hv
      clear hall ht
      cases hq : t.toList.isEmpty
      all_goals
        rw [hq] at hv
        go_wp2
        go_ret
        exact ⟨by first | rfl | (rw [hv]; rfl), hb1⟩
    · have hv : isNameB s = false := by simp [isNameB, h2]
      go_enter Tryd.func103, Tryd.ntmps103
      go_wp2
      go_ret
      exact ⟨by first | rfl | (rw [hv]; rfl), Ext.refl _⟩
  · have hv : isNameB s = false := by simp [isNameB, h1]
    go_enter Tryd.func103, Tryd.ntmps103
    go_wp2
    go_ret
    exact ⟨by first | rfl | (rw [hv]; rfl), Ext.refl _⟩
set_option maxHeartbeats 400000 in
theorem spec_l01Name (s : ByteArray) (w : World) (hs : s.size ≤ 9223372036854775807) :
    Calls Tryd.prog 105 #[.string s] w fun e w' => e = .returned (.bool (isNameB s)) ∧ Ext w w' := by
  go_enter Tryd.func105, Tryd.ntmps105
  go_wp2
  go_loopg [3] s.size (fun g i wr => ∃ k : Nat, g = s.size - k ∧ k ≤ s.size ∧ i = .int .i64 k ∧ Ext w wr ∧ (s.data.toList.take k).all isLow = true)
  case atStart => exact ⟨0, by omega, by omega, rfl, Ext.refl _, by rw [List.take_zero]; rfl⟩
  case round =>
    obtain ⟨k, hg, hk, rfl, hw, hQ⟩ := hrel
    by_cases hkl : k < s.size
    · have hk2 : k < s.data.toList.length := hkl
      have hT := all_take isLow s.data.toList k hk2
      rw [hQ, Bool.true_and, show s.data.toList[k] = s[k] from rfl] at hT
      by_cases ha : s[k].toNat < 97
      · have hv : isNameB s = false := by
          have := all_miss isLow s.data.toList k hk2 (by rw [show s.data.toList[k] = s[k] from rfl, isLow, Bool.and_eq_false_iff, decide_eq_false_iff_not, decide_eq_false_iff_not]; omega)
          simp [isNameB, this]
        have d1 : ((s[k].toNat : Int) < 97) = True := by simp; omega
        clear hT hQ
        go_wp2
        go_ret
        exact ⟨by first | rfl | (rw [hv]; rfl), hw⟩
      · by_cases hb : 122 < s[k].toNat
        · have hv : isNameB s = false := by
            have := all_miss isLow s.data.toList k hk2 (by rw [show s.data.toList[k] = s[k] from rfl, isLow, Bool.and_eq_false_iff, decide_eq_false_iff_not, decide_eq_false_iff_not]; omega)
            simp [isNameB, this]
          have d1 : ((s[k].toNat : Int) < 97) = False := by simp; omega
          have d2 : ((122 : Int) < (s[k].toNat : Int)) = True := by simp; omega
          clear hT hQ
          go_wp2
          go_ret
          exact ⟨by first | rfl | (rw [hv]; rfl), hw⟩
        · have hT2 : (s.data.toList.take (k + 1)).all isLow = true := by rw [hT]; simp [isLow]; omega
          have d1 : ((s[k].toNat : Int) < 97) = False := by simp; omega
          have d2 : ((122 : Int) < (s[k].toNat : Int)) = False := by simp; omega
          have hT2' := hd hT2
          clear hT hT2 hQ
          go_wp2
          go_roundg (s.size - (k + 1))
          case rel => exact ⟨k + 1, rfl, hkl, rfl, hw, hT2'.out⟩
          case measure => omega
    · obtain rfl : k = s.size := by omega
      rw [show s.data.toList.take s.size = s.data.toList from List.take_length] at hQ
      have hv : isNameB s = inB s.size 1 16 := by
        simp only [isNameB, hQ, Bool.and_true, inB]
        congr 1 <;> rw [decide_eq_decide] <;> omega
      clear hQ
      go_wp2_with fail
      refine Calls.mono (spec_l00In _ _ _ _) ?_
      rintro e w1 ⟨rfl, hb1⟩
      go_wp2
      go_ret
      exact ⟨by first | rfl | (rw [hv]; rfl), by ((repeat (first | with_reducible exact Ext.refl _ | with_reducible exact hw | with_reducible exact hb9 | with_reducible exact hb8 | with_reducible exact hb7 | with_reducible exact hb6 | with_reducible exact hb5 | with_reducible exact hb4 | with_reducible exact hb3 | with_reducible exact hb2 | with_reducible exact hb1 | with_reducible refine Ext.alloc ?_ _ | with_reducible refine Ext.drew ?_ | ((with_reducible refine Ext.set ?_ ?_ _); focus (dsimp only; omega)) | with_reducible refine Ext.trans ?_ hb9 | with_reducible refine Ext.trans ?_ hb8 | with_reducible refine Ext.trans ?_ hb7 | with_reducible refine Ext.trans ?_ hb6 | with_reducible refine Ext.trans ?_ hb5 | with_reducible refine Ext.trans ?_ hb4 | with_reducible refine Ext.trans ?_ hb3 | with_reducible refine Ext.trans ?_ hb2 | with_reducible refine Ext.trans ?_ hb1 | with_reducible refine Ext.trans ?_ hw)))⟩
