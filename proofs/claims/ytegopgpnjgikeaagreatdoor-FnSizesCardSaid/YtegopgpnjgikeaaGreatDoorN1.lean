/-
  Contracts of the functions that ask whether a text is a name.
-/
import Derived.Test.YtegopgpnjgikeaaGreatDoorC1
import Derived.Test.YtegopgpnjgikeaaGreatDoorT1
set_option linter.unusedVariables false
set_option linter.unusedSimpArgs false
namespace Go.Proofs.YtegopgpnjgikeaaGreatDoor
open Go.RowKit
def isLow (c : UInt8) : Bool := decide (97 ≤ c.toNat) && decide (c.toNat ≤ 122)
abbrev lowSet : ByteArray := ⟨#[97, 98, 99, 100, 101, 102, 103, 104, 105, 106, 107, 108, 109, 110, 111, 112, 113, 114, 115, 116, 117, 118, 119, 120, 121, 122]⟩
theorem inS_low (c : UInt8) : inS lowSet.data.toList c = isLow c := by
  have h : ∀ n : Fin 256, inS lowSet.data.toList (UInt8.ofNat n.val) = isLow (UInt8.ofNat n.val) := by decide +kernel
  have := h ⟨c.toNat, c.toNat_lt⟩
  simpa using this
/-- Is a text a name? -/
def isNameB (s : ByteArray) : Bool := decide (1 ≤ s.size) && (decide (s.size ≤ 16) && s.data.toList.all isLow)
set_option maxRecDepth 100000 in
set_option maxHeartbeats 400000 in
theorem impl_isName (s : ByteArray) (w : World) (hs : s.size ≤ 9223372036854775807) :
    Calls Tryz.prog 55 #[.string s] w fun e w' => e = .returned (.bool (isNameB s)) ∧ Ext w w' := by
  by_cases h1 : 1 ≤ s.size
  · by_cases h2 : s.size ≤ 16
    · have hv : isNameB s = s.data.toList.all isLow := by simp [isNameB, h1, h2]
      go_enter Tryz.func55, Tryz.ntmps55
      go_wp2_with fail
      refine Calls.mono (strings_Trim s lowSet _ hs (by decide) (by decide) (by decide)) ?_
      rintro e w1 ⟨t, rfl, ht, hz, hb1⟩
      have hall : t.toList.isEmpty = s.data.toList.all isLow := by
        rw [ByteArray.toList_eq, ht, Bool.eq_iff_iff, List.isEmpty_iff, trimLR_nil_iff]
        rw [List.all_eq_true, List.all_eq_true]
        exact ⟨fun h x hx => (inS_low x).symm.trans (h x hx), fun h x hx => (inS_low x).trans (h x hx)⟩
      rw [← hall] at hv
      clear hall ht
      cases hq : t.toList.isEmpty
      all_goals
        rw [hq] at hv
        go_wp2
        go_ret
        exact ⟨by first | rfl | (rw [hv]; rfl), hb1⟩
    · have hv : isNameB s = false := by simp [isNameB, h2]
      go_enter Tryz.func55, Tryz.ntmps55
      go_wp2
      go_ret
      exact ⟨by first | rfl | (rw [hv]; rfl), Ext.refl _⟩
  · have hv : isNameB s = false := by simp [isNameB, h1]
    go_enter Tryz.func55, Tryz.ntmps55
    go_wp2
    go_ret
    exact ⟨by first | rfl | (rw [hv]; rfl), Ext.refl _⟩
