/-
  Cards as data, with no program in sight.
-/
import Derived.Test.YtegopgpnjgikeaaGreatDoorN1
set_option linter.unusedVariables false
namespace Go.Proofs.YtegopgpnjgikeaaGreatDoor
open Go.RowKit
structure Crd where
  nm : ByteArray
  m : Mask
instance : Inhabited Crd := ⟨⟨⟨#[]⟩, 0⟩⟩
def Crd.z : Crd := ⟨⟨#[]⟩, 0⟩
def crdB (x y : Crd) : Bool := (x.nm.toList == y.nm.toList) && meqB x.m y.m
theorem crdB_refl (x : Crd) : crdB x x = true := by simp [crdB, meqB]
def isCardB (c : Crd) : Bool := isNameB c.nm && isMaskB c.m
/-- A mask that is worn. -/
def wornM (t f m : Mask) : Mask := mless (mjoin m t) f
/-- What WearCard returns. -/
def wearF (c : Crd) (t f : Mask) : Crd × Int := if (isCardB c && isWearB t f) = true then (⟨c.nm, wornM t f c.m⟩, 0) else (Crd.z, 1)
theorem wearF_hit {c : Crd} {t f : Mask} (h1 : isCardB c = true) (h2 : isWearB t f = true) : wearF c t f = (⟨c.nm, wornM t f c.m⟩, 0) := by rw [wearF, h1, h2]; rfl
theorem wearF_miss1 {c : Crd} {t f : Mask} (h1 : isCardB c = false) : wearF c t f = (Crd.z, 1) := by rw [wearF, h1]; rfl
theorem wearF_miss2 {c : Crd} {t f : Mask} (h2 : isWearB t f = false) : wearF c t f = (Crd.z, 1) := by rw [wearF, h2, Bool.and_false]; rfl
attribute [irreducible] wearF
/-- The elements of a slice of cards. -/
def encCrd : Enc Crd where
  enc x := [.string x.nm, .int .u64 (lo x.m), .int .u64 (hi x.m)]
  sz := 3
  len _ := rfl
  one m u hu := by
    simp only [List.mem_cons, List.not_mem_nil, or_false] at hu
    rcases hu with rfl | rfl | rfl <;> rfl
  pos := by decide
theorem Rd.crd {w : World} {b off : Nat} {xs : List Crd} (h : Rd encCrd w (some ⟨b, off, none⟩) xs) (k : Nat) (hk : k < xs.length) :
    w.cell? ⟨b, off + k * 3, none⟩ = some (.string xs[k].nm) ∧ w.cell? ⟨b, off + k * 3 + 1, none⟩ = some (.int .u64 (lo xs[k].m)) ∧ w.cell? ⟨b, off + k * 3 + 2, none⟩ = some (.int .u64 (hi xs[k].m)) ∧ b < w.heap.size := by
  obtain ⟨b', off', e1, hlt, hc⟩ := h k hk
  simp only [Option.some.injEq, Addr.mk.injEq, and_true] at e1
  obtain ⟨rfl, rfl⟩ := e1
  exact ⟨hc 0 _ rfl, hc 1 _ rfl, hc 2 _ rfl, hlt⟩
end Go.Proofs.YtegopgpnjgikeaaGreatDoor
