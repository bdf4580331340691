/-
  Slices of texts: how they lie, and contracts of the laws' functions on them.
-/
import Derived.Test.YtegopgpnjgikeaaGreatDoorMI
import Derived.Test.YtegopgpnjgikeaaGreatDoorL5
set_option linter.unusedVariables false
set_option linter.unusedSimpArgs false
set_option maxRecDepth 100000
namespace Go.Proofs.YtegopgpnjgikeaaGreatDoor
open Go.RowKit
/-- Texts as elements. -/
def encStr : Enc ByteArray where
  enc x := [.string x]
  sz := 1
  len _ := rfl
  one m u hu := by
    simp only [List.mem_cons, List.not_mem_nil, or_false] at hu
    subst hu
    rfl
  pos := by decide
theorem Rd.str {w : World} {b off : Nat} {xs : List ByteArray} (h : Rd encStr w (some ⟨b, off, none⟩) xs) (k : Nat) (hk : k < xs.length) :
    w.cell? ⟨b, off + k, none⟩ = some (.string xs[k]) := by
  obtain ⟨b', off', e1, hlt, hc⟩ := h k hk
  simp only [Option.some.injEq, Addr.mk.injEq, and_true] at e1
  obtain ⟨rfl, rfl⟩ := e1
  have := hc 0 _ rfl
  simpa [encStr] using this
def strB (x y : ByteArray) : Bool := x.toList == y.toList
theorem strB_refl (x : ByteArray) : strB x x = true := by simp [strB]
theorem strB_iff (x y : ByteArray) : strB x y = true ↔ x = y := by
  unfold strB
  rw [beq_iff_eq]
  constructor
  · intro h
    rw [ByteArray.toList_eq, ByteArray.toList_eq] at h
    cases x; cases y
    simp at h
    rw [h]
  · intro h; rw [h]
theorem info_str : (Tryz.prog.info? 9).map (fun i => (i.zero, i.size, i.bytes)) = some (some (.string ⟨#[]⟩), encStr.sz, 16) := by kernel_rfl
theorem info_str2 : (Tryz.prog.info? 9).map (·.size) = some encStr.sz := by kernel_rfl
