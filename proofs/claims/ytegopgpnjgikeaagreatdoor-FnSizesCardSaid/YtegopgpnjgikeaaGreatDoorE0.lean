/-
  Entries of catalogues as data, with no program in sight.
-/
import Derived.Test.YtegopgpnjgikeaaGreatDoorL3
set_option linter.unusedVariables false
namespace Go.Proofs.YtegopgpnjgikeaaGreatDoor
open Go.RowKit
structure Ent where
  nm : ByteArray
  see : Int
  br : Int
instance : Inhabited Ent := ⟨⟨⟨#[]⟩, 0, 0⟩⟩
def Ent.z : Ent := ⟨⟨#[]⟩, 0, 0⟩
def entB (x y : Ent) : Bool := (x.nm.toList == y.nm.toList) && (x.see == y.see) && (x.br == y.br)
theorem entB_refl (x : Ent) : entB x x = true := by simp [entB]
/-- The elements of a slice of entries. -/
def encEnt : Enc Ent where
  enc x := [.string x.nm, .int .i64 x.see, .int .i64 x.br]
  sz := 3
  len _ := rfl
  one m u hu := by
    simp only [List.mem_cons, List.not_mem_nil, or_false] at hu
    rcases hu with rfl | rfl | rfl <;> rfl
  pos := by decide
theorem Rd.ent {w : World} {b off : Nat} {xs : List Ent} (h : Rd encEnt w (some ⟨b, off, none⟩) xs) (k : Nat) (hk : k < xs.length) :
    w.cell? ⟨b, off + k * 3, none⟩ = some (.string xs[k].nm) ∧ w.cell? ⟨b, off + k * 3 + 1, none⟩ = some (.int .i64 xs[k].see) ∧ w.cell? ⟨b, off + k * 3 + 2, none⟩ = some (.int .i64 xs[k].br) ∧ b < w.heap.size := by
  obtain ⟨b', off', e1, hlt, hc⟩ := h k hk
  simp only [Option.some.injEq, Addr.mk.injEq, and_true] at e1
  obtain ⟨rfl, rfl⟩ := e1
  exact ⟨hc 0 _ rfl, hc 1 _ rfl, hc 2 _ rfl, hlt⟩

/-- Its name's size and its numbers are in their kinds' bounds. -/
def Ent.ok (x : Ent) : Prop := x.nm.size ≤ 9223372036854775807 ∧ (-9223372036854775808 ≤ x.see ∧ x.see < 9223372036854775808) ∧ (-9223372036854775808 ≤ x.br ∧ x.br < 9223372036854775808)
theorem entB_is (x y : Ent) : entB ⟨x.nm, x.see, x.br⟩ ⟨y.nm, y.see, y.br⟩ = entB x y := rfl
end Go.Proofs.YtegopgpnjgikeaaGreatDoor
