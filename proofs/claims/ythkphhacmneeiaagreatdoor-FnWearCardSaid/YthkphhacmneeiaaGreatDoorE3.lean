/-
  Contracts of the functions that cut a text into words and ask whether it is a name of an entry.
-/
import Derived.Test.YthkphhacmneeiaaGreatDoorE1
import Derived.Test.YthkphhacmneeiaaGreatDoorE2
import Derived.Test.YthkphhacmneeiaaGreatDoorT1
import Derived.Test.YthkphhacmneeiaaGreatDoorShelf
import Derived.Shelf.Strings.PiecesUse
set_option linter.unusedVariables false
set_option linter.unusedSimpArgs false
set_option maxRecDepth 100000
namespace Go.Proofs.YthkphhacmneeiaaGreatDoor
open Go.RowKit
/-- Texts as elements. -/
def encStr : Enc ByteArray where
  enc x := [.string x]
  sz := 1
  len _ := rfl
  one m u hu := by
    simp only [List.mem_cons, List.not_mem_nil, or_false] at hu
    subst hu
    rfl
  pos := by decide
theorem Rd.str {w : World} {b off : Nat} {xs : List ByteArray} (h : Rd encStr w (some ⟨b, off, none⟩) xs) (k : Nat) (hk : k < xs.length) :
    w.cell? ⟨b, off + k, none⟩ = some (.string xs[k]) := by
  obtain ⟨b', off', e1, hlt, hc⟩ := h k hk
  simp only [Option.some.injEq, Addr.mk.injEq, and_true] at e1
  obtain ⟨rfl, rfl⟩ := e1
  have := hc 0 _ rfl
  simpa [encStr] using this
/-- The library's own word lies in its place. -/
def Glob (w : World) : Prop := ∃ m, w.cell? ⟨0, 0, none⟩ = some (.int .i64 m)
theorem Glob.ext {w w' : World} (h : Glob w) (hb : Ext w w') : Glob w' := ⟨h.choose, hb.cell h.choose_spec⟩
theorem splitC_len (s : ByteArray) (c : UInt8) : (splitC c s).length = Lib.countB s ⟨#[c]⟩ + 1 := Lib.splitB_all ⟨#[c]⟩ (show 1 ≤ 1 from Nat.le_refl 1) 0 _ s rfl
theorem splitC_le (s : ByteArray) (c : UInt8) : (splitC c s).length ≤ s.size + 1 := by
  rw [splitC_len]
  have := Lib.countB_le ⟨#[c]⟩ (show 1 ≤ 1 from Nat.le_refl 1) s.size s (Nat.le_refl _)
  omega
theorem strings_Split (s : ByteArray) (c : UInt8) (w : World) (hs : s.size < 4294967281) (hG : Glob w) :
    Calls Tryz.prog 33 #[.string s, .string ⟨#[c]⟩] w fun e w' => e = .returned (.slice (some ⟨w.heap.size, 0, none⟩) (splitC c s).length (splitC c s).length) ∧ Rd encStr w' (some ⟨w.heap.size, 0, none⟩) (splitC c s) ∧ Ext w w' := by
  obtain ⟨m, hm⟩ := hG
  refine (Tryz.strings_Split s ⟨#[c]⟩ m w hs hm (show 1 ≤ 1 from Nat.le_refl 1)).mono ?_
  rintro e w' ⟨rfl, rfl⟩
  rw [← splitC_len]
  refine ⟨rfl, ?_, (Ext.refl w).alloc _⟩
  intro k hk
  refine ⟨_, _, rfl, by simp, ?_⟩
  intro j u hu
  cases j with
  | zero =>
    simp only [encStr, List.getElem?_cons_zero, Option.some.injEq] at hu
    subst hu
    simp [encStr, splitC]
  | succ j => simp [encStr] at hu
theorem info_str : (Tryz.prog.info? 9).map (fun i => (i.zero, i.size, i.bytes)) = some (some (.string ⟨#[]⟩), encStr.sz, 16) := by kernel_rfl
