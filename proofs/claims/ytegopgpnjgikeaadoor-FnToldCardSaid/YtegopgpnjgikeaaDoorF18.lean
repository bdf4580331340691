/-
  Schemes: lists of fields as data, with no program in sight.
-/
import Derived.Test.YtegopgpnjgikeaaDoorF5
import Derived.Test.YtegopgpnjgikeaaDoorF1
import Derived.Test.YtegopgpnjgikeaaDoorL7
set_option linter.unusedVariables false
namespace Go.Proofs.YtegopgpnjgikeaaDoor
open Go.RowKit
instance : Inhabited Fld := ⟨⟨⟨#[]⟩, 0, 0, 0⟩⟩
/-- What is known of a field in memory. -/
def FldIn (f : Fld) : Prop := Fld.ok f ∧ f.nm.size ≤ 9223372036854775807
def Fld.z : Fld := ⟨⟨#[]⟩, 0, 0, 0⟩
/-- The elements of a slice of fields. -/
def encFld : Enc Fld where
  enc f := [.string f.nm, .int .i8 f.kd, .int .i16 f.st, .int .i16 f.sz]
  sz := 4
  len _ := rfl
  one f u hu := by
    simp only [List.mem_cons, List.not_mem_nil, or_false] at hu
    rcases hu with rfl | rfl | rfl | rfl <;> rfl
  pos := by decide
theorem Rd.fld {w : World} {b off : Nat} {xs : List Fld} (h : Rd encFld w (some ⟨b, off, none⟩) xs) (k : Nat) (hk : k < xs.length) :
    w.cell? ⟨b, off + k * 4, none⟩ = some (.string xs[k].nm) ∧ w.cell? ⟨b, off + k * 4 + 1, none⟩ = some (.int .i8 xs[k].kd) ∧ w.cell? ⟨b, off + k * 4 + 2, none⟩ = some (.int .i16 xs[k].st) ∧ w.cell? ⟨b, off + k * 4 + 3, none⟩ = some (.int .i16 xs[k].sz) ∧ b < w.heap.size := by
  obtain ⟨b', off', e1, hlt, hc⟩ := h k hk
  simp only [Option.some.injEq, Addr.mk.injEq, and_true] at e1
  obtain ⟨rfl, rfl⟩ := e1
  exact ⟨hc 0 _ rfl, hc 1 _ rfl, hc 2 _ rfl, hc 3 _ rfl, hlt⟩
theorem Rd.fldAt {w : World} {b off : Nat} {xs : List Fld} (h : Rd encFld w (some ⟨b, off, none⟩) xs) (k : Nat) (hk : k < xs.length) : FldAt w b (off + k * 4) xs[k] := by
  obtain ⟨h0, h1, h2, h3, _⟩ := h.fld k hk
  exact ⟨h0, h1, h2, h3⟩
theorem getF (xs : List Fld) (k : Nat) (hk : k < xs.length) : xs[k]! = xs[k] := getElem!_pos xs k hk
/-- The holes of the first fields. -/
def allTo (xs : List Fld) (k : Nat) : Mask := orTo (fun i => partF xs[i]!) k
theorem allTo_succ (xs : List Fld) (k : Nat) (hk : k < xs.length) : allTo xs (k + 1) = mjoin (allTo xs k) (partF xs[k]) := by unfold allTo; rw [orTo_succ, getF xs k hk]
theorem allTo_zero (xs : List Fld) : allTo xs 0 = 0 := rfl
/-- Has one of some fields a name? -/
def hasFn (xs : List Fld) (nm : ByteArray) : Bool := xs.any fun g => g.nm.toList == nm.toList
/-- A field of a list is valid, has its own holes and its own name. -/
def fitB (xs : List Fld) (k : Nat) : Bool := fldB xs[k]! && (mzero (mmeet (allTo xs k) (partF xs[k]!)) && !hasFn (xs.take k) xs[k]!.nm)
def fitsTo (xs : List Fld) (n : Nat) : Bool := (List.range n).all (fitB xs)
/-- Is a list of fields a valid scheme? -/
def schB (xs : List Fld) : Bool := decide (xs.length ≤ 12) && fitsTo xs xs.length
theorem fitsTo_succ (xs : List Fld) (n : Nat) : fitsTo xs (n + 1) = (fitsTo xs n && fitB xs n) := by
  unfold fitsTo
  rw [List.range_succ, List.all_append]
  simp
theorem sch_long {xs : List Fld} (h : ¬ xs.length ≤ 12) : schB xs = false := by unfold schB; rw [decide_eq_false h]; rfl
theorem sch_miss {xs : List Fld} (k : Nat) (hk : k < xs.length) (h : fitB xs k = false) : schB xs = false := by
  unfold schB fitsTo
  rw [Bool.and_eq_false_iff]
  refine .inr ?_
  rw [List.all_eq_false]
  exact ⟨k, List.mem_range.2 hk, by simp [h]⟩
theorem fit_bad {xs : List Fld} {k : Nat} (hk : k < xs.length) (h : fldB xs[k] = false) : fitB xs k = false := by unfold fitB; rw [getF xs k hk, h]; rfl
theorem fit_over {xs : List Fld} {k : Nat} (hk : k < xs.length) (h : mzero (mmeet (allTo xs k) (partF xs[k])) = false) : fitB xs k = false := by unfold fitB; rw [getF xs k hk, h, Bool.false_and, Bool.and_false]
theorem fit_name {xs : List Fld} {k : Nat} (hk : k < xs.length) (h : hasFn (xs.take k) xs[k].nm = true) : fitB xs k = false := by unfold fitB; rw [getF xs k hk, h, Bool.not_true, Bool.and_false, Bool.and_false]
theorem fit_good {xs : List Fld} {k : Nat} (hk : k < xs.length) (h1 : fldB xs[k] = true) (h2 : mzero (mmeet (allTo xs k) (partF xs[k])) = true) (h3 : hasFn (xs.take k) xs[k].nm = false) : fitB xs k = true := by unfold fitB; rw [getF xs k hk, h1, h2, h3]; rfl
theorem sch_all {xs : List Fld} (h : schB xs = true) : xs.length ≤ 12 ∧ ∀ k (hk : k < xs.length), fldB xs[k] = true := by
  unfold schB at h
  rw [Bool.and_eq_true, decide_eq_true_eq] at h
  refine ⟨h.1, fun k hk => ?_⟩
  have := List.all_eq_true.1 h.2 k (List.mem_range.2 hk)
  unfold fitB at this
  rw [getF xs k hk, Bool.and_eq_true] at this
  exact this.1
attribute [irreducible] allTo schB
end Go.Proofs.YtegopgpnjgikeaaDoor
