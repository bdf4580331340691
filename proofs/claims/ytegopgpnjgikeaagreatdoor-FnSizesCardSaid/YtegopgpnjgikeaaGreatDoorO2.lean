/-
  Opening the arguments of the laws that are slices of flat elements.
-/
import Derived.Test.YtegopgpnjgikeaaGreatDoorO1
import Derived.Test.YtegopgpnjgikeaaGreatDoorE0
import Derived.Deep.Slices
set_option linter.unusedVariables false
set_option maxRecDepth 100000
namespace Go.Proofs.YtegopgpnjgikeaaGreatDoor
open Go.ChangeShapes Go.WideShapes Go.ChangeAt Go.RowKit
theorem cell_block {w : World} {a : Addr} {v : Value} (h : w.cell? a = some v) : a.block < w.heap.size := by
  cases h2 : w.heap[a.block]? with
  | none => simp [World.cell?, h2] at h
  | some o => exact (Array.getElem?_eq_some_iff.1 h2).1
theorem open_sliceOk {α : Type} [Inhabited α] (e : Enc α) (ok : α → Prop) {H : Type} {enc : TypeId × Value → H} {P : Program} {w : World} {base : Nat} {spare : Nat → Bool} {held : Bool} {r : Reach} {b0 : Nat} {v : Value} {d : DataW H} {p : List MemPlace} {t E : TypeId}
    (ht : P.underlying t = some (.slice E)) (hsz : P.cellsOf E = e.sz) (hel : ∀ n cs x, DataW.trod enc P w base spare held n E cs = some x → ∃ m : α, cs = e.enc m ∧ ok m)
    (hv : Value.okWide P w r b0 t v) (h : DataW.Trod enc P w base spare held t v d p) : ∃ (A : Option Addr) (xs : List α) (cap : Nat), v = .slice A xs.length cap ∧ xs.length ≤ cap ∧ xs.length ≤ 9223372036854775807 ∧ Rd e w A xs ∧ ∀ x ∈ xs, ok x := by
  obtain ⟨a0, l0, c0, rfl⟩ := okWide_slice ht hv
  obtain ⟨fuel, hf⟩ := h
  rcases Go.Deep.open_slice ht hf with ⟨h1, _⟩ | ⟨a, len, cap, m, n, D, Pl, h1, hb, hl, hm, hmm, _, hx⟩
  · simp [Value.cells] at h1
    obtain ⟨rfl, rfl, rfl⟩ := h1
    exact ⟨none, [], 0, rfl, Nat.le_refl _, by simp, Rd.nil _ _ _, by simp⟩
  · simp [Value.cells] at h1
    obtain ⟨rfl, rfl, rfl⟩ := h1
    have hlm : l0 ≤ m := by rw [hmm]; split <;> omega
    obtain ⟨f, hfx⟩ := Go.Deep.choose_lt (n := l0) (p := fun i (y : α) => w.cells? base (a.add (i * P.cellsOf E)) (P.cellsOf E) = some (e.enc y) ∧ ok y) (fun i hi => by
      obtain ⟨cs', g1, g2⟩ := hx i (by omega)
      obtain ⟨y, rfl, hy⟩ := hel _ _ _ g2
      exact ⟨y, g1, hy⟩)
    have hspot : 0 < l0 → a.spot = none := fun h0 => by
      obtain ⟨_, hlen, hc⟩ := World.cells?_some (hfx 0 h0).1
      have c0' := hc 0 (by rw [hsz]; exact e.pos)
      have hp : 0 < (e.enc (f 0)).length := by rw [e.len]; exact e.pos
      rw [List.getElem?_eq_getElem hp, Nat.zero_mul, show (a.add 0).add 0 = a from rfl] at c0'
      exact World.cell?_spot c0'
    refine ⟨some a, (List.range l0).map f, c0, by simp, by simpa using hl, by unfold maxLen at hm; simp; omega, fun k hk => ?_, fun x hx => by
      obtain ⟨i, hi, rfl⟩ := List.mem_map.1 hx
      exact (hfx i (List.mem_range.1 hi)).2⟩
    have hk' : k < l0 := by simpa using hk
    obtain ⟨_, hlen, hc⟩ := World.cells?_some (hfx k hk').1
    have hxk : ((List.range l0).map f)[k] = f k := by simp
    have c0' := hc 0 (by rw [hsz]; exact e.pos)
    have h0 : 0 < (e.enc (f k)).length := by rw [e.len]; exact e.pos
    rw [List.getElem?_eq_getElem h0] at c0'
    have hsp := hspot (by omega)
    obtain ⟨b, off, spot⟩ := a
    simp only at hsp
    subst hsp
    simp only [Addr.add_lit] at hc c0'
    refine ⟨b, off, rfl, cell_block c0', fun j u hu => ?_⟩
    rw [hxk] at hu
    have hj : j < P.cellsOf E := by rw [hsz, ← e.len (f k)]; exact (List.getElem?_eq_some_iff.1 hu).1
    have := hc j hj
    rw [hu, hsz] at this
    exact this
theorem open_sliceE {α : Type} [Inhabited α] (e : Enc α) {H : Type} {enc : TypeId × Value → H} {P : Program} {w : World} {base : Nat} {spare : Nat → Bool} {held : Bool} {r : Reach} {b0 : Nat} {v : Value} {d : DataW H} {p : List MemPlace} {t E : TypeId}
    (ht : P.underlying t = some (.slice E)) (hsz : P.cellsOf E = e.sz) (hel : ∀ n cs x, DataW.trod enc P w base spare held n E cs = some x → ∃ m : α, cs = e.enc m)
    (hv : Value.okWide P w r b0 t v) (h : DataW.Trod enc P w base spare held t v d p) : ∃ (A : Option Addr) (xs : List α) (cap : Nat), v = .slice A xs.length cap ∧ xs.length ≤ cap ∧ xs.length ≤ 9223372036854775807 ∧ Rd e w A xs := by
  obtain ⟨A, xs, cap, h1, h2, h3, h4, _⟩ := open_sliceOk e (fun _ => True) ht hsz (fun n cs x hx => by obtain ⟨m, hm⟩ := hel n cs x hx; exact ⟨m, hm, trivial⟩) hv h
  exact ⟨A, xs, cap, h1, h2, h3, h4⟩
section
variable {H : Type} {enc : TypeId × Value → H} {P : Program} {w : World} {base : Nat} {spare : Nat → Bool} {held : Bool} {fuel : Nat} {cs : List Value} {x : DataW H × List MemPlace} {t : TypeId}
theorem trod_i64 (ht : P.underlying t = some (.int .i64)) (h : DataW.trod enc P w base spare held fuel t cs = some x) : ∃ n : Int, cs = [.int .i64 n] ∧ -9223372036854775808 ≤ n ∧ n < 9223372036854775808 := by
  obtain ⟨a, ha, _, wa⟩ := DataW.trod_int ht h
  simp [Lit.wf, IntKind.min, IntKind.max, IntKind.signed, IntKind.bits] at wa
  exact ⟨a, ha, by omega, by omega⟩
theorem trod_str (ht : P.underlying t = some .string) (h : DataW.trod enc P w base spare held fuel t cs = some x) : ∃ s : ByteArray, cs = [.string s] ∧ s.size ≤ 9223372036854775807 := by
  obtain ⟨s, hs, _, hm⟩ := DataW.trod_string ht h
  exact ⟨s, hs, by unfold maxLen at hm; omega⟩
end
theorem open_int64 {w : World} {r : Reach} {b0 : Nat} {v : Value} {H : Type} {enc : TypeId × Value → H} {base : Nat} {spare : Nat → Bool} {held : Bool} {d : DataW H} {p : List MemPlace}
    (hv : Value.okWide Tryz.prog w r b0 2 v) (h : DataW.Trod enc Tryz.prog w base spare held 2 v d p) : ∃ n : Int, v = .int .i64 n ∧ -9223372036854775808 ≤ n ∧ n < 9223372036854775808 := by
  obtain ⟨n, rfl⟩ := okWide_int Tryz.underlying2 hv
  obtain ⟨fuel, hf⟩ := h
  obtain ⟨a, ha, _, wa⟩ := DataW.trod_int Tryz.underlying2 hf
  simp [Value.cells] at ha
  subst ha
  simp [Lit.wf, IntKind.min, IntKind.max, IntKind.signed, IntKind.bits] at wa
  exact ⟨n, rfl, by omega, by omega⟩
end Go.Proofs.YtegopgpnjgikeaaGreatDoor
