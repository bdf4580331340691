/-
  Opening arguments that are slices of slices of texts.
-/
import Derived.Test.YtbmompanhigmnaaDoorO9
import Derived.Test.YtbmompanhigmnaaDoorNS
set_option linter.unusedVariables false
set_option maxRecDepth 100000
namespace Go.Proofs.YtbmompanhigmnaaDoor
open Go.ChangeShapes Go.WideShapes Go.ChangeAt Go.RowKit
theorem cells_sliceOk {α : Type} [Inhabited α] (e : Enc α) (ok : α → Prop) {H : Type} {enc : TypeId × Value → H} {P : Program} {w : World} {base : Nat} {spare : Nat → Bool} {held : Bool} {fuel : Nat} {cs : List Value} {x : DataW H × List MemPlace} {t E : TypeId}
    (ht : P.underlying t = some (.slice E)) (hsz : P.cellsOf E = e.sz) (hel : ∀ n cs x, DataW.trod enc P w base spare held n E cs = some x → ∃ m : α, cs = e.enc m ∧ ok m)
    (hf : DataW.trod enc P w base spare held fuel t cs = some x) : ∃ (A : Option Addr) (xs : List α) (cap : Nat), cs = [.slice A xs.length cap] ∧ xs.length ≤ cap ∧ xs.length ≤ 9223372036854775807 ∧ Rd e w A xs ∧ ∀ x ∈ xs, ok x := by
  rcases Go.Deep.open_slice ht hf with ⟨h1, _⟩ | ⟨a, l0, c0, m, n, D, Pl, h1, hb, hl, hm, hmm, _, hx⟩
  · exact ⟨none, [], 0, h1, Nat.le_refl _, by simp, Rd.nil _ _ _, by simp⟩
  · have hlm : l0 ≤ m := by rw [hmm]; split <;> omega
    obtain ⟨f, hfx⟩ := Go.Deep.choose_lt (n := l0) (p := fun i (y : α) => w.cells? base (a.add (i * P.cellsOf E)) (P.cellsOf E) = some (e.enc y) ∧ ok y) (fun i hi => by
      obtain ⟨cs', g1, g2⟩ := hx i (by omega)
      obtain ⟨y, rfl, hy⟩ := hel _ _ _ g2
      exact ⟨y, g1, hy⟩)
    have hspot : 0 < l0 → a.spot = none := fun h0 => by
      obtain ⟨_, hlen, hc⟩ := World.cells?_some (hfx 0 h0).1
      have c0' := hc 0 (by rw [hsz]; exact e.pos)
      have hp : 0 < (e.enc (f 0)).length := by rw [e.len]; exact e.pos
      rw [List.getElem?_eq_getElem hp, Nat.zero_mul, show (a.add 0).add 0 = a from rfl] at c0'
      exact World.cell?_spot c0'
    refine ⟨some a, (List.range l0).map f, c0, by simpa using h1, by simpa using hl, by unfold maxLen at hm; simp; omega, fun k hk => ?_, fun x hx => by
      obtain ⟨i, hi, rfl⟩ := List.mem_map.1 hx
      exact (hfx i (List.mem_range.1 hi)).2⟩
    have hk' : k < l0 := by simpa using hk
    obtain ⟨_, hlen, hc⟩ := World.cells?_some (hfx k hk').1
    have hxk : ((List.range l0).map f)[k] = f k := by simp
    have c0' := hc 0 (by rw [hsz]; exact e.pos)
    have h0 : 0 < (e.enc (f k)).length := by rw [e.len]; exact e.pos
    rw [List.getElem?_eq_getElem h0] at c0'
    have hsp := hspot (by omega)
    obtain ⟨b, off, spot⟩ := a
    simp only at hsp
    subst hsp
    simp only [Addr.add_lit] at hc c0'
    refine ⟨b, off, rfl, cell_block c0', fun j u hu => ?_⟩
    rw [hxk] at hu
    have hj : j < P.cellsOf E := by rw [hsz, ← e.len (f k)]; exact (List.getElem?_eq_some_iff.1 hu).1
    have := hc j hj
    rw [hu, hsz] at this
    exact this
/-- What is known of an inner slice. -/
def InnOk (w : World) (sv : SV) : Prop := ∃ l : List ByteArray, sv.n = l.length ∧ Rd encStr w sv.A l ∧ l.length ≤ 9223372036854775807 ∧ ∀ x ∈ l, StrIn x
theorem inn_lists {w : World} : ∀ hs : List SV, (∀ sv ∈ hs, InnOk w sv) → ∃ lot : List (List ByteArray), hs.length = lot.length ∧ (∀ k (h : k < lot.length) (h2 : k < hs.length), hs[k].n = lot[k].length ∧ Rd encStr w hs[k].A lot[k]) ∧ ∀ l ∈ lot, l.length ≤ 9223372036854775807 ∧ ∀ x ∈ l, StrIn x
  | [], _ => ⟨[], rfl, fun k h => by simp at h, fun l h => by simp at h⟩
  | sv :: hs, h => by
    obtain ⟨lot, h1, h2, h3⟩ := inn_lists hs (fun s hs' => h s (List.mem_cons_of_mem _ hs'))
    obtain ⟨l, a1, a2, a3, a4⟩ := h sv (List.mem_cons_self ..)
    refine ⟨l :: lot, by simp [h1], fun k g g2 => ?_, fun l' hl' => ?_⟩
    · cases k with
      | zero => exact ⟨a1, a2⟩
      | succ k => exact h2 k (by simpa using g) (by simpa using g2)
    · rcases List.mem_cons.1 hl' with rfl | h4
      · exact ⟨a3, a4⟩
      · exact h3 l' h4
theorem open_StringSS {H : Type} {enc : TypeId × Value → H} {w : World} {base : Nat} {spare : Nat → Bool} {held : Bool} {r : Reach} {b0 : Nat} {v : Value} {d : DataW H} {p : List MemPlace}
    (hv : Value.okWide Tryd.prog w r b0 25 v) (h : DataW.Trod enc Tryd.prog w base spare held 25 v d p) : ∃ (A : Option Addr) (lot : List (List ByteArray)) (cap : Nat), v = .slice A lot.length cap ∧ lot.length ≤ 9223372036854775807 ∧ RdL w A lot ∧ ∀ l ∈ lot, l.length ≤ 9223372036854775807 ∧ ∀ x ∈ l, StrIn x := by
  obtain ⟨A, hs, cap, rfl, _, h2, h3, h4⟩ := open_sliceOk encSV (InnOk w) Tryd.underlying25 (by kernel_rfl) (fun n cs x hx => by
    obtain ⟨A, xs, cap, rfl, _, h2, h3, h4⟩ := cells_sliceOk encStr StrIn Tryd.underlying38 (by kernel_rfl) (fun n cs x hx => by obtain ⟨s, h1, h2⟩ := trod_str Tryd.underlying9 hx; exact ⟨s, h1, h2⟩) hx
    exact ⟨⟨A, xs.length, cap⟩, rfl, xs, rfl, h3, h2, h4⟩) hv h
  obtain ⟨lot, g1, g2, g3⟩ := inn_lists hs h4
  exact ⟨A, lot, cap, by rw [g1], by omega, ⟨hs, g1, h3, g2⟩, g3⟩
end Go.Proofs.YtbmompanhigmnaaDoor
