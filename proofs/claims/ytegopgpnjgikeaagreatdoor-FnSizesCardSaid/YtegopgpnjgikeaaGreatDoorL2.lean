/-
  Slices of flat elements: read ('Rd'), or the call's own ('Ow'); with no program in sight.
-/
import Derived.Test.YtegopgpnjgikeaaGreatDoorL1
import Derived.Maps.AppendAt
set_option linter.unusedVariables false
namespace Go.Proofs.YtegopgpnjgikeaaGreatDoor
open Go.RowKit

/-- How an element lies in cells. -/
structure Enc (α : Type) where
  enc : α → List Value
  sz : Nat
  len : ∀ x, (enc x).length = sz
  one : ∀ x u, u ∈ enc x → u.oneCell' = true
  pos : 0 < sz
section
variable {α : Type} {e : Enc α} {w w' w0 : World} {A : Option Addr} {xs : List α} {T : TypeId} {base : Nat} {v : Value}
def Enc.all (e : Enc α) (xs : List α) : List Value := xs.flatMap e.enc
theorem Enc.all_length (e : Enc α) (xs : List α) : (e.all xs).length = xs.length * e.sz := by
  unfold Enc.all
  induction xs with
  | nil => simp
  | cons x xs ih => rw [List.flatMap_cons, List.length_append, ih, e.len, List.length_cons, Nat.add_mul]; omega
theorem Enc.all_snoc (e : Enc α) (xs : List α) (x : α) : e.all (xs ++ [x]) = e.all xs ++ e.enc x := by simp [Enc.all]
theorem Enc.all_append (e : Enc α) (xs ys : List α) : e.all (xs ++ ys) = e.all xs ++ e.all ys := by simp [Enc.all]
theorem Enc.all_get (e : Enc α) (xs : List α) (k j : Nat) (hk : k < xs.length) (hj : j < e.sz) : (e.all xs)[k * e.sz + j]? = (e.enc xs[k])[j]? := by
  unfold Enc.all
  induction xs generalizing k with
  | nil => simp at hk
  | cons x xs ih =>
    cases k with
    | zero => rw [List.flatMap_cons, List.getElem?_append_left (by rw [e.len]; omega)]; simp
    | succ k =>
      rw [List.flatMap_cons, List.getElem?_append_right (by rw [e.len, Nat.add_mul]; omega), e.len, show (k + 1) * e.sz + j - e.sz = k * e.sz + j by rw [Nat.add_mul]; omega]
      simpa using ih k (by simpa using hk)
theorem Enc.all_one (e : Enc α) (xs : List α) : ∀ u ∈ e.all xs, u.oneCell' = true := fun u hu => by
  obtain ⟨x, _, hx⟩ := List.mem_flatMap.1 hu
  exact e.one x u hx
/-- The slice at A reads as xs. -/
def Rd (e : Enc α) (w : World) (A : Option Addr) (xs : List α) : Prop :=
  ∀ k (h : k < xs.length), ∃ b off, A = some ⟨b, off, none⟩ ∧ b < w.heap.size ∧ ∀ j u, (e.enc xs[k])[j]? = some u → w.cell? ⟨b, off + k * e.sz + j, none⟩ = some u
/-- The slice v is the call's own, from block base on, and reads as xs. -/
def Ow (e : Enc α) (T : TypeId) (w : World) (base : Nat) (v : Value) (xs : List α) : Prop := w.ownsRow base T e.sz v xs.length (e.all xs)
theorem Rd.ext (h : Rd e w A xs) (hb : Ext w w') : Rd e w' A xs := fun k hk => by
  obtain ⟨b, off, hA, hlt, hc⟩ := h k hk
  exact ⟨b, off, hA, Nat.lt_of_lt_of_le hlt hb.size, fun j u hu => hb.cell (hc j u hu)⟩
theorem Rd.nil (e : Enc α) (w : World) (A : Option Addr) : Rd e w A [] := fun k hk => by simp at hk
theorem Ow.keep (h : Ow e T w base v xs) (hm : ∀ k, v.ownBlock = some k → w'.heap[k]? = w.heap[k]?) : Ow e T w' base v xs := by
  obtain ⟨h1, h2⟩ := h
  refine ⟨h1, ?_⟩
  rcases h2 with h2 | ⟨g, cap, cur, rfl, hg, hh, r⟩
  · exact .inl h2
  · exact .inr ⟨g, cap, cur, rfl, hg, (hm g (by simp [Value.ownBlock])).trans hh, r⟩
theorem Ow.ext (h : Ow e T w base v xs) (hb : Ext w w') : Ow e T w' base v xs :=
  h.keep fun k hk => hb.block k (h.lt k hk).2
theorem Ow.grown (h : Ow e T w base v xs) {row : Option Nat} (hg : w.grownBy w' row) (hne : v.ownBlock = none ∨ v.ownBlock ≠ row) : Ow e T w' base v xs := h.kept hg hne
theorem Ow.far (h : Ow e T w base v xs) {p : Addr} (hne : v.ownBlock ≠ some p.block) (u : Value) : Ow e T (w.setCell p u) base v xs :=
  h.keep fun k hk => Below.heap_setCell w p u k (fun e => hne (by rw [hk, e]))
theorem Ow.slice (h : Ow e T w base v xs) : ∃ A cap, v = .slice A xs.length cap ∧ xs.length ≤ cap ∧ Rd e w A xs := by
  rcases h.2 with ⟨rfl, h0⟩ | ⟨g, cap, cur, rfl, hg, hh, hle, _, _, _⟩
  · have : xs = [] := List.eq_nil_of_length_eq_zero h0
    subst this
    exact ⟨none, 0, rfl, Nat.le_refl _, Rd.nil _ _ _⟩
  · refine ⟨_, cap, rfl, hle, fun k hk => ⟨g, 0, rfl, (Array.getElem?_eq_some_iff.1 hh).1, fun j u hu => ?_⟩⟩
    have hj : j < e.sz := by rw [← e.len xs[k]]; exact (List.getElem?_eq_some_iff.1 hu).1
    have := World.ownsRow.cells h (g := g) (by simp [Value.ownBlock]) (k * e.sz + j) u (by rw [e.all_get xs k j hk hj]; exact hu)
    rw [show (⟨g, 0, none⟩ : Addr).add (k * e.sz + j) = ⟨g, 0 + (k * e.sz + j), none⟩ from Addr.add_lit g 0 _] at this
    rw [Nat.add_assoc]
    exact this
theorem Ow.nil (e : Enc α) (T : TypeId) (w : World) (base : Nat) : Ow e T w base (.slice none 0 0) [] := World.ownsRow_nil w base T e.sz
theorem Ow.lower {base' : Nat} (h : Ow e T w base v xs) (hb : base' ≤ base) : Ow e T w base' v xs := by
  obtain ⟨h1, h2⟩ := h
  refine ⟨h1, ?_⟩
  rcases h2 with h2 | ⟨g, cap, cur, rfl, hg, r⟩
  · exact .inl h2
  · exact .inr ⟨g, cap, cur, rfl, Nat.le_trans hb hg, r⟩
/-- A slice that a literal or a make has just laid. -/
theorem Ow.made (e : Enc α) (T : TypeId) (w : World) (xs : List α) (cs : Array Value) (hb : base ≤ w.heap.size) (hm : xs.length ≤ 9223372036854775807) (hc : cs.toList = e.all xs) :
    Ow e T (w.alloc (.cells cs T)) base (.slice (some ⟨w.heap.size, 0, none⟩) xs.length xs.length) xs := by
  have hl : cs.size = xs.length * e.sz := by rw [← Array.length_toList, hc, e.all_length]
  have := World.ownsRow_lit (base := base) (e := T) (size := e.sz) w cs xs.length hb (by unfold maxLen; omega) hl
  rw [hc] at this
  exact this
/-- append(v, x): x lies in a box of its own. -/
theorem wpList_push {P : Program} {ops : Array Oper} {rest : List Oper} {o : Oper} {a : Act} {Q : Exit → Act → World → Prop} (e : Enc α) {W : World} (hgd : o.guard = none) (s y : Operand) (t : TypeId) (z : Value) (bytes : Nat)
    (ho : o.op = .call { callee := .builtin .append, args := #[s, y], argTypes := #[t, t] })
    (ht : P.underlying t = some (.slice T)) (hinfo : (P.info? T).map (fun i => (i.zero, i.size, i.bytes)) = some (some z, e.sz, bytes)) (hz : z.cells.size = e.sz)
    (x : α) (hs : a.eval s = v) (hy : a.eval y = .slice (some ⟨W.heap.size, 0, none⟩) 1 1) (HO : Ow e T W base v xs) (hbase : base ≤ W.heap.size) (hw0 : w0.heap.size ≤ base) (HE : Ext w0 W)
    (hl : (xs.length + 1) * bytes ≤ 140737488355328) (hl2 : xs.length + 1 ≤ 9223372036854775807)
    (h : ∀ v1 w1, Ow e T w1 base v1 (xs ++ [x]) → Ext w0 w1 → W.grownBy w1 v.ownBlock → (v1.ownBlock = v.ownBlock ∨ ∃ b, v1.ownBlock = some b ∧ W.heap.size ≤ b) → wpList P ops Q rest (a.put o.dst v1) w1) :
    wpList P ops Q (o :: rest) a (W.alloc (.cells (e.enc x).toArray T)) := by
  obtain ⟨i, hi, hz0, hz1, hz2⟩ := info_parts hinfo
  refine wpList_append_own_at (W.alloc (.cells (e.enc x).toArray T)) hgd s y t ho base T i z e.sz bytes ht hi hz0 hz1 hz2 hz e.pos v xs.length (e.all xs) hs (World.ownsRow.alloc HO _) ⟨W.heap.size, 0, none⟩ 1 1 (e.enc x) hy (by rw [e.len]; omega) ?_ (fun u hu => e.one x u hu) (by unfold maxLen; omega) hl (by simp; omega) ?_
  · intro j u hu
    rw [Addr.add_lit, Nat.zero_add]
    rw [World.cell?_alloc_at _ _ _ _ rfl]
    simpa using hu
  · intro v1 w1 hown hg _ hat
    have hg2 : W.grownBy w1 v.ownBlock := ⟨hg.os, hg.tape, hg.output, Nat.le_trans (by simp) hg.size, fun k hk hne => (hg.block k (by simp; omega) hne).trans (Below.heap_alloc W _ k hk)⟩
    refine h v1 w1 (by rw [Ow, List.length_append, e.all_snoc]; exact hown) ?_ hg2 ?_
    · exact HE.trans' hg2 (fun k hk => by have := (HO.lt k hk).1; omega)
    · rcases hat with hat | hat
      · exact .inl hat
      · exact .inr ⟨_, hat, by simp⟩
end
end Go.Proofs.YtegopgpnjgikeaaGreatDoor
