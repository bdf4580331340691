/-
  Trimming of texts by a set of bytes, with no program in sight.
-/
import Derived.Test.YtegopgpnjgikeaaGreatDoorL3
set_option linter.unusedVariables false
namespace Go.Proofs.YtegopgpnjgikeaaGreatDoor
open Go.RowKit
def trimR (p : UInt8 → Bool) (l : List UInt8) : List UInt8 := (l.reverse.dropWhile p).reverse
def trimLR (p : UInt8 → Bool) (l : List UInt8) : List UInt8 := (trimR p l).dropWhile p
theorem dropWhile_nil {α : Type} (p : α → Bool) (l : List α) : l.dropWhile p = [] ↔ ∀ x ∈ l, p x = true := by
  induction l with
  | nil => simp
  | cons x xs ih =>
    rw [List.dropWhile_cons]
    by_cases h : p x = true
    · rw [if_pos h, ih]; simp [h]
    · rw [if_neg h]; simp [h]
theorem trimR_nil (p : UInt8 → Bool) : trimR p [] = [] := rfl
theorem trimR_snoc (p : UInt8 → Bool) (l : List UInt8) (x : UInt8) : trimR p (l ++ [x]) = if p x = true then trimR p l else l ++ [x] := by
  unfold trimR
  rw [List.reverse_append, List.reverse_singleton, List.singleton_append, List.dropWhile_cons]
  split <;> simp
theorem trimLR_nil_iff (p : UInt8 → Bool) (l : List UInt8) : trimLR p l = [] ↔ l.all p = true := by
  unfold trimLR trimR
  constructor
  · intro h
    rw [dropWhile_nil] at h
    rw [List.all_eq_true]
    intro x hx
    by_cases hp : p x = true
    · exact hp
    · have h2 : ¬ l.reverse.dropWhile p = [] := by
        rw [dropWhile_nil]
        intro h3
        exact hp (h3 x (List.mem_reverse.2 hx))
      cases hd : l.reverse.dropWhile p with
      | nil => exact absurd hd h2
      | cons y ys =>
        rw [hd] at h
        have hy := h y (by simp)
        have := List.head_dropWhile_not p (l := l.reverse) (by rw [hd]; simp)
        simp only [hd, List.head_cons] at this
        rw [this] at hy
        simp at hy
  · intro h
    rw [List.all_eq_true] at h
    rw [(dropWhile_nil _ _).2 (fun x hx => h x (List.mem_reverse.1 hx))]
    rfl
/-- Is a byte among these? -/
def inS (l : List UInt8) (c : UInt8) : Bool := l.contains c
/-- The table of a set of bytes. -/
def tabF (l : List UInt8) : Array Value := Array.ofFn (n := 256) fun i => .bool (l.any fun c => c.toNat == i.val)
theorem tabF_nil : tabF [] = Array.ofFn (n := 256) fun _ => .bool false := by
  apply Array.ext_getElem?
  intro i
  by_cases hi : i < 256 <;> simp [tabF, hi]
theorem tabF_size (l : List UInt8) : (tabF l).size = 256 := by simp [tabF]
theorem tabF_get (l : List UInt8) (i : Nat) (hi : i < 256) : (tabF l)[i]? = some (.bool (l.any fun c => c.toNat == i)) := by
  simp [tabF, hi]
theorem tabF_has (l : List UInt8) (c : UInt8) : (tabF l)[c.toNat]? = some (.bool (inS l c)) := by
  unfold inS
  rw [tabF_get l _ c.toNat_lt]
  congr 2
  induction l with
  | nil => rfl
  | cons x xs ih =>
    rw [List.any_cons, List.contains_cons, ih]
    congr 1
    rw [Bool.eq_iff_iff, beq_iff_eq, beq_iff_eq]
    exact ⟨fun h => (UInt8.toNat_inj.1 h).symm, fun h => by rw [h]⟩
theorem tabF_set (l : List UInt8) (c : UInt8) : (tabF l).setIfInBounds c.toNat (.bool true) = tabF (l ++ [c]) := by
  apply Array.ext_getElem?
  intro i
  rw [Array.getElem?_setIfInBounds]
  by_cases hi : i < 256
  · rw [tabF_get _ i hi, tabF_get _ i hi, tabF_size, List.any_append]
    by_cases hc : c.toNat = i
    · subst hc; simp [c.toNat_lt]
    · rw [if_neg hc]; simp [hc]
  · rw [if_neg (by have := c.toNat_lt; omega), Array.getElem?_eq_none (by rw [tabF_size]; omega), Array.getElem?_eq_none (by rw [tabF_size]; omega)]
theorem tabF_one (l : List UInt8) : (tabF l).all (·.oneCell') = true := by
  rw [Array.all_eq_true]
  intro i hi
  simp [tabF, Value.oneCell']
theorem bytes_snoc (t : ByteArray) (h : 0 < t.size) : t.data.toList = (t.extract 0 (t.size - 1)).data.toList ++ [t[t.size - 1]] := by
  obtain ⟨a⟩ := t
  obtain ⟨l⟩ := a
  have h' : 0 < l.length := h
  show l = _ ++ [l[l.length - 1]]
  have e : (ByteArray.extract ⟨⟨l⟩⟩ 0 (l.length - 1)).data.toList = l.take (l.length - 1) := by
    simp [ByteArray.data_extract, List.dropLast_eq_take]
  rw [show (ByteArray.size ⟨⟨l⟩⟩) = l.length from rfl, e, ← List.take_succ_eq_append_getElem (by omega), show l.length - 1 + 1 = l.length by omega, List.take_length]
theorem bytes_cons (t : ByteArray) (h : 0 < t.size) : t.data.toList = t[0] :: (t.extract 1 t.size).data.toList := by
  obtain ⟨a⟩ := t
  obtain ⟨l⟩ := a
  have h' : 0 < l.length := h
  show l = l[0] :: _
  have e : (ByteArray.extract ⟨⟨l⟩⟩ 1 l.length).data.toList = l.drop 1 := by
    simp [ByteArray.data_extract, List.take_of_length_le]
  rw [show (ByteArray.size ⟨⟨l⟩⟩) = l.length from rfl, e, ← List.drop_eq_getElem_cons h', List.drop_zero]
theorem bytes_none (t : ByteArray) (h : ¬ 0 < t.size) : t.data.toList = [] := by
  obtain ⟨a⟩ := t
  obtain ⟨l⟩ := a
  have h' : ¬ 0 < l.length := h
  show l = []
  exact List.eq_nil_of_length_eq_zero (by omega)
theorem heap_setCells_box (W : World) (b : Nat) : ∀ (vs : List Value) (o : Nat) (cs : Array Value) (t : TypeId), BoxAt W b cs t → o + vs.length ≤ cs.size →
    ∃ c2 : Array Value, BoxAt (W.setCells b o vs) b c2 t ∧ c2.size = cs.size ∧ ∀ i, c2[i]? = if o ≤ i ∧ i < o + vs.length then vs[i - o]? else cs[i]? := by
  intro vs
  induction vs generalizing W with
  | nil => intro o cs t h _; exact ⟨cs, h, rfl, fun i => by rw [if_neg (by simp)]⟩
  | cons v r ih =>
    intro o cs t h hl
    rw [List.length_cons] at hl
    obtain ⟨c2, g1, g2, g3⟩ := ih (W.setCell ⟨b, o, none⟩ v) (o + 1) (cs.setIfInBounds o v) t (h.set o v) (by simp; omega)
    refine ⟨c2, g1, by simpa using g2, fun i => ?_⟩
    rw [g3 i, List.length_cons]
    by_cases h1 : i = o
    · subst h1
      rw [if_neg (by omega), if_pos (by omega), Nat.sub_self, List.getElem?_cons_zero, Array.getElem?_setIfInBounds_self, if_pos (by omega)]
    · by_cases h2 : o + 1 ≤ i ∧ i < o + 1 + r.length
      · rw [if_pos h2, if_pos (by omega), show i - o = (i - (o + 1)) + 1 by omega, List.getElem?_cons_succ]
      · rw [if_neg h2, if_neg (by omega), Array.getElem?_setIfInBounds_ne (by omega)]
/-- A new variable whose cells are not looked at. -/
theorem wpList_alloc_box {P : Program} {ops : Array Oper} {rest : List Oper} {o : Oper} {a : Act} {Q : Exit → Act → World → Prop} {W : World} (hgd : o.guard = none) (t : TypeId) (ho : o.op = .alloc t) (cs : Array Value)
    (ha : ∀ W : World, (Instr.alloc t true (.tuple #[])).run P W = .ok (.pointer (some ⟨W.heap.size, 0, none⟩)) (W.alloc (.cells cs t)))
    (h : ∀ W1, BoxAt W1 W.heap.size cs t → Ext W W1 → W.heap.size < W1.heap.size → wpList P ops Q rest (a.put o.dst (.pointer (some ⟨W.heap.size, 0, none⟩))) W1) : wpList P ops Q (o :: rest) a W := by
  refine wpList_plain hgd fun K hK => ?_
  unfold Oper.wp execOp
  simp only [ho, Sem.run_bind, ha, Result.andThen_ok]
  exact hK _ _ (h _ (BoxAt.new _ _ _) ((Ext.refl _).alloc _) (by simp))
/-- A whole value is stored into a variable of as many cells. -/
theorem wpList_store_box {P : Program} {ops : Array Oper} {rest : List Oper} {o : Oper} {a : Act} {Q : Exit → Act → World → Prop} {W w0 : World} (hgd : o.guard = none) (ty : TypeId) (x y : Operand) (ho : o.op = .store ty x y)
    (b : Nat) (cs cs' : Array Value) (hB : BoxAt W b cs ty) (hx : a.eval x = .pointer (some ⟨b, 0, none⟩)) (hy : a.eval y = .agg cs') (hn : cs'.size = cs.size) (hi : (P.info? ty).map (·.size) = some cs'.size) (h1 : cs'.all (·.oneCell') = true) (hw : Ext w0 W) (hb : w0.heap.size ≤ b)
    (h : ∀ W1, BoxAt W1 b cs' ty → Ext w0 W1 → W.grownBy W1 (some b) → wpList P ops Q rest (a.put o.dst undef) W1) : wpList P ops Q (o :: rest) a W := by
  refine wpList_store_mid hgd ty x y ho b 0 cs' hx hy (hB.there _ hn) hi h1 (h _ ?_ ?_ (grown_setCells _ _ _ _))
  · have hr := World.rangeAt_setCells_same W b 0 cs'.toList (by simpa using hB.there _ hn)
    obtain ⟨c2, g1, g2, g3⟩ := heap_setCells_box W b cs'.toList 0 cs ty hB (by simp; omega)
    have : c2 = cs' := by
      apply Array.ext_getElem?
      intro i
      by_cases hi : i < cs'.size
      · rw [g3 i, if_pos (by simp; omega), Nat.sub_zero, Array.getElem?_toList]
      · rw [Array.getElem?_eq_none (by omega), Array.getElem?_eq_none (by omega)]
    rw [this] at g1
    exact g1
  · exact hw.trans' (grown_setCells _ _ _ _) (fun q hq => by simp at hq; omega)
attribute [irreducible] tabF
end Go.Proofs.YtegopgpnjgikeaaGreatDoor
