/-
  PK2: the texts L2 L3 E0 E1 E2 T0 in one (written by pack.py).
-/
import Derived.Test.YtdiblmlcapommaaGreatDoorPK1
import Derived.Maps.AppendAt
import Derived.OwnWalk
import Derived.Deep.MidRow
import Derived.Test.YtdiblmlcapommaaGreatDoorRows
import Derived.Lib.SplitLaws
set_option linter.unusedVariables false
namespace Go.Proofs.YtdiblmlcapommaaGreatDoor
open Go.RowKit

/-- How an element lies in cells. -/
structure Enc (α : Type) where
  enc : α → List Value
  sz : Nat
  len : ∀ x, (enc x).length = sz
  one : ∀ x u, u ∈ enc x → u.oneCell' = true
  pos : 0 < sz
section
variable {α : Type} {e : Enc α} {w w' w0 : World} {A : Option Addr} {xs : List α} {T : TypeId} {base : Nat} {v : Value}
def Enc.all (e : Enc α) (xs : List α) : List Value := xs.flatMap e.enc
theorem Enc.all_length (e : Enc α) (xs : List α) : (e.all xs).length = xs.length * e.sz := by
  unfold Enc.all
  induction xs with
  | nil => simp
  | cons x xs ih => rw [List.flatMap_cons, List.length_append, ih, e.len, List.length_cons, Nat.add_mul]; omega
theorem Enc.all_snoc (e : Enc α) (xs : List α) (x : α) : e.all (xs ++ [x]) = e.all xs ++ e.enc x := by simp [Enc.all]
theorem Enc.all_append (e : Enc α) (xs ys : List α) : e.all (xs ++ ys) = e.all xs ++ e.all ys := by simp [Enc.all]
theorem Enc.all_get (e : Enc α) (xs : List α) (k j : Nat) (hk : k < xs.length) (hj : j < e.sz) : (e.all xs)[k * e.sz + j]? = (e.enc xs[k])[j]? := by
  unfold Enc.all
  induction xs generalizing k with
  | nil => simp at hk
  | cons x xs ih =>
    cases k with
    | zero => rw [List.flatMap_cons, List.getElem?_append_left (by rw [e.len]; omega)]; simp
    | succ k =>
      rw [List.flatMap_cons, List.getElem?_append_right (by rw [e.len, Nat.add_mul]; omega), e.len, show (k + 1) * e.sz + j - e.sz = k * e.sz + j by rw [Nat.add_mul]; omega]
      simpa using ih k (by simpa using hk)
theorem Enc.all_one (e : Enc α) (xs : List α) : ∀ u ∈ e.all xs, u.oneCell' = true := fun u hu => by
  obtain ⟨x, _, hx⟩ := List.mem_flatMap.1 hu
  exact e.one x u hx
/-- The slice at A reads as xs. -/
def Rd (e : Enc α) (w : World) (A : Option Addr) (xs : List α) : Prop :=
  ∀ k (h : k < xs.length), ∃ b off, A = some ⟨b, off, none⟩ ∧ b < w.heap.size ∧ ∀ j u, (e.enc xs[k])[j]? = some u → w.cell? ⟨b, off + k * e.sz + j, none⟩ = some u
/-- The slice v is the call's own, from block base on, and reads as xs. -/
def Ow (e : Enc α) (T : TypeId) (w : World) (base : Nat) (v : Value) (xs : List α) : Prop := w.ownsRow base T e.sz v xs.length (e.all xs)
theorem Rd.ext (h : Rd e w A xs) (hb : Ext w w') : Rd e w' A xs := fun k hk => by
  obtain ⟨b, off, hA, hlt, hc⟩ := h k hk
  exact ⟨b, off, hA, Nat.lt_of_lt_of_le hlt hb.size, fun j u hu => hb.cell (hc j u hu)⟩
theorem Rd.nil (e : Enc α) (w : World) (A : Option Addr) : Rd e w A [] := fun k hk => by simp at hk
theorem Ow.keep (h : Ow e T w base v xs) (hm : ∀ k, v.ownBlock = some k → w'.heap[k]? = w.heap[k]?) : Ow e T w' base v xs := by
  obtain ⟨h1, h2⟩ := h
  refine ⟨h1, ?_⟩
  rcases h2 with h2 | ⟨g, cap, cur, rfl, hg, hh, r⟩
  · exact .inl h2
  · exact .inr ⟨g, cap, cur, rfl, hg, (hm g (by simp [Value.ownBlock])).trans hh, r⟩
theorem Ow.ext (h : Ow e T w base v xs) (hb : Ext w w') : Ow e T w' base v xs :=
  h.keep fun k hk => hb.block k (h.lt k hk).2
theorem Ow.grown (h : Ow e T w base v xs) {row : Option Nat} (hg : w.grownBy w' row) (hne : v.ownBlock = none ∨ v.ownBlock ≠ row) : Ow e T w' base v xs := h.kept hg hne
theorem Ow.far (h : Ow e T w base v xs) {p : Addr} (hne : v.ownBlock ≠ some p.block) (u : Value) : Ow e T (w.setCell p u) base v xs :=
  h.keep fun k hk => Below.heap_setCell w p u k (fun e => hne (by rw [hk, e]))
theorem Ow.slice (h : Ow e T w base v xs) : ∃ A cap, v = .slice A xs.length cap ∧ xs.length ≤ cap ∧ Rd e w A xs := by
  rcases h.2 with ⟨rfl, h0⟩ | ⟨g, cap, cur, rfl, hg, hh, hle, _, _, _⟩
  · have : xs = [] := List.eq_nil_of_length_eq_zero h0
    subst this
    exact ⟨none, 0, rfl, Nat.le_refl _, Rd.nil _ _ _⟩
  · refine ⟨_, cap, rfl, hle, fun k hk => ⟨g, 0, rfl, (Array.getElem?_eq_some_iff.1 hh).1, fun j u hu => ?_⟩⟩
    have hj : j < e.sz := by rw [← e.len xs[k]]; exact (List.getElem?_eq_some_iff.1 hu).1
    have := World.ownsRow.cells h (g := g) (by simp [Value.ownBlock]) (k * e.sz + j) u (by rw [e.all_get xs k j hk hj]; exact hu)
    rw [show (⟨g, 0, none⟩ : Addr).add (k * e.sz + j) = ⟨g, 0 + (k * e.sz + j), none⟩ from Addr.add_lit g 0 _] at this
    rw [Nat.add_assoc]
    exact this
theorem Ow.nil (e : Enc α) (T : TypeId) (w : World) (base : Nat) : Ow e T w base (.slice none 0 0) [] := World.ownsRow_nil w base T e.sz
theorem Ow.lower {base' : Nat} (h : Ow e T w base v xs) (hb : base' ≤ base) : Ow e T w base' v xs := by
  obtain ⟨h1, h2⟩ := h
  refine ⟨h1, ?_⟩
  rcases h2 with h2 | ⟨g, cap, cur, rfl, hg, r⟩
  · exact .inl h2
  · exact .inr ⟨g, cap, cur, rfl, Nat.le_trans hb hg, r⟩
/-- A slice that a literal or a make has just laid. -/
theorem Ow.made (e : Enc α) (T : TypeId) (w : World) (xs : List α) (cs : Array Value) (hb : base ≤ w.heap.size) (hm : xs.length ≤ 9223372036854775807) (hc : cs.toList = e.all xs) :
    Ow e T (w.alloc (.cells cs T)) base (.slice (some ⟨w.heap.size, 0, none⟩) xs.length xs.length) xs := by
  have hl : cs.size = xs.length * e.sz := by rw [← Array.length_toList, hc, e.all_length]
  have := World.ownsRow_lit (base := base) (e := T) (size := e.sz) w cs xs.length hb (by unfold maxLen; omega) hl
  rw [hc] at this
  exact this
/-- append(v, x): x lies in a box of its own. -/
theorem wpList_push {P : Program} {ops : Array Oper} {rest : List Oper} {o : Oper} {a : Act} {Q : Exit → Act → World → Prop} (e : Enc α) {W : World} (hgd : o.guard = none) (s y : Operand) (t : TypeId) (z : Value) (bytes : Nat)
    (ho : o.op = .call { callee := .builtin .append, args := #[s, y], argTypes := #[t, t] })
    (ht : P.underlying t = some (.slice T)) (hinfo : (P.info? T).map (fun i => (i.zero, i.size, i.bytes)) = some (some z, e.sz, bytes)) (hz : z.cells.size = e.sz)
    (x : α) (hs : a.eval s = v) (hy : a.eval y = .slice (some ⟨W.heap.size, 0, none⟩) 1 1) (HO : Ow e T W base v xs) (hbase : base ≤ W.heap.size) (hw0 : w0.heap.size ≤ base) (HE : Ext w0 W)
    (hl : (xs.length + 1) * bytes ≤ 140737488355328) (hl2 : xs.length + 1 ≤ 9223372036854775807)
    (h : ∀ v1 w1, Ow e T w1 base v1 (xs ++ [x]) → Ext w0 w1 → W.grownBy w1 v.ownBlock → (v1.ownBlock = v.ownBlock ∨ ∃ b, v1.ownBlock = some b ∧ W.heap.size ≤ b) → wpList P ops Q rest (a.put o.dst v1) w1) :
    wpList P ops Q (o :: rest) a (W.alloc (.cells (e.enc x).toArray T)) := by
  obtain ⟨i, hi, hz0, hz1, hz2⟩ := info_parts hinfo
  refine wpList_append_own_at (W.alloc (.cells (e.enc x).toArray T)) hgd s y t ho base T i z e.sz bytes ht hi hz0 hz1 hz2 hz e.pos v xs.length (e.all xs) hs (World.ownsRow.alloc HO _) ⟨W.heap.size, 0, none⟩ 1 1 (e.enc x) hy (by rw [e.len]; omega) ?_ (fun u hu => e.one x u hu) (by unfold maxLen; omega) hl (by simp; omega) ?_
  · intro j u hu
    rw [Addr.add_lit, Nat.zero_add]
    rw [World.cell?_alloc_at _ _ _ _ rfl]
    simpa using hu
  · intro v1 w1 hown hg _ hat
    have hg2 : W.grownBy w1 v.ownBlock := ⟨hg.os, hg.tape, hg.output, Nat.le_trans (by simp) hg.size, fun k hk hne => (hg.block k (by simp; omega) hne).trans (Below.heap_alloc W _ k hk)⟩
    refine h v1 w1 (by rw [Ow, List.length_append, e.all_snoc]; exact hown) ?_ hg2 ?_
    · exact HE.trans' hg2 (fun k hk => by have := (HO.lt k hk).1; omega)
    · rcases hat with hat | hat
      · exact .inl hat
      · exact .inr ⟨_, hat, by simp⟩
end
end Go.Proofs.YtdiblmlcapommaaGreatDoor
set_option linter.unusedVariables false
namespace Go.Proofs.YtdiblmlcapommaaGreatDoor
open Go.RowKit

section
variable {α : Type} {e : Enc α} {w w' w0 : World} {A : Option Addr} {xs : List α} {T : TypeId} {base : Nat} {v : Value}
def setL (xs : List Value) : Nat → List Value → List Value
  | _, [] => xs
  | o, v :: r => setL (xs.set o v) (o + 1) r
theorem setL_length (vs : List Value) : ∀ (xs : List Value) (o : Nat), (setL xs o vs).length = xs.length := by
  induction vs with
  | nil => intro xs o; rfl
  | cons v r ih => intro xs o; rw [setL, ih, List.length_set]
theorem setL_get (vs : List Value) : ∀ (xs : List Value) (o i : Nat), o + vs.length ≤ xs.length → (setL xs o vs)[i]? = if o ≤ i ∧ i < o + vs.length then vs[i - o]? else xs[i]? := by
  induction vs with
  | nil => intro xs o i h; rw [setL, if_neg (by simp)]
  | cons v r ih =>
    intro xs o i h
    rw [List.length_cons] at h
    rw [setL, ih _ _ _ (by rw [List.length_set]; omega), List.length_cons]
    by_cases h1 : i = o
    · subst h1
      rw [if_neg (by omega), if_pos (by omega), List.getElem?_set_self (by omega), Nat.sub_self, List.getElem?_cons_zero]
    · by_cases h2 : o + 1 ≤ i ∧ i < o + 1 + r.length
      · rw [if_pos h2, if_pos (by omega), show i - o = (i - (o + 1)) + 1 by omega, List.getElem?_cons_succ]
      · rw [if_neg h2, if_neg (by omega), List.getElem?_set_ne (by omega)]
theorem Enc.all_set (e : Enc α) (xs : List α) (k : Nat) (z : α) (hk : k < xs.length) : setL (e.all xs) (k * e.sz) (e.enc z) = e.all (xs.set k z) := by
  have hle : k * e.sz + (e.enc z).length ≤ (e.all xs).length := by
    rw [e.len, e.all_length, ← Nat.succ_mul]
    exact Nat.mul_le_mul_right _ hk
  apply List.ext_getElem?
  intro i
  rw [setL_get _ _ _ _ hle, e.len]
  by_cases hi : i < xs.length * e.sz
  · have hq : i / e.sz < xs.length := (Nat.div_lt_iff_lt_mul e.pos).2 hi
    have hr : i % e.sz < e.sz := Nat.mod_lt _ e.pos
    have hd : i = i / e.sz * e.sz + i % e.sz := by rw [Nat.mul_comm]; exact (Nat.div_add_mod i e.sz).symm
    have hR := e.all_get (xs.set k z) (i / e.sz) (i % e.sz) (by rw [List.length_set]; exact hq) hr
    have hL := e.all_get xs (i / e.sz) (i % e.sz) hq hr
    rw [← hd] at hR hL
    rw [hR, hL]
    by_cases hk2 : i / e.sz = k
    · subst hk2
      rw [if_pos ⟨by omega, by omega⟩, List.getElem_set_self]
      congr 1
      omega
    · rw [if_neg, List.getElem_set_ne (Ne.symm hk2)]
      intro ⟨h1, h2⟩
      refine hk2 (Nat.le_antisymm ?_ ?_)
      · exact Nat.le_of_lt_succ ((Nat.div_lt_iff_lt_mul e.pos).2 (by rw [Nat.succ_mul]; exact h2))
      · exact (Nat.le_div_iff_mul_le e.pos).2 h1
  · rw [if_neg, List.getElem?_eq_none (by rw [e.all_length]; omega), List.getElem?_eq_none (by rw [e.all_length, List.length_set]; omega)]
    intro ⟨h1, h2⟩
    rw [e.len, e.all_length] at hle
    omega
theorem heap_setCells (b : Nat) (k : Nat) (hk : k ≠ b) : ∀ (vs : List Value) (o : Nat) (w : World), (w.setCells b o vs).heap[k]? = w.heap[k]?
  | [], _, _ => rfl
  | v :: r, o, w => by rw [World.setCells, heap_setCells b k hk r, Below.heap_setCell w _ v k hk]
theorem size_setCells (b : Nat) : ∀ (vs : List Value) (o : Nat) (w : World), (w.setCells b o vs).heap.size = w.heap.size
  | [], _, _ => rfl
  | v :: r, o, w => by rw [World.setCells, size_setCells b r]; simp
theorem same_setCells (b : Nat) : ∀ (vs : List Value) (o : Nat) (w : World), (w.setCells b o vs).os = w.os ∧ (w.setCells b o vs).tape = w.tape ∧ (w.setCells b o vs).output = w.output
  | [], _, _ => ⟨rfl, rfl, rfl⟩
  | v :: r, o, w => by rw [World.setCells]; exact same_setCells b r _ _
theorem grown_setCells (w : World) (b o : Nat) (vs : List Value) : w.grownBy (w.setCells b o vs) (some b) := by
  obtain ⟨h1, h2, h3⟩ := same_setCells b vs o w
  exact ⟨h1, h2, h3, Nat.le_of_eq (size_setCells b vs o w).symm, fun k _ hk => heap_setCells b k (fun h => hk (by rw [h])) vs o w⟩
theorem ownsRow_setCells {sz g n cap : Nat} : ∀ (vs : List Value) (o : Nat) (w : World) (xs : List Value), w.ownsRow base T sz (.slice (some ⟨g, 0, none⟩) n cap) n xs → (w.setCells g o vs).ownsRow base T sz (.slice (some ⟨g, 0, none⟩) n cap) n (setL xs o vs)
  | [], _, _, _, h => h
  | v :: r, o, w, xs, h => by
    rw [World.setCells, setL]
    exact ownsRow_setCells r _ _ _ (World.ownsRow.stored h o v).1
/-- An element of the call's own slice is set. -/
theorem Ow.set {g cap : Nat} (h : Ow e T w base (.slice (some ⟨g, 0, none⟩) xs.length cap) xs) (k : Nat) (hk : k < xs.length) (z : α) :
    Ow e T (w.setCells g (k * e.sz) (e.enc z)) base (.slice (some ⟨g, 0, none⟩) xs.length cap) (xs.set k z) := by
  have := ownsRow_setCells (e.enc z) (k * e.sz) w _ h
  rw [e.all_set xs k z hk] at this
  rw [Ow, List.length_set]
  exact this
theorem Ow.base_le {g n cap : Nat} (h : Ow e T w base (.slice (some ⟨g, 0, none⟩) n cap) xs) : base ≤ g := (h.lt g rfl).1
theorem Ow.cap_len {g n cap : Nat} (h : Ow e T w base (.slice (some ⟨g, 0, none⟩) n cap) xs) : n = xs.length := by
  rcases h.2 with ⟨h', _⟩ | ⟨g', cap', cur, h', _⟩
  · simp at h'
  · simp only [Value.slice.injEq] at h'
    omega
/-- An element of several cells is stored. -/
theorem wpList_put {P : Program} {ops : Array Oper} {rest : List Oper} {o : Oper} {a : Act} {Q : Exit → Act → World → Prop} (e : Enc α) {W : World} (hgd : o.guard = none) (ty : TypeId) (x y : Operand) (ho : o.op = .store ty x y)
    (hi : (P.info? ty).map (·.size) = some e.sz) {g n cap : Nat} (HO : Ow e T W base (.slice (some ⟨g, 0, none⟩) n cap) xs) (k : Nat) (hk : k < n) (hx : a.eval x = .pointer (some ⟨g, k * e.sz, none⟩))
    (z : α) (hy : a.eval y = .agg (e.enc z).toArray) (hw0 : w0.heap.size ≤ base) (HE : Ext w0 W)
    (h : ∀ w1, Ow e T w1 base (.slice (some ⟨g, 0, none⟩) n cap) (xs.set k z) → Ext w0 w1 → W.grownBy w1 (some g) → wpList P ops Q rest (a.put o.dst undef) w1) :
    wpList P ops Q (o :: rest) a W := by
  obtain rfl := HO.cap_len
  have hg := HO.base_le
  have hle : k * e.sz + (e.enc z).length ≤ (e.all xs).length := by
    rw [e.len, e.all_length, ← Nat.succ_mul]
    exact Nat.mul_le_mul_right _ hk
  refine wpList_store_mid hgd ty x y ho g (k * e.sz) (e.enc z).toArray hx hy ?_ (by rw [hi]; simp [e.len]) (all_oneCell_toArray (e.one z)) ?_
  · intro j hj
    have hj2 : k * e.sz + j < (e.all xs).length := by simp at hj; omega
    refine ⟨?_, World.ownsRow.frozenAt HO _⟩
    have := World.ownsRow.cells HO (g := g) (by simp [Value.ownBlock]) (k * e.sz + j) _ (List.getElem?_eq_getElem hj2)
    rw [show (⟨g, 0, none⟩ : Addr).add (k * e.sz + j) = ⟨g, 0 + (k * e.sz + j), none⟩ from Addr.add_lit g 0 _, Nat.zero_add] at this
    rw [this]
    rfl
  · have hgr := grown_setCells W g (k * e.sz) (e.enc z).toArray.toList
    refine h _ (by simpa using HO.set k hk z) ?_ hgr
    exact HE.trans' hgr (fun q hq => by simp at hq; omega)
theorem madeCells_all (e : Enc α) (z : α) (n : Nat) : (madeCells (e.enc z).toArray (n * e.sz)).toList = e.all (List.replicate n z) := by
  apply List.ext_getElem?
  intro i
  by_cases hi : i < n * e.sz
  · have hq : i / e.sz < n := (Nat.div_lt_iff_lt_mul e.pos).2 hi
    have hr : i % e.sz < e.sz := Nat.mod_lt _ e.pos
    have hd : i = i / e.sz * e.sz + i % e.sz := by rw [Nat.mul_comm]; exact (Nat.div_add_mod i e.sz).symm
    have hR := e.all_get (List.replicate n z) (i / e.sz) (i % e.sz) (by simpa using hq) hr
    rw [← hd] at hR
    have hs : (e.enc z).toArray.size = e.sz := by simp [e.len]
    rw [hR, List.getElem_replicate]
    have hr' : i % e.sz < (e.enc z).length := by rw [e.len]; exact hr
    simp [madeCells, hi, e.len, List.getElem?_eq_getElem hr']
  · rw [List.getElem?_eq_none (by simp [size_madeCells]; omega), List.getElem?_eq_none (by rw [e.all_length]; simp; omega)]
/-- 'make([]T, n)'. -/
theorem wpList_made {P : Program} {ops : Array Oper} {rest : List Oper} {o : Oper} {a : Act} {Q : Exit → Act → World → Prop} (e : Enc α) {W : World} (hgd : o.guard = none) (l c : Operand) (t : TypeId) (ho : o.op = Op.makeSlice t l c)
    (z : α) (zv : Value) (bytes : Nat) (ht : P.underlying t = some (.slice T)) (hinfo : (P.info? T).map (fun i => (i.zero, i.size, i.bytes)) = some (some zv, e.sz, bytes)) (hz : zv.cells = (e.enc z).toArray)
    (kl kc : IntKind) (n : Nat) (hl : a.eval l = .int kl (n : Int)) (hc : a.eval c = .int kc (n : Int)) (hb : n * bytes ≤ 281474976710656) (hm : n ≤ 9223372036854775807) (hbase : base ≤ W.heap.size) (hw0 : w0.heap.size ≤ base) (HE : Ext w0 W)
    (h : ∀ w1, Ow e T w1 base (.slice (some ⟨W.heap.size, 0, none⟩) n n) (List.replicate n z) → Ext w0 w1 → W.grownBy w1 none → wpList P ops Q rest (a.put o.dst (.slice (some ⟨W.heap.size, 0, none⟩) n n)) w1) :
    wpList P ops Q (o :: rest) a W := by
  obtain ⟨i, hi, hz0, hz1, hz2⟩ := info_parts hinfo
  refine wpList_make_full W hgd l c t ho base T i zv e.sz ht hi hz0 hz1 kl kc n n n hl hc rfl rfl (by rw [hz2, Nat.mul_comm]; exact hb) (by unfold maxLen; omega) hbase ?_
  intro w1 hown hgr
  refine h w1 ?_ (HE.trans' hgr (fun q hq => by simp at hq)) hgr
  rw [hz, madeCells_all] at hown
  rw [Ow, List.length_replicate]
  exact hown
end
section
/-- The first k are set, the others are zero yet. -/
def fill {α : Type} (xs : List α) (z : α) (k : Nat) : List α := xs.take k ++ List.replicate (xs.length - k) z
theorem fill_zero {α : Type} (xs : List α) (z : α) : fill xs z 0 = List.replicate xs.length z := by simp [fill]
theorem fill_full {α : Type} (xs : List α) (z : α) : fill xs z xs.length = xs := by simp [fill]
theorem fill_set {α : Type} (xs : List α) (z : α) (k : Nat) (hk : k < xs.length) : (fill xs z k).set k xs[k] = fill xs z (k + 1) := by
  unfold fill
  rw [List.set_append_right _ _ (by simp; omega), List.length_take, Nat.min_eq_left (by omega), Nat.sub_self, show xs.length - k = (xs.length - (k + 1)) + 1 by omega, List.replicate_succ, List.set_cons_zero, List.take_succ_eq_append_getElem hk, List.append_assoc, List.singleton_append]
end
section
variable {α : Type}
theorem any_take (p : α → Bool) (xs : List α) (k : Nat) (hk : k < xs.length) : (xs.take (k + 1)).any p = ((xs.take k).any p || p xs[k]) := by
  rw [List.take_succ_eq_append_getElem hk, List.any_append]; simp
theorem all_take (p : α → Bool) (xs : List α) (k : Nat) (hk : k < xs.length) : (xs.take (k + 1)).all p = ((xs.take k).all p && p xs[k]) := by
  rw [List.take_succ_eq_append_getElem hk, List.all_append]; simp
theorem any_hit (p : α → Bool) (xs : List α) (k : Nat) (hk : k < xs.length) (h : p xs[k] = true) : xs.any p = true := List.any_eq_true.2 ⟨xs[k], List.getElem_mem hk, h⟩
theorem all_miss (p : α → Bool) (xs : List α) (k : Nat) (hk : k < xs.length) (h : p xs[k] = false) : xs.all p = false := by
  rw [List.all_eq_false]; exact ⟨xs[k], List.getElem_mem hk, by simp [h]⟩
theorem count_take (p : α → Bool) (xs : List α) (k : Nat) (hk : k < xs.length) : (xs.take (k + 1)).countP p = (xs.take k).countP p + if p xs[k] then 1 else 0 := by
  rw [List.take_succ_eq_append_getElem hk, List.countP_append]; simp [List.countP_cons]
/-- Are two lists equal by q? -/
def eqL (q : α → α → Bool) : List α → List α → Bool
  | [], [] => true
  | x :: xs, y :: ys => q x y && eqL q xs ys
  | _, _ => false
theorem eqL_drop (q : α → α → Bool) (xs ys : List α) (k : Nat) (hk : k < xs.length) (hy : k < ys.length) : eqL q (xs.drop k) (ys.drop k) = (q xs[k] ys[k] && eqL q (xs.drop (k + 1)) (ys.drop (k + 1))) := by
  rw [List.drop_eq_getElem_cons hk, List.drop_eq_getElem_cons hy, eqL]
theorem eqL_end (q : α → α → Bool) (xs ys : List α) (k : Nat) (hk : xs.length ≤ k) (hy : ys.length ≤ k) : eqL q (xs.drop k) (ys.drop k) = true := by
  rw [List.drop_eq_nil_of_le hk, List.drop_eq_nil_of_le hy, eqL]
theorem eqL_len (q : α → α → Bool) : ∀ (xs ys : List α), xs.length ≠ ys.length → eqL q xs ys = false
  | [], [], h => absurd rfl h
  | [], _ :: _, _ => rfl
  | _ :: _, [], _ => rfl
  | x :: xs, y :: ys, h => by rw [eqL, eqL_len q xs ys (fun e => h (by simp [e])), Bool.and_false]
theorem eqL_refl (q : α → α → Bool) (hq : ∀ x, q x x = true) : ∀ xs : List α, eqL q xs xs = true
  | [] => rfl
  | x :: xs => by rw [eqL, hq, eqL_refl q hq xs, Bool.and_true]
/-- The first place at which p holds, or -1. -/
def fidx (p : α → Bool) (xs : List α) : Int := match xs.findIdx? p with | some k => k | none => -1
theorem fidx_hit (p : α → Bool) (xs : List α) (k : Nat) (hk : k < xs.length) (h : p xs[k] = true) (h0 : (xs.take k).any p = false) : fidx p xs = k := by
  have : xs.findIdx? p = some k := by
    rw [List.findIdx?_eq_some_iff_getElem]
    refine ⟨hk, h, fun j hj => ?_⟩
    rw [List.any_eq_false] at h0
    have := h0 xs[j] (List.mem_take_iff_getElem.2 ⟨j, by omega, rfl⟩)
    simpa using this
  rw [fidx, this]
theorem fidx_none (p : α → Bool) (xs : List α) (h0 : xs.any p = false) : fidx p xs = -1 := by
  have : xs.findIdx? p = none := by
    rw [List.findIdx?_eq_none_iff]
    rw [List.any_eq_false] at h0
    intro x hx
    simpa using h0 x hx
  rw [fidx, this]
theorem fidx_ge (p : α → Bool) (xs : List α) : (fidx p xs ≥ 0) ↔ xs.any p = true := by
  cases h : xs.any p with
  | false => rw [fidx_none p xs h]; simp
  | true =>
    simp only [iff_true]
    unfold fidx
    cases h2 : xs.findIdx? p with
    | some k => simp
    | none =>
      rw [List.findIdx?_eq_none_iff] at h2
      obtain ⟨x, hx, hp⟩ := List.any_eq_true.1 h
      rw [h2 x hx] at hp
      simp at hp
theorem fidx_lt (p : α → Bool) (xs : List α) : fidx p xs < xs.length := by
  unfold fidx
  cases h2 : xs.findIdx? p with
  | some k =>
    obtain ⟨h, _⟩ := List.findIdx?_eq_some_iff_getElem.1 h2
    simp only
    omega
  | none => simp only; omega
end
/-- The elements of a slice of masks. -/
def encMask : Enc Mask where
  enc m := [.int .u64 (lo m), .int .u64 (hi m)]
  sz := 2
  len _ := rfl
  one m u hu := by
    simp only [List.mem_cons, List.not_mem_nil, or_false] at hu
    rcases hu with rfl | rfl <;> rfl
  pos := by decide
theorem Rd.mask {w : World} {b off : Nat} {xs : List Mask} (h : Rd encMask w (some ⟨b, off, none⟩) xs) (k : Nat) (hk : k < xs.length) :
    w.cell? ⟨b, off + k * 2, none⟩ = some (.int .u64 (lo xs[k])) ∧ w.cell? ⟨b, off + k * 2 + 1, none⟩ = some (.int .u64 (hi xs[k])) ∧ b < w.heap.size := by
  obtain ⟨b', off', e1, hlt, hc⟩ := h k hk
  simp only [Option.some.injEq, Addr.mk.injEq, and_true] at e1
  obtain ⟨rfl, rfl⟩ := e1
  exact ⟨hc 0 _ rfl, hc 1 _ rfl, hlt⟩
/-- How many masks have a hole. -/
def votesN (h : Int) (xs : List Mask) : Int := (xs.countP (fun m => mhas m h) : Nat)
theorem votesN_nil (h : Int) : votesN h [] = 0 := rfl
theorem votesN_take (h : Int) (xs : List Mask) (k : Nat) (hk : k < xs.length) : votesN h (xs.take (k + 1)) = votesN h (xs.take k) + if mhas xs[k] h = true then 1 else 0 := by
  unfold votesN
  rw [count_take _ xs k hk]
  split <;> simp
theorem votesN_ge (h : Int) (xs : List Mask) : 0 ≤ votesN h xs := by unfold votesN; omega
theorem votesN_le (h : Int) (xs : List Mask) : votesN h xs ≤ xs.length := by
  unfold votesN
  have := List.countP_le_length (p := fun m => mhas m h) (l := xs)
  omega
/-- The code of some masks. -/
def masksCode (xs : List Mask) : Int := if xs.all isMaskB = true then (if 15 < xs.length then 2 else 0) else 1
/-- What is left of the bound behind so many elements. -/
def szF (n : Nat) (left : Int) : Int := if (n : Int) ≤ left then left - n else -1
/-- What VotesFor returns. -/
def votesF (xs : List Mask) (h : Int) : Int × Int := if masksCode xs = 0 then (if isHoleB h = true then (votesN h xs, 0) else (0, 2)) else (0, masksCode xs)
theorem isHole_range {h : Int} (hh : isHoleB h = true) : 0 ≤ h ∧ h < 128 := by
  simp [isHoleB] at hh
  omega
/-- A mask with further holes. -/
def mwith (m : Mask) (hs : List Int) : Mask := hs.foldl (fun m h => mjoin m (mbit h)) m
theorem mwith_take (m : Mask) (hs : List Int) (k : Nat) (hk : k < hs.length) : mwith m (hs.take (k + 1)) = mjoin (mwith m (hs.take k)) (mbit hs[k]) := by
  unfold mwith
  rw [List.take_succ_eq_append_getElem hk, List.foldl_append]
  rfl
theorem mwith_one (m : Mask) (h : Int) : mwith m [h] = mjoin m (mbit h) := rfl
/-- Whole numbers as elements. -/
def encI64 : Enc Int where
  enc x := [.int .i64 x]
  sz := 1
  len _ := rfl
  one m u hu := by
    simp only [List.mem_cons, List.not_mem_nil, or_false] at hu
    subst hu
    rfl
  pos := by decide
theorem Rd.i64 {w : World} {b off : Nat} {xs : List Int} (h : Rd encI64 w (some ⟨b, off, none⟩) xs) (k : Nat) (hk : k < xs.length) :
    w.cell? ⟨b, off + k, none⟩ = some (.int .i64 xs[k]) := by
  obtain ⟨b', off', e1, hlt, hc⟩ := h k hk
  simp only [Option.some.injEq, Addr.mk.injEq, and_true] at e1
  obtain ⟨rfl, rfl⟩ := e1
  have := hc 0 _ rfl
  simpa [encI64] using this
/-- A block holds these cells. -/
def BoxAt (w : World) (b : Nat) (cs : Array Value) (t : TypeId) : Prop := w.heap[b]? = some (.cells cs t (0, 0))
section
variable {w w' : World} {b : Nat} {cs : Array Value} {t : TypeId}
theorem BoxAt.lt (h : BoxAt w b cs t) : b < w.heap.size := (Array.getElem?_eq_some_iff.1 h).1
theorem BoxAt.ext (h : BoxAt w b cs t) (hb : Ext w w') : BoxAt w' b cs t := (hb.block b h.lt).trans h
theorem BoxAt.cell (h : BoxAt w b cs t) (i : Nat) : w.cell? ⟨b, i, none⟩ = cs[i]? := by simp [World.cell?, show w.heap[b]? = _ from h]
theorem BoxAt.frozen (h : BoxAt w b cs t) (i : Nat) : w.frozen? ⟨b, i, none⟩ = false := frozen_of_row w b i cs t h
theorem BoxAt.set (h : BoxAt w b cs t) (i : Nat) (v : Value) : BoxAt (w.setCell ⟨b, i, none⟩ v) b (cs.setIfInBounds i v) t := heap_setCell_same w b i cs t v h
theorem BoxAt.setOther (h : BoxAt w b cs t) {p : Addr} (hp : b ≠ p.block) (v : Value) : BoxAt (w.setCell p v) b cs t := (Below.heap_setCell w p v b hp).trans h
theorem BoxAt.new (w : World) (cs : Array Value) (t : TypeId) : BoxAt (w.alloc (.cells cs t)) w.heap.size cs t := by
  show (w.heap.push _)[w.heap.size]? = _
  simp
theorem BoxAt.new_eq {cs' : Array Value} (h : cs = cs') : BoxAt (w.alloc (.cells cs t)) w.heap.size cs' t := h ▸ BoxAt.new w cs t
theorem BoxAt.range (h : BoxAt w b cs t) : w.rangeAt b 0 cs.toList := fun j v hv => by rw [Nat.zero_add, h.cell]; simpa using hv
theorem BoxAt.there (h : BoxAt w b cs t) (n : Nat) (hn : n = cs.size) : w.there b 0 n := fun j hj => by
  refine ⟨?_, by rw [Nat.zero_add]; exact h.frozen j⟩
  rw [Nat.zero_add, h.cell, Array.getElem?_eq_getElem (by omega)]
  rfl
theorem BoxAt.alloc (h : BoxAt w b cs t) (o : Obj) : BoxAt (w.alloc o) b cs t := (Below.heap_alloc w o b h.lt).trans h
theorem BoxAt.new' (hb : b = w.heap.size) : BoxAt (w.alloc (.cells cs t)) b cs t := by subst hb; exact BoxAt.new w cs t
end
theorem Rd.lit {α : Type} (e : Enc α) (w : World) (xs : List α) (cs : Array Value) (t : TypeId) (hm : xs.length ≤ 1048576) (hc : cs.toList = e.all xs) :
    Rd e (w.alloc (.cells cs t)) (some ⟨w.heap.size, 0, none⟩) xs := by
  obtain ⟨A, cap, h1, _, h2⟩ := (Ow.made (base := 0) (T := t) e w xs cs (Nat.zero_le _) (by omega) hc).slice
  simp only [Value.slice.injEq] at h1
  obtain ⟨rfl, _⟩ := h1
  exact h2
/-- The holes below k of which p holds. -/
def pickTo (p : Int → Bool) : Nat → Mask
  | 0 => 0
  | k + 1 => if p k = true then mjoin (pickTo p k) (mbit k) else pickTo p k
theorem pickTo_zero (p : Int → Bool) : pickTo p 0 = 0 := rfl
theorem pickTo_hit (p : Int → Bool) (k : Nat) (h : p k = true) : pickTo p (k + 1) = mjoin (pickTo p k) (mbit k) := by rw [pickTo, if_pos h]
theorem pickTo_miss (p : Int → Bool) (k : Nat) (h : p k = false) : pickTo p (k + 1) = pickTo p k := by rw [pickTo, if_neg (by simp [h])]
attribute [irreducible] pickTo
def majP (xs : List Mask) (h : Int) : Bool := decide (2 * votesN h xs > xs.length)
def lonP (xs : List Mask) (h : Int) : Bool := decide (votesN h xs = 1 ∨ votesN h xs = xs.length - 1)
/-- What MajorityOf returns. -/
def majF (xs : List Mask) : Mask × Int := if masksCode xs = 0 then (if xs.length = 0 then (0, 6) else (pickTo (majP xs) 96, 0)) else (0, masksCode xs)
/-- What LonelyHoles returns. -/
def lonF (xs : List Mask) : Mask × Int := if masksCode xs = 0 then (if xs.length < 3 then (0, 6) else (pickTo (lonP xs) 96, 0)) else (0, masksCode xs)
theorem masksCode_le {xs : List Mask} (h : masksCode xs = 0) : xs.all isMaskB = true ∧ xs.length ≤ 15 := by
  unfold masksCode at h
  split at h
  · split at h
    · simp at h
    · exact ⟨by assumption, by omega⟩
  · simp at h
theorem Ow.made0 {α : Type} {e : Enc α} {T : TypeId} {W : World} {b base : Nat} (hb : b = W.heap.size) (h : base ≤ b) : Ow e T (W.alloc (.cells #[] T)) base (.slice (some ⟨b, 0, none⟩) 0 0) [] := by
  subst hb
  exact Ow.made e T W [] #[] h (by simp) rfl
end Go.Proofs.YtdiblmlcapommaaGreatDoor
set_option linter.unusedVariables false
namespace Go.Proofs.YtdiblmlcapommaaGreatDoor
open Go.RowKit
structure Ent where
  nm : ByteArray
  see : Int
  br : Int
instance : Inhabited Ent := ⟨⟨⟨#[]⟩, 0, 0⟩⟩
def Ent.z : Ent := ⟨⟨#[]⟩, 0, 0⟩
def entB (x y : Ent) : Bool := (x.nm.toList == y.nm.toList) && (x.see == y.see) && (x.br == y.br)
theorem entB_refl (x : Ent) : entB x x = true := by simp [entB]
/-- The elements of a slice of entries. -/
def encEnt : Enc Ent where
  enc x := [.string x.nm, .int .i64 x.see, .int .i64 x.br]
  sz := 3
  len _ := rfl
  one m u hu := by
    simp only [List.mem_cons, List.not_mem_nil, or_false] at hu
    rcases hu with rfl | rfl | rfl <;> rfl
  pos := by decide
theorem Rd.ent {w : World} {b off : Nat} {xs : List Ent} (h : Rd encEnt w (some ⟨b, off, none⟩) xs) (k : Nat) (hk : k < xs.length) :
    w.cell? ⟨b, off + k * 3, none⟩ = some (.string xs[k].nm) ∧ w.cell? ⟨b, off + k * 3 + 1, none⟩ = some (.int .i64 xs[k].see) ∧ w.cell? ⟨b, off + k * 3 + 2, none⟩ = some (.int .i64 xs[k].br) ∧ b < w.heap.size := by
  obtain ⟨b', off', e1, hlt, hc⟩ := h k hk
  simp only [Option.some.injEq, Addr.mk.injEq, and_true] at e1
  obtain ⟨rfl, rfl⟩ := e1
  exact ⟨hc 0 _ rfl, hc 1 _ rfl, hc 2 _ rfl, hlt⟩

/-- Its name's size and its numbers are in their kinds' bounds. -/
def Ent.ok (x : Ent) : Prop := x.nm.size ≤ 9223372036854775807 ∧ (-9223372036854775808 ≤ x.see ∧ x.see < 9223372036854775808) ∧ (-9223372036854775808 ≤ x.br ∧ x.br < 9223372036854775808)
theorem entB_is (x y : Ent) : entB ⟨x.nm, x.see, x.br⟩ ⟨y.nm, y.see, y.br⟩ = entB x y := rfl
end Go.Proofs.YtdiblmlcapommaaGreatDoor
set_option linter.unusedVariables false
set_option linter.unusedSimpArgs false
namespace Go.Proofs.YtdiblmlcapommaaGreatDoor
open Go.RowKit
end Go.Proofs.YtdiblmlcapommaaGreatDoor
set_option linter.unusedVariables false
namespace Go.Proofs.YtdiblmlcapommaaGreatDoor
open Go.RowKit
/-- The pieces of a text between all bytes c. -/
def splitC (c : UInt8) (s : ByteArray) : List ByteArray := Lib.splitB ⟨#[c]⟩ 0 (Lib.countB s ⟨#[c]⟩) s
theorem occ_one (l : List UInt8) (c : UInt8) (i : Nat) : Lib.occAt l [c] i = (l[i]? == some c) := by
  unfold Lib.occAt
  cases h : l.drop i with
  | nil =>
    have : l.length ≤ i := List.drop_eq_nil_iff.1 h
    rw [List.getElem?_eq_none this]
    rfl
  | cons x t =>
    have h1 : l[i]? = some x := by
      have : (l.drop i)[0]? = some x := by rw [h]; rfl
      simpa using this
    rw [h1]
    show (c == x && [].isPrefixOf t) = (some x == some c)
    rw [show ([] : List UInt8).isPrefixOf t = true from by cases t <;> rfl, Bool.and_true, show (some x == some c) = (x == c) from rfl, Bool.eq_iff_iff, beq_iff_eq, beq_iff_eq]
    exact ⟨Eq.symm, Eq.symm⟩
theorem ext_ba {a b : ByteArray} (h : a.data.toList = b.data.toList) : a = b := by
  cases a; cases b
  exact congrArg ByteArray.mk (Array.toList_inj.1 h)
theorem extr_data (s : ByteArray) (a b : Nat) : (s.extract a b).data.toList = (s.data.toList.drop a).take (b - a) := by
  rw [Lib.extract_data]
  first | done | simp [List.drop_take]
theorem splitC_hit (c : UInt8) (s : ByteArray) (b k : Nat) (hb : b ≤ k) (hk : k < s.size) (hc : s.data.toList[k]? = some c) (hno : ∀ j, b ≤ j → j < k → s.data.toList[j]? ≠ some c) :
    splitC c (s.extract b s.size) = s.extract b k :: splitC c (s.extract (k + 1) s.size) := by
  have hl : s.data.toList.length = s.size := rfl
  have hd : (s.extract b s.size).data.toList = s.data.toList.drop b := by
    rw [extr_data, List.take_of_length_le (by simp)]
  have hi : Lib.indexB (s.extract b s.size) ⟨#[c]⟩ = ((k - b : Nat) : Int) := by
    show Lib.index (s.extract b s.size).data.toList [c] = _
    rw [hd]
    refine Lib.index_first (by simp; omega) ?_ ?_
    · rw [occ_one, List.getElem?_drop, show b + (k - b) = k by omega, hc]
      simp
    · intro j hj
      rw [occ_one, List.getElem?_drop]
      have := hno (b + j) (by omega) (by omega)
      simpa using this
  unfold splitC
  rw [Lib.countB_hit (s.extract b s.size) ⟨#[c]⟩ (k - b) (show 1 ≤ 1 from Nat.le_refl 1) hi, Nat.add_comm 1, Lib.splitB_hit _ _ _ _ _ hi]
  have e1 : (s.extract b s.size).extract 0 (k - b + 0) = s.extract b k := by
    apply ext_ba
    rw [extr_data, hd, extr_data, List.drop_zero]
    rfl
  have e2 : (s.extract b s.size).extract (k - b + ByteArray.size ⟨#[c]⟩) (s.extract b s.size).size = s.extract (k + 1) s.size := by
    apply ext_ba
    have hz : (s.extract b s.size).size = s.size - b := by
      show (s.extract b s.size).data.toList.length = _
      rw [hd, List.length_drop]
      rfl
    rw [extr_data, hd, extr_data, List.drop_drop, show b + (k - b + ByteArray.size ⟨#[c]⟩) = k + 1 by show b + (k - b + 1) = k + 1; omega]
    rw [List.take_of_length_le, List.take_of_length_le]
    · simp
    · rw [hz, List.length_drop, hl]
      show _ ≤ s.size - b - (k - b + 1)
      omega
  rw [e1, e2]
theorem splitC_end (c : UInt8) (s : ByteArray) (b : Nat) (hno : ∀ j, b ≤ j → j < s.size → s.data.toList[j]? ≠ some c) :
    splitC c (s.extract b s.size) = [s.extract b s.size] := by
  have hd : (s.extract b s.size).data.toList = s.data.toList.drop b := by
    rw [extr_data, List.take_of_length_le (by simp)]
  have hi : Lib.indexB (s.extract b s.size) ⟨#[c]⟩ = -1 := by
    show Lib.index (s.extract b s.size).data.toList [c] = _
    rw [hd]
    refine Lib.index_none ?_
    intro j hj
    rw [occ_one, List.getElem?_drop]
    by_cases hj2 : b + j < s.size
    · have := hno (b + j) (by omega) hj2
      simpa using this
    · rw [List.getElem?_eq_none (by show s.size ≤ _; omega)]
      rfl
  unfold splitC
  rw [Lib.splitB_miss _ _ _ _ hi]
theorem extr_all (s : ByteArray) : s.extract 0 s.size = s := by
  apply ext_ba
  rw [extr_data]
  exact List.take_of_length_le (by simp)
def isPlain (c : UInt8) : Bool := (decide (97 ≤ c.toNat) && decide (c.toNat ≤ 122)) || (decide (48 ≤ c.toNat) && decide (c.toNat ≤ 57))
/-- Is a piece a word? -/
def wordB (s : ByteArray) : Bool := !s.toList.isEmpty && s.data.toList.all isPlain
/-- Is a text a name of an entry? -/
def entNameB (s : ByteArray) : Bool := decide (1 ≤ s.size) && (decide (s.size ≤ 24) && (splitC 32 s).all wordB)

/-- Is k the place of a preferred entry? -/
def prefB (xs : List Ent) (k : Int) : Bool := decide (0 ≤ k) && (decide (k < xs.length) && (xs[k.toNat]!.see == -1))
/-- Is k no place, or that of a preferred entry? -/
def refB (xs : List Ent) (k : Int) : Bool := k == -1 || prefB xs k
/-- The entry at i stands well in its catalogue. -/
def standB (xs : List Ent) (i : Nat) : Bool :=
  entNameB xs[i]!.nm && (!((xs.take i).any fun y => y.nm.toList == xs[i]!.nm.toList) && (refB xs xs[i]!.see && (refB xs xs[i]!.br && (xs[i]!.see == -1 || xs[i]!.br == -1))))
def stepUp (xs : List Ent) (at' : Int) : Int := if 0 ≤ at' then xs[at'.toNat]!.br else at'
def climb (xs : List Ent) : Nat → Int → Int
  | 0, a => a
  | n + 1, a => climb xs n (stepUp xs a)
theorem climb_succ (xs : List Ent) : ∀ (n : Nat) (a : Int), climb xs (n + 1) a = stepUp xs (climb xs n a)
  | 0, a => rfl
  | n + 1, a => by rw [climb, climb_succ xs n]; rfl
theorem climb_add (xs : List Ent) : ∀ (m n : Nat) (a : Int), climb xs (m + n) a = climb xs n (climb xs m a)
  | 0, n, a => by rw [Nat.zero_add]; rfl
  | m + 1, n, a => by rw [show m + 1 + n = (m + n) + 1 by omega, climb, climb_add xs m n, climb]
/-- All entries stand well. -/
def standsB (xs : List Ent) : Bool := (List.range xs.length).all (standB xs)
/-- No way up from an entry is a circle. -/
def topsB (xs : List Ent) : Bool := (List.range xs.length).all fun i => decide (climb xs xs.length i < 0)
/-- Is a list of entries a valid catalogue? -/
def catB (xs : List Ent) : Bool := decide (xs.length ≤ 40) && (standsB xs && topsB xs)
theorem stands_at {xs : List Ent} (h : standsB xs = true) (i : Nat) (hi : i < xs.length) : standB xs i = true := by
  unfold standsB at h
  rw [List.all_eq_true] at h
  exact h i (List.mem_range.2 hi)
theorem getBang {α : Type} [Inhabited α] (xs : List α) (i : Nat) (hi : i < xs.length) : xs[i]! = xs[i] := by
  rw [List.getElem!_eq_getElem?_getD, List.getElem?_eq_getElem hi]; rfl
/-- Where a way up comes to: -1, or an entry. -/
def InC (xs : List Ent) (a : Int) : Prop := a = -1 ∨ (0 ≤ a ∧ a < xs.length)
theorem refB_in {xs : List Ent} {k : Int} (h : refB xs k = true) : InC xs k := by
  unfold refB prefB at h
  simp only [Bool.or_eq_true, beq_iff_eq, Bool.and_eq_true, decide_eq_true_eq] at h
  unfold InC
  omega
theorem stand_parts {xs : List Ent} {i : Nat} (h : standB xs i = true) :
    entNameB xs[i]!.nm = true ∧ ((xs.take i).any fun y => y.nm.toList == xs[i]!.nm.toList) = false ∧ refB xs xs[i]!.see = true ∧ refB xs xs[i]!.br = true ∧ (xs[i]!.see = -1 ∨ xs[i]!.br = -1) := by
  unfold standB at h
  simp only [Bool.and_eq_true, Bool.not_eq_true', Bool.or_eq_true, beq_iff_eq] at h
  exact ⟨h.1, h.2.1, h.2.2.1, h.2.2.2.1, h.2.2.2.2⟩
theorem br_in {xs : List Ent} (h : standsB xs = true) (i : Nat) (hi : i < xs.length) : InC xs xs[i]!.br := refB_in (stand_parts (stands_at h i hi)).2.2.2.1
theorem stepUp_in {xs : List Ent} (h : standsB xs = true) {a : Int} (ha : InC xs a) : InC xs (stepUp xs a) := by
  unfold stepUp
  split
  · have : a.toNat < xs.length := by unfold InC at ha; omega
    exact br_in h _ this
  · exact ha
theorem climb_in {xs : List Ent} (h : standsB xs = true) : ∀ (n : Nat) {a : Int}, InC xs a → InC xs (climb xs n a)
  | 0, _, ha => ha
  | n + 1, _, ha => climb_in h n (stepUp_in h ha)
theorem climb_neg (xs : List Ent) : ∀ (n : Nat) {a : Int}, a < 0 → climb xs n a = a
  | 0, _, _ => rfl
  | n + 1, a, ha => by rw [climb, show stepUp xs a = a by unfold stepUp; rw [if_neg (by omega)], climb_neg xs n ha]
/-- More than n numbers below n: two are equal. -/
theorem two_equal : ∀ (n : Nat) (f : Nat → Nat) (m : Nat), n < m → (∀ i, i < m → f i < n) → ∃ i j, i < j ∧ j < m ∧ f i = f j
  | 0, f, m, hm, hf => absurd (hf 0 (by omega)) (by omega)
  | n + 1, f, m, hm, hf => by
    by_cases hx : ∃ i, i < m - 1 ∧ f i = f (m - 1)
    · obtain ⟨i, hi, he⟩ := hx
      exact ⟨i, m - 1, hi, by omega, he⟩
    · have hne : ∀ i, i < m - 1 → f i ≠ f (m - 1) := fun i hi he => hx ⟨i, hi, he⟩
      obtain ⟨i, j, h1, h2, h3⟩ := two_equal n (fun i => if f i = n then f (m - 1) else f i) (m - 1) (by omega) (by
        intro i hi
        have h4 := hf i (by omega)
        have h5 := hf (m - 1) (by omega)
        have h6 := hne i hi
        show (if f i = n then f (m - 1) else f i) < n
        split
        · omega
        · omega)
      refine ⟨i, j, h1, by omega, ?_⟩
      have h4 := hne i (by omega)
      have h5 := hne j (by omega)
      split at h3 <;> split at h3 <;> omega
/-- A way up that ends does so within as many steps as there are entries. -/
theorem climb_short {xs : List Ent} (h : standsB xs = true) (a : Int) (ha : InC xs a) (n : Nat) (hn : climb xs n a < 0) : climb xs xs.length a < 0 := by
  by_cases hlt : climb xs xs.length a < 0
  · exact hlt
  · exfalso
    have hpos : ∀ j, j ≤ xs.length → 0 ≤ climb xs j a := by
      intro j hj
      by_cases hc : climb xs j a < 0
      · exfalso
        apply hlt
        rw [show xs.length = j + (xs.length - j) by omega, climb_add, climb_neg xs _ hc]
        exact hc
      · omega
    have hin : ∀ j, InC xs (climb xs j a) := fun j => climb_in h j ha
    obtain ⟨i, j, hij, hj, he⟩ := two_equal xs.length (fun j => (climb xs j a).toNat) (xs.length + 1) (by omega) (by
      intro j hj
      have h1 := hpos j (by omega)
      have h2 := hin j
      unfold InC at h2
      show (climb xs j a).toNat < _
      omega)
    have he2 : climb xs i a = climb xs j a := by
      have h1 := hpos i (by omega)
      have h2 := hpos j (by omega)
      omega
    have hcyc : ∀ q, climb xs (i + q * (j - i)) a = climb xs i a := by
      intro q
      induction q with
      | zero => rw [Nat.zero_mul, Nat.add_zero]
      | succ q ih =>
        rw [Nat.succ_mul, ← Nat.add_assoc, climb_add, ih, ← climb_add, show i + (j - i) = j by omega]
        exact he2.symm
    have h1 := hcyc n
    have h2 : n ≤ i + n * (j - i) := by
      have : n * 1 ≤ n * (j - i) := Nat.mul_le_mul_left n (by omega)
      omega
    rw [show i + n * (j - i) = n + (i + n * (j - i) - n) by omega, climb_add, climb_neg xs _ hn] at h1
    have h3 := hpos i (by omega)
    omega
end Go.Proofs.YtdiblmlcapommaaGreatDoor
set_option linter.unusedVariables false
namespace Go.Proofs.YtdiblmlcapommaaGreatDoor
open Go.RowKit
def trimR (p : UInt8 → Bool) (l : List UInt8) : List UInt8 := (l.reverse.dropWhile p).reverse
def trimLR (p : UInt8 → Bool) (l : List UInt8) : List UInt8 := (trimR p l).dropWhile p
theorem dropWhile_nil {α : Type} (p : α → Bool) (l : List α) : l.dropWhile p = [] ↔ ∀ x ∈ l, p x = true := by
  induction l with
  | nil => simp
  | cons x xs ih =>
    rw [List.dropWhile_cons]
    by_cases h : p x = true
    · rw [if_pos h, ih]; simp [h]
    · rw [if_neg h]; simp [h]
theorem trimR_nil (p : UInt8 → Bool) : trimR p [] = [] := rfl
theorem trimR_snoc (p : UInt8 → Bool) (l : List UInt8) (x : UInt8) : trimR p (l ++ [x]) = if p x = true then trimR p l else l ++ [x] := by
  unfold trimR
  rw [List.reverse_append, List.reverse_singleton, List.singleton_append, List.dropWhile_cons]
  split <;> simp
theorem trimLR_nil_iff (p : UInt8 → Bool) (l : List UInt8) : trimLR p l = [] ↔ l.all p = true := by
  unfold trimLR trimR
  constructor
  · intro h
    rw [dropWhile_nil] at h
    rw [List.all_eq_true]
    intro x hx
    by_cases hp : p x = true
    · exact hp
    · have h2 : ¬ l.reverse.dropWhile p = [] := by
        rw [dropWhile_nil]
        intro h3
        exact hp (h3 x (List.mem_reverse.2 hx))
      cases hd : l.reverse.dropWhile p with
      | nil => exact absurd hd h2
      | cons y ys =>
        rw [hd] at h
        have hy := h y (by simp)
        have := List.head_dropWhile_not p (l := l.reverse) (by rw [hd]; simp)
        simp only [hd, List.head_cons] at this
        rw [this] at hy
        simp at hy
  · intro h
    rw [List.all_eq_true] at h
    rw [(dropWhile_nil _ _).2 (fun x hx => h x (List.mem_reverse.1 hx))]
    rfl
/-- Is a byte among these? -/
def inS (l : List UInt8) (c : UInt8) : Bool := l.contains c
/-- The table of a set of bytes. -/
def tabF (l : List UInt8) : Array Value := Array.ofFn (n := 256) fun i => .bool (l.any fun c => c.toNat == i.val)
theorem tabF_nil : tabF [] = Array.ofFn (n := 256) fun _ => .bool false := by
  apply Array.ext_getElem?
  intro i
  by_cases hi : i < 256 <;> simp [tabF, hi]
theorem tabF_size (l : List UInt8) : (tabF l).size = 256 := by simp [tabF]
theorem tabF_get (l : List UInt8) (i : Nat) (hi : i < 256) : (tabF l)[i]? = some (.bool (l.any fun c => c.toNat == i)) := by
  simp [tabF, hi]
theorem tabF_has (l : List UInt8) (c : UInt8) : (tabF l)[c.toNat]? = some (.bool (inS l c)) := by
  unfold inS
  rw [tabF_get l _ c.toNat_lt]
  congr 2
  induction l with
  | nil => rfl
  | cons x xs ih =>
    rw [List.any_cons, List.contains_cons, ih]
    congr 1
    rw [Bool.eq_iff_iff, beq_iff_eq, beq_iff_eq]
    exact ⟨fun h => (UInt8.toNat_inj.1 h).symm, fun h => by rw [h]⟩
theorem tabF_set (l : List UInt8) (c : UInt8) : (tabF l).setIfInBounds c.toNat (.bool true) = tabF (l ++ [c]) := by
  apply Array.ext_getElem?
  intro i
  rw [Array.getElem?_setIfInBounds]
  by_cases hi : i < 256
  · rw [tabF_get _ i hi, tabF_get _ i hi, tabF_size, List.any_append]
    by_cases hc : c.toNat = i
    · subst hc; simp [c.toNat_lt]
    · rw [if_neg hc]; simp [hc]
  · rw [if_neg (by have := c.toNat_lt; omega), Array.getElem?_eq_none (by rw [tabF_size]; omega), Array.getElem?_eq_none (by rw [tabF_size]; omega)]
theorem tabF_one (l : List UInt8) : (tabF l).all (·.oneCell') = true := by
  rw [Array.all_eq_true]
  intro i hi
  simp [tabF, Value.oneCell']
theorem bytes_snoc (t : ByteArray) (h : 0 < t.size) : t.data.toList = (t.extract 0 (t.size - 1)).data.toList ++ [t[t.size - 1]] := by
  obtain ⟨a⟩ := t
  obtain ⟨l⟩ := a
  have h' : 0 < l.length := h
  show l = _ ++ [l[l.length - 1]]
  have e : (ByteArray.extract ⟨⟨l⟩⟩ 0 (l.length - 1)).data.toList = l.take (l.length - 1) := by
    simp [ByteArray.data_extract, List.dropLast_eq_take]
  rw [show (ByteArray.size ⟨⟨l⟩⟩) = l.length from rfl, e, ← List.take_succ_eq_append_getElem (by omega), show l.length - 1 + 1 = l.length by omega, List.take_length]
theorem bytes_cons (t : ByteArray) (h : 0 < t.size) : t.data.toList = t[0] :: (t.extract 1 t.size).data.toList := by
  obtain ⟨a⟩ := t
  obtain ⟨l⟩ := a
  have h' : 0 < l.length := h
  show l = l[0] :: _
  have e : (ByteArray.extract ⟨⟨l⟩⟩ 1 l.length).data.toList = l.drop 1 := by
    simp [ByteArray.data_extract, List.take_of_length_le]
  rw [show (ByteArray.size ⟨⟨l⟩⟩) = l.length from rfl, e, ← List.drop_eq_getElem_cons h', List.drop_zero]
theorem bytes_none (t : ByteArray) (h : ¬ 0 < t.size) : t.data.toList = [] := by
  obtain ⟨a⟩ := t
  obtain ⟨l⟩ := a
  have h' : ¬ 0 < l.length := h
  show l = []
  exact List.eq_nil_of_length_eq_zero (by omega)
theorem heap_setCells_box (W : World) (b : Nat) : ∀ (vs : List Value) (o : Nat) (cs : Array Value) (t : TypeId), BoxAt W b cs t → o + vs.length ≤ cs.size →
    ∃ c2 : Array Value, BoxAt (W.setCells b o vs) b c2 t ∧ c2.size = cs.size ∧ ∀ i, c2[i]? = if o ≤ i ∧ i < o + vs.length then vs[i - o]? else cs[i]? := by
  intro vs
  induction vs generalizing W with
  | nil => intro o cs t h _; exact ⟨cs, h, rfl, fun i => by rw [if_neg (by simp)]⟩
  | cons v r ih =>
    intro o cs t h hl
    rw [List.length_cons] at hl
    obtain ⟨c2, g1, g2, g3⟩ := ih (W.setCell ⟨b, o, none⟩ v) (o + 1) (cs.setIfInBounds o v) t (h.set o v) (by simp; omega)
    refine ⟨c2, g1, by simpa using g2, fun i => ?_⟩
    rw [g3 i, List.length_cons]
    by_cases h1 : i = o
    · subst h1
      rw [if_neg (by omega), if_pos (by omega), Nat.sub_self, List.getElem?_cons_zero, Array.getElem?_setIfInBounds_self, if_pos (by omega)]
    · by_cases h2 : o + 1 ≤ i ∧ i < o + 1 + r.length
      · rw [if_pos h2, if_pos (by omega), show i - o = (i - (o + 1)) + 1 by omega, List.getElem?_cons_succ]
      · rw [if_neg h2, if_neg (by omega), Array.getElem?_setIfInBounds_ne (by omega)]
/-- A new variable whose cells are not looked at. -/
theorem wpList_alloc_box {P : Program} {ops : Array Oper} {rest : List Oper} {o : Oper} {a : Act} {Q : Exit → Act → World → Prop} {W : World} (hgd : o.guard = none) (t : TypeId) (ho : o.op = .alloc t) (cs : Array Value)
    (ha : ∀ W : World, (Instr.alloc t true (.tuple #[])).run P W = .ok (.pointer (some ⟨W.heap.size, 0, none⟩)) (W.alloc (.cells cs t)))
    (h : ∀ W1, BoxAt W1 W.heap.size cs t → Ext W W1 → W.heap.size < W1.heap.size → wpList P ops Q rest (a.put o.dst (.pointer (some ⟨W.heap.size, 0, none⟩))) W1) : wpList P ops Q (o :: rest) a W := by
  refine wpList_plain hgd fun K hK => ?_
  unfold Oper.wp execOp
  simp only [ho, Sem.run_bind, ha, Result.andThen_ok]
  exact hK _ _ (h _ (BoxAt.new _ _ _) ((Ext.refl _).alloc _) (by simp))
/-- A whole value is stored into a variable of as many cells. -/
theorem wpList_store_box {P : Program} {ops : Array Oper} {rest : List Oper} {o : Oper} {a : Act} {Q : Exit → Act → World → Prop} {W w0 : World} (hgd : o.guard = none) (ty : TypeId) (x y : Operand) (ho : o.op = .store ty x y)
    (b : Nat) (cs cs' : Array Value) (hB : BoxAt W b cs ty) (hx : a.eval x = .pointer (some ⟨b, 0, none⟩)) (hy : a.eval y = .agg cs') (hn : cs'.size = cs.size) (hi : (P.info? ty).map (·.size) = some cs'.size) (h1 : cs'.all (·.oneCell') = true) (hw : Ext w0 W) (hb : w0.heap.size ≤ b)
    (h : ∀ W1, BoxAt W1 b cs' ty → Ext w0 W1 → W.grownBy W1 (some b) → wpList P ops Q rest (a.put o.dst undef) W1) : wpList P ops Q (o :: rest) a W := by
  refine wpList_store_mid hgd ty x y ho b 0 cs' hx hy (hB.there _ hn) hi h1 (h _ ?_ ?_ (grown_setCells _ _ _ _))
  · have hr := World.rangeAt_setCells_same W b 0 cs'.toList (by simpa using hB.there _ hn)
    obtain ⟨c2, g1, g2, g3⟩ := heap_setCells_box W b cs'.toList 0 cs ty hB (by simp; omega)
    have : c2 = cs' := by
      apply Array.ext_getElem?
      intro i
      by_cases hi : i < cs'.size
      · rw [g3 i, if_pos (by simp; omega), Nat.sub_zero, Array.getElem?_toList]
      · rw [Array.getElem?_eq_none (by omega), Array.getElem?_eq_none (by omega)]
    rw [this] at g1
    exact g1
  · exact hw.trans' (grown_setCells _ _ _ _) (fun q hq => by simp at hq; omega)
attribute [irreducible] tabF
end Go.Proofs.YtdiblmlcapommaaGreatDoor
