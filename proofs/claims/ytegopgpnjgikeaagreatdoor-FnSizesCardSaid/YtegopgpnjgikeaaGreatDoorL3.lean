/-
  Slices of the call's own: an element is stored, 'make' lays zero elements; with no program in sight.
-/
import Derived.Test.YtegopgpnjgikeaaGreatDoorL2
import Derived.OwnWalk
import Derived.Deep.MidRow
set_option linter.unusedVariables false
namespace Go.Proofs.YtegopgpnjgikeaaGreatDoor
open Go.RowKit

section
variable {α : Type} {e : Enc α} {w w' w0 : World} {A : Option Addr} {xs : List α} {T : TypeId} {base : Nat} {v : Value}
def setL (xs : List Value) : Nat → List Value → List Value
  | _, [] => xs
  | o, v :: r => setL (xs.set o v) (o + 1) r
theorem setL_length (vs : List Value) : ∀ (xs : List Value) (o : Nat), (setL xs o vs).length = xs.length := by
  induction vs with
  | nil => intro xs o; rfl
  | cons v r ih => intro xs o; rw [setL, ih, List.length_set]
theorem setL_get (vs : List Value) : ∀ (xs : List Value) (o i : Nat), o + vs.length ≤ xs.length → (setL xs o vs)[i]? = if o ≤ i ∧ i < o + vs.length then vs[i - o]? else xs[i]? := by
  induction vs with
  | nil => intro xs o i h; rw [setL, if_neg (by simp)]
  | cons v r ih =>
    intro xs o i h
    rw [List.length_cons] at h
    rw [setL, ih _ _ _ (by rw [List.length_set]; omega), List.length_cons]
    by_cases h1 : i = o
    · subst h1
      rw [if_neg (by omega), if_pos (by omega), List.getElem?_set_self (by omega), Nat.sub_self, List.getElem?_cons_zero]
    · by_cases h2 : o + 1 ≤ i ∧ i < o + 1 + r.length
      · rw [if_pos h2, if_pos (by omega), show i - o = (i - (o + 1)) + 1 by omega, List.getElem?_cons_succ]
      · rw [if_neg h2, if_neg (by omega), List.getElem?_set_ne (by omega)]
theorem Enc.all_set (e : Enc α) (xs : List α) (k : Nat) (z : α) (hk : k < xs.length) : setL (e.all xs) (k * e.sz) (e.enc z) = e.all (xs.set k z) := by
  have hle : k * e.sz + (e.enc z).length ≤ (e.all xs).length := by
    rw [e.len, e.all_length, ← Nat.succ_mul]
    exact Nat.mul_le_mul_right _ hk
  apply List.ext_getElem?
  intro i
  rw [setL_get _ _ _ _ hle, e.len]
  by_cases hi : i < xs.length * e.sz
  · have hq : i / e.sz < xs.length := (Nat.div_lt_iff_lt_mul e.pos).2 hi
    have hr : i % e.sz < e.sz := Nat.mod_lt _ e.pos
    have hd : i = i / e.sz * e.sz + i % e.sz := by rw [Nat.mul_comm]; exact (Nat.div_add_mod i e.sz).symm
    have hR := e.all_get (xs.set k z) (i / e.sz) (i % e.sz) (by rw [List.length_set]; exact hq) hr
    have hL := e.all_get xs (i / e.sz) (i % e.sz) hq hr
    rw [← hd] at hR hL
    rw [hR, hL]
    by_cases hk2 : i / e.sz = k
    · subst hk2
      rw [if_pos ⟨by omega, by omega⟩, List.getElem_set_self]
      congr 1
      omega
    · rw [if_neg, List.getElem_set_ne (Ne.symm hk2)]
      intro ⟨h1, h2⟩
      refine hk2 (Nat.le_antisymm ?_ ?_)
      · exact Nat.le_of_lt_succ ((Nat.div_lt_iff_lt_mul e.pos).2 (by rw [Nat.succ_mul]; exact h2))
      · exact (Nat.le_div_iff_mul_le e.pos).2 h1
  · rw [if_neg, List.getElem?_eq_none (by rw [e.all_length]; omega), List.getElem?_eq_none (by rw [e.all_length, List.length_set]; omega)]
    intro ⟨h1, h2⟩
    rw [e.len, e.all_length] at hle
    omega
theorem heap_setCells (b : Nat) (k : Nat) (hk : k ≠ b) : ∀ (vs : List Value) (o : Nat) (w : World), (w.setCells b o vs).heap[k]? = w.heap[k]?
  | [], _, _ => rfl
  | v :: r, o, w => by rw [World.setCells, heap_setCells b k hk r, Below.heap_setCell w _ v k hk]
theorem size_setCells (b : Nat) : ∀ (vs : List Value) (o : Nat) (w : World), (w.setCells b o vs).heap.size = w.heap.size
  | [], _, _ => rfl
  | v :: r, o, w => by rw [World.setCells, size_setCells b r]; simp
theorem same_setCells (b : Nat) : ∀ (vs : List Value) (o : Nat) (w : World), (w.setCells b o vs).os = w.os ∧ (w.setCells b o vs).tape = w.tape ∧ (w.setCells b o vs).output = w.output
  | [], _, _ => ⟨rfl, rfl, rfl⟩
  | v :: r, o, w => by rw [World.setCells]; exact same_setCells b r _ _
theorem grown_setCells (w : World) (b o : Nat) (vs : List Value) : w.grownBy (w.setCells b o vs) (some b) := by
  obtain ⟨h1, h2, h3⟩ := same_setCells b vs o w
  exact ⟨h1, h2, h3, Nat.le_of_eq (size_setCells b vs o w).symm, fun k _ hk => heap_setCells b k (fun h => hk (by rw [h])) vs o w⟩
theorem ownsRow_setCells {sz g n cap : Nat} : ∀ (vs : List Value) (o : Nat) (w : World) (xs : List Value), w.ownsRow base T sz (.slice (some ⟨g, 0, none⟩) n cap) n xs → (w.setCells g o vs).ownsRow base T sz (.slice (some ⟨g, 0, none⟩) n cap) n (setL xs o vs)
  | [], _, _, _, h => h
  | v :: r, o, w, xs, h => by
    rw [World.setCells, setL]
    exact ownsRow_setCells r _ _ _ (World.ownsRow.stored h o v).1
/-- An element of the call's own slice is set. -/
theorem Ow.set {g cap : Nat} (h : Ow e T w base (.slice (some ⟨g, 0, none⟩) xs.length cap) xs) (k : Nat) (hk : k < xs.length) (z : α) :
    Ow e T (w.setCells g (k * e.sz) (e.enc z)) base (.slice (some ⟨g, 0, none⟩) xs.length cap) (xs.set k z) := by
  have := ownsRow_setCells (e.enc z) (k * e.sz) w _ h
  rw [e.all_set xs k z hk] at this
  rw [Ow, List.length_set]
  exact this
theorem Ow.base_le {g n cap : Nat} (h : Ow e T w base (.slice (some ⟨g, 0, none⟩) n cap) xs) : base ≤ g := (h.lt g rfl).1
theorem Ow.cap_len {g n cap : Nat} (h : Ow e T w base (.slice (some ⟨g, 0, none⟩) n cap) xs) : n = xs.length := by
  rcases h.2 with ⟨h', _⟩ | ⟨g', cap', cur, h', _⟩
  · simp at h'
  · simp only [Value.slice.injEq] at h'
    omega
/-- An element of several cells is stored. -/
theorem wpList_put {P : Program} {ops : Array Oper} {rest : List Oper} {o : Oper} {a : Act} {Q : Exit → Act → World → Prop} (e : Enc α) {W : World} (hgd : o.guard = none) (ty : TypeId) (x y : Operand) (ho : o.op = .store ty x y)
    (hi : (P.info? ty).map (·.size) = some e.sz) {g n cap : Nat} (HO : Ow e T W base (.slice (some ⟨g, 0, none⟩) n cap) xs) (k : Nat) (hk : k < n) (hx : a.eval x = .pointer (some ⟨g, k * e.sz, none⟩))
    (z : α) (hy : a.eval y = .agg (e.enc z).toArray) (hw0 : w0.heap.size ≤ base) (HE : Ext w0 W)
    (h : ∀ w1, Ow e T w1 base (.slice (some ⟨g, 0, none⟩) n cap) (xs.set k z) → Ext w0 w1 → W.grownBy w1 (some g) → wpList P ops Q rest (a.put o.dst undef) w1) :
    wpList P ops Q (o :: rest) a W := by
  obtain rfl := HO.cap_len
  have hg := HO.base_le
  have hle : k * e.sz + (e.enc z).length ≤ (e.all xs).length := by
    rw [e.len, e.all_length, ← Nat.succ_mul]
    exact Nat.mul_le_mul_right _ hk
  refine wpList_store_mid hgd ty x y ho g (k * e.sz) (e.enc z).toArray hx hy ?_ (by rw [hi]; simp [e.len]) (all_oneCell_toArray (e.one z)) ?_
  · intro j hj
    have hj2 : k * e.sz + j < (e.all xs).length := by simp at hj; omega
    refine ⟨?_, World.ownsRow.frozenAt HO _⟩
    have := World.ownsRow.cells HO (g := g) (by simp [Value.ownBlock]) (k * e.sz + j) _ (List.getElem?_eq_getElem hj2)
    rw [show (⟨g, 0, none⟩ : Addr).add (k * e.sz + j) = ⟨g, 0 + (k * e.sz + j), none⟩ from Addr.add_lit g 0 _, Nat.zero_add] at this
    rw [this]
    rfl
  · have hgr := grown_setCells W g (k * e.sz) (e.enc z).toArray.toList
    refine h _ (by simpa using HO.set k hk z) ?_ hgr
    exact HE.trans' hgr (fun q hq => by simp at hq; omega)
theorem madeCells_all (e : Enc α) (z : α) (n : Nat) : (madeCells (e.enc z).toArray (n * e.sz)).toList = e.all (List.replicate n z) := by
  apply List.ext_getElem?
  intro i
  by_cases hi : i < n * e.sz
  · have hq : i / e.sz < n := (Nat.div_lt_iff_lt_mul e.pos).2 hi
    have hr : i % e.sz < e.sz := Nat.mod_lt _ e.pos
    have hd : i = i / e.sz * e.sz + i % e.sz := by rw [Nat.mul_comm]; exact (Nat.div_add_mod i e.sz).symm
    have hR := e.all_get (List.replicate n z) (i / e.sz) (i % e.sz) (by simpa using hq) hr
    rw [← hd] at hR
    have hs : (e.enc z).toArray.size = e.sz := by simp [e.len]
    rw [hR, List.getElem_replicate]
    have hr' : i % e.sz < (e.enc z).length := by rw [e.len]; exact hr
    simp [madeCells, hi, e.len, List.getElem?_eq_getElem hr']
  · rw [List.getElem?_eq_none (by simp [size_madeCells]; omega), List.getElem?_eq_none (by rw [e.all_length]; simp; omega)]
/-- 'make([]T, n)'. -/
theorem wpList_made {P : Program} {ops : Array Oper} {rest : List Oper} {o : Oper} {a : Act} {Q : Exit → Act → World → Prop} (e : Enc α) {W : World} (hgd : o.guard = none) (l c : Operand) (t : TypeId) (ho : o.op = Op.makeSlice t l c)
    (z : α) (zv : Value) (bytes : Nat) (ht : P.underlying t = some (.slice T)) (hinfo : (P.info? T).map (fun i => (i.zero, i.size, i.bytes)) = some (some zv, e.sz, bytes)) (hz : zv.cells = (e.enc z).toArray)
    (kl kc : IntKind) (n : Nat) (hl : a.eval l = .int kl (n : Int)) (hc : a.eval c = .int kc (n : Int)) (hb : n * bytes ≤ 281474976710656) (hm : n ≤ 9223372036854775807) (hbase : base ≤ W.heap.size) (hw0 : w0.heap.size ≤ base) (HE : Ext w0 W)
    (h : ∀ w1, Ow e T w1 base (.slice (some ⟨W.heap.size, 0, none⟩) n n) (List.replicate n z) → Ext w0 w1 → W.grownBy w1 none → wpList P ops Q rest (a.put o.dst (.slice (some ⟨W.heap.size, 0, none⟩) n n)) w1) :
    wpList P ops Q (o :: rest) a W := by
  obtain ⟨i, hi, hz0, hz1, hz2⟩ := info_parts hinfo
  refine wpList_make_full W hgd l c t ho base T i zv e.sz ht hi hz0 hz1 kl kc n n n hl hc rfl rfl (by rw [hz2, Nat.mul_comm]; exact hb) (by unfold maxLen; omega) hbase ?_
  intro w1 hown hgr
  refine h w1 ?_ (HE.trans' hgr (fun q hq => by simp at hq)) hgr
  rw [hz, madeCells_all] at hown
  rw [Ow, List.length_replicate]
  exact hown
end
section
/-- The first k are set, the others are zero yet. -/
def fill {α : Type} (xs : List α) (z : α) (k : Nat) : List α := xs.take k ++ List.replicate (xs.length - k) z
theorem fill_zero {α : Type} (xs : List α) (z : α) : fill xs z 0 = List.replicate xs.length z := by simp [fill]
theorem fill_full {α : Type} (xs : List α) (z : α) : fill xs z xs.length = xs := by simp [fill]
theorem fill_set {α : Type} (xs : List α) (z : α) (k : Nat) (hk : k < xs.length) : (fill xs z k).set k xs[k] = fill xs z (k + 1) := by
  unfold fill
  rw [List.set_append_right _ _ (by simp; omega), List.length_take, Nat.min_eq_left (by omega), Nat.sub_self, show xs.length - k = (xs.length - (k + 1)) + 1 by omega, List.replicate_succ, List.set_cons_zero, List.take_succ_eq_append_getElem hk, List.append_assoc, List.singleton_append]
end
section
variable {α : Type}
theorem any_take (p : α → Bool) (xs : List α) (k : Nat) (hk : k < xs.length) : (xs.take (k + 1)).any p = ((xs.take k).any p || p xs[k]) := by
  rw [List.take_succ_eq_append_getElem hk, List.any_append]; simp
theorem all_take (p : α → Bool) (xs : List α) (k : Nat) (hk : k < xs.length) : (xs.take (k + 1)).all p = ((xs.take k).all p && p xs[k]) := by
  rw [List.take_succ_eq_append_getElem hk, List.all_append]; simp
theorem any_hit (p : α → Bool) (xs : List α) (k : Nat) (hk : k < xs.length) (h : p xs[k] = true) : xs.any p = true := List.any_eq_true.2 ⟨xs[k], List.getElem_mem hk, h⟩
theorem all_miss (p : α → Bool) (xs : List α) (k : Nat) (hk : k < xs.length) (h : p xs[k] = false) : xs.all p = false := by
  rw [List.all_eq_false]; exact ⟨xs[k], List.getElem_mem hk, by simp [h]⟩
theorem count_take (p : α → Bool) (xs : List α) (k : Nat) (hk : k < xs.length) : (xs.take (k + 1)).countP p = (xs.take k).countP p + if p xs[k] then 1 else 0 := by
  rw [List.take_succ_eq_append_getElem hk, List.countP_append]; simp [List.countP_cons]
/-- Are two lists equal by q? -/
def eqL (q : α → α → Bool) : List α → List α → Bool
  | [], [] => true
  | x :: xs, y :: ys => q x y && eqL q xs ys
  | _, _ => false
theorem eqL_drop (q : α → α → Bool) (xs ys : List α) (k : Nat) (hk : k < xs.length) (hy : k < ys.length) : eqL q (xs.drop k) (ys.drop k) = (q xs[k] ys[k] && eqL q (xs.drop (k + 1)) (ys.drop (k + 1))) := by
  rw [List.drop_eq_getElem_cons hk, List.drop_eq_getElem_cons hy, eqL]
theorem eqL_end (q : α → α → Bool) (xs ys : List α) (k : Nat) (hk : xs.length ≤ k) (hy : ys.length ≤ k) : eqL q (xs.drop k) (ys.drop k) = true := by
  rw [List.drop_eq_nil_of_le hk, List.drop_eq_nil_of_le hy, eqL]
theorem eqL_len (q : α → α → Bool) : ∀ (xs ys : List α), xs.length ≠ ys.length → eqL q xs ys = false
  | [], [], h => absurd rfl h
  | [], _ :: _, _ => rfl
  | _ :: _, [], _ => rfl
  | x :: xs, y :: ys, h => by rw [eqL, eqL_len q xs ys (fun e => h (by simp [e])), Bool.and_false]
theorem eqL_refl (q : α → α → Bool) (hq : ∀ x, q x x = true) : ∀ xs : List α, eqL q xs xs = true
  | [] => rfl
  | x :: xs => by rw [eqL, hq, eqL_refl q hq xs, Bool.and_true]
/-- The first place at which p holds, or -1. -/
def fidx (p : α → Bool) (xs : List α) : Int := match xs.findIdx? p with | some k => k | none => -1
theorem fidx_hit (p : α → Bool) (xs : List α) (k : Nat) (hk : k < xs.length) (h : p xs[k] = true) (h0 : (xs.take k).any p = false) : fidx p xs = k := by
  have : xs.findIdx? p = some k := by
    rw [List.findIdx?_eq_some_iff_getElem]
    refine ⟨hk, h, fun j hj => ?_⟩
    rw [List.any_eq_false] at h0
    have := h0 xs[j] (List.mem_take_iff_getElem.2 ⟨j, by omega, rfl⟩)
    simpa using this
  rw [fidx, this]
theorem fidx_none (p : α → Bool) (xs : List α) (h0 : xs.any p = false) : fidx p xs = -1 := by
  have : xs.findIdx? p = none := by
    rw [List.findIdx?_eq_none_iff]
    rw [List.any_eq_false] at h0
    intro x hx
    simpa using h0 x hx
  rw [fidx, this]
theorem fidx_ge (p : α → Bool) (xs : List α) : (fidx p xs ≥ 0) ↔ xs.any p = true := by
  cases h : xs.any p with
  | false => rw [fidx_none p xs h]; simp
  | true =>
    simp only [iff_true]
    unfold fidx
    cases h2 : xs.findIdx? p with
    | some k => simp
    | none =>
      rw [List.findIdx?_eq_none_iff] at h2
      obtain ⟨x, hx, hp⟩ := List.any_eq_true.1 h
      rw [h2 x hx] at hp
      simp at hp
theorem fidx_lt (p : α → Bool) (xs : List α) : fidx p xs < xs.length := by
  unfold fidx
  cases h2 : xs.findIdx? p with
  | some k =>
    obtain ⟨h, _⟩ := List.findIdx?_eq_some_iff_getElem.1 h2
    simp only
    omega
  | none => simp only; omega
end
/-- The elements of a slice of masks. -/
def encMask : Enc Mask where
  enc m := [.int .u64 (lo m), .int .u64 (hi m)]
  sz := 2
  len _ := rfl
  one m u hu := by
    simp only [List.mem_cons, List.not_mem_nil, or_false] at hu
    rcases hu with rfl | rfl <;> rfl
  pos := by decide
theorem Rd.mask {w : World} {b off : Nat} {xs : List Mask} (h : Rd encMask w (some ⟨b, off, none⟩) xs) (k : Nat) (hk : k < xs.length) :
    w.cell? ⟨b, off + k * 2, none⟩ = some (.int .u64 (lo xs[k])) ∧ w.cell? ⟨b, off + k * 2 + 1, none⟩ = some (.int .u64 (hi xs[k])) ∧ b < w.heap.size := by
  obtain ⟨b', off', e1, hlt, hc⟩ := h k hk
  simp only [Option.some.injEq, Addr.mk.injEq, and_true] at e1
  obtain ⟨rfl, rfl⟩ := e1
  exact ⟨hc 0 _ rfl, hc 1 _ rfl, hlt⟩
/-- How many masks have a hole. -/
def votesN (h : Int) (xs : List Mask) : Int := (xs.countP (fun m => mhas m h) : Nat)
theorem votesN_nil (h : Int) : votesN h [] = 0 := rfl
theorem votesN_take (h : Int) (xs : List Mask) (k : Nat) (hk : k < xs.length) : votesN h (xs.take (k + 1)) = votesN h (xs.take k) + if mhas xs[k] h = true then 1 else 0 := by
  unfold votesN
  rw [count_take _ xs k hk]
  split <;> simp
theorem votesN_ge (h : Int) (xs : List Mask) : 0 ≤ votesN h xs := by unfold votesN; omega
theorem votesN_le (h : Int) (xs : List Mask) : votesN h xs ≤ xs.length := by
  unfold votesN
  have := List.countP_le_length (p := fun m => mhas m h) (l := xs)
  omega
/-- The code of some masks. -/
def masksCode (xs : List Mask) : Int := if xs.all isMaskB = true then (if 15 < xs.length then 2 else 0) else 1
/-- What is left of the bound behind so many elements. -/
def szF (n : Nat) (left : Int) : Int := if (n : Int) ≤ left then left - n else -1
/-- What VotesFor returns. -/
def votesF (xs : List Mask) (h : Int) : Int × Int := if masksCode xs = 0 then (if isHoleB h = true then (votesN h xs, 0) else (0, 2)) else (0, masksCode xs)
theorem isHole_range {h : Int} (hh : isHoleB h = true) : 0 ≤ h ∧ h < 128 := by
  simp [isHoleB] at hh
  omega
/-- A mask with further holes. -/
def mwith (m : Mask) (hs : List Int) : Mask := hs.foldl (fun m h => mjoin m (mbit h)) m
theorem mwith_take (m : Mask) (hs : List Int) (k : Nat) (hk : k < hs.length) : mwith m (hs.take (k + 1)) = mjoin (mwith m (hs.take k)) (mbit hs[k]) := by
  unfold mwith
  rw [List.take_succ_eq_append_getElem hk, List.foldl_append]
  rfl
theorem mwith_one (m : Mask) (h : Int) : mwith m [h] = mjoin m (mbit h) := rfl
/-- Whole numbers as elements. -/
def encI64 : Enc Int where
  enc x := [.int .i64 x]
  sz := 1
  len _ := rfl
  one m u hu := by
    simp only [List.mem_cons, List.not_mem_nil, or_false] at hu
    subst hu
    rfl
  pos := by decide
theorem Rd.i64 {w : World} {b off : Nat} {xs : List Int} (h : Rd encI64 w (some ⟨b, off, none⟩) xs) (k : Nat) (hk : k < xs.length) :
    w.cell? ⟨b, off + k, none⟩ = some (.int .i64 xs[k]) := by
  obtain ⟨b', off', e1, hlt, hc⟩ := h k hk
  simp only [Option.some.injEq, Addr.mk.injEq, and_true] at e1
  obtain ⟨rfl, rfl⟩ := e1
  have := hc 0 _ rfl
  simpa [encI64] using this
/-- A block holds these cells. -/
def BoxAt (w : World) (b : Nat) (cs : Array Value) (t : TypeId) : Prop := w.heap[b]? = some (.cells cs t (0, 0))
section
variable {w w' : World} {b : Nat} {cs : Array Value} {t : TypeId}
theorem BoxAt.lt (h : BoxAt w b cs t) : b < w.heap.size := (Array.getElem?_eq_some_iff.1 h).1
theorem BoxAt.ext (h : BoxAt w b cs t) (hb : Ext w w') : BoxAt w' b cs t := (hb.block b h.lt).trans h
theorem BoxAt.cell (h : BoxAt w b cs t) (i : Nat) : w.cell? ⟨b, i, none⟩ = cs[i]? := by simp [World.cell?, show w.heap[b]? = _ from h]
theorem BoxAt.frozen (h : BoxAt w b cs t) (i : Nat) : w.frozen? ⟨b, i, none⟩ = false := frozen_of_row w b i cs t h
theorem BoxAt.set (h : BoxAt w b cs t) (i : Nat) (v : Value) : BoxAt (w.setCell ⟨b, i, none⟩ v) b (cs.setIfInBounds i v) t := heap_setCell_same w b i cs t v h
theorem BoxAt.setOther (h : BoxAt w b cs t) {p : Addr} (hp : b ≠ p.block) (v : Value) : BoxAt (w.setCell p v) b cs t := (Below.heap_setCell w p v b hp).trans h
theorem BoxAt.new (w : World) (cs : Array Value) (t : TypeId) : BoxAt (w.alloc (.cells cs t)) w.heap.size cs t := by
  show (w.heap.push _)[w.heap.size]? = _
  simp
theorem BoxAt.new_eq {cs' : Array Value} (h : cs = cs') : BoxAt (w.alloc (.cells cs t)) w.heap.size cs' t := h ▸ BoxAt.new w cs t
theorem BoxAt.range (h : BoxAt w b cs t) : w.rangeAt b 0 cs.toList := fun j v hv => by rw [Nat.zero_add, h.cell]; simpa using hv
theorem BoxAt.there (h : BoxAt w b cs t) (n : Nat) (hn : n = cs.size) : w.there b 0 n := fun j hj => by
  refine ⟨?_, by rw [Nat.zero_add]; exact h.frozen j⟩
  rw [Nat.zero_add, h.cell, Array.getElem?_eq_getElem (by omega)]
  rfl
theorem BoxAt.alloc (h : BoxAt w b cs t) (o : Obj) : BoxAt (w.alloc o) b cs t := (Below.heap_alloc w o b h.lt).trans h
theorem BoxAt.new' (hb : b = w.heap.size) : BoxAt (w.alloc (.cells cs t)) b cs t := by subst hb; exact BoxAt.new w cs t
end
theorem Rd.lit {α : Type} (e : Enc α) (w : World) (xs : List α) (cs : Array Value) (t : TypeId) (hm : xs.length ≤ 1048576) (hc : cs.toList = e.all xs) :
    Rd e (w.alloc (.cells cs t)) (some ⟨w.heap.size, 0, none⟩) xs := by
  obtain ⟨A, cap, h1, _, h2⟩ := (Ow.made (base := 0) (T := t) e w xs cs (Nat.zero_le _) (by omega) hc).slice
  simp only [Value.slice.injEq] at h1
  obtain ⟨rfl, _⟩ := h1
  exact h2
/-- The holes below k of which p holds. -/
def pickTo (p : Int → Bool) : Nat → Mask
  | 0 => 0
  | k + 1 => if p k = true then mjoin (pickTo p k) (mbit k) else pickTo p k
theorem pickTo_zero (p : Int → Bool) : pickTo p 0 = 0 := rfl
theorem pickTo_hit (p : Int → Bool) (k : Nat) (h : p k = true) : pickTo p (k + 1) = mjoin (pickTo p k) (mbit k) := by rw [pickTo, if_pos h]
theorem pickTo_miss (p : Int → Bool) (k : Nat) (h : p k = false) : pickTo p (k + 1) = pickTo p k := by rw [pickTo, if_neg (by simp [h])]
attribute [irreducible] pickTo
def majP (xs : List Mask) (h : Int) : Bool := decide (2 * votesN h xs > xs.length)
def lonP (xs : List Mask) (h : Int) : Bool := decide (votesN h xs = 1 ∨ votesN h xs = xs.length - 1)
/-- What MajorityOf returns. -/
def majF (xs : List Mask) : Mask × Int := if masksCode xs = 0 then (if xs.length = 0 then (0, 6) else (pickTo (majP xs) 96, 0)) else (0, masksCode xs)
/-- What LonelyHoles returns. -/
def lonF (xs : List Mask) : Mask × Int := if masksCode xs = 0 then (if xs.length < 3 then (0, 6) else (pickTo (lonP xs) 96, 0)) else (0, masksCode xs)
theorem masksCode_le {xs : List Mask} (h : masksCode xs = 0) : xs.all isMaskB = true ∧ xs.length ≤ 15 := by
  unfold masksCode at h
  split at h
  · split at h
    · simp at h
    · exact ⟨by assumption, by omega⟩
  · simp at h
theorem Ow.made0 {α : Type} {e : Enc α} {T : TypeId} {W : World} {b base : Nat} (hb : b = W.heap.size) (h : base ≤ b) : Ow e T (W.alloc (.cells #[] T)) base (.slice (some ⟨b, 0, none⟩) 0 0) [] := by
  subst hb
  exact Ow.made e T W [] #[] h (by simp) rfl
end Go.Proofs.YtegopgpnjgikeaaGreatDoor
