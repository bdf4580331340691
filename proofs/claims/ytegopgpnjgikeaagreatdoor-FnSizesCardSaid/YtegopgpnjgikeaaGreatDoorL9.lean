/-
  A slice of the call's own to which a whole slice is appended, in order or in a region that draws.
-/
import Derived.Test.YtegopgpnjgikeaaGreatDoorL5
set_option linter.unusedVariables false
namespace Go.Proofs.YtegopgpnjgikeaaGreatDoor
open Go.RowKit
section
variable {α : Type} {e : Enc α} {w0 : World} {xs : List α} {T : TypeId} {base : Nat} {v : Value}
theorem Rd.news {w : World} {B : Addr} {ys : List α} (h : Rd e w (some B) ys) : ∀ (j : Nat) (u : Value), (e.all ys)[j]? = some u → w.cell? (B.add j) = some u := by
  intro j u hu
  have hj : j < ys.length * e.sz := by rw [← e.all_length]; exact (List.getElem?_eq_some_iff.1 hu).1
  have hq : j / e.sz < ys.length := (Nat.div_lt_iff_lt_mul e.pos).2 hj
  have hr : j % e.sz < e.sz := Nat.mod_lt _ e.pos
  have hd : j / e.sz * e.sz + j % e.sz = j := by rw [Nat.mul_comm]; exact Nat.div_add_mod j e.sz
  have hg := e.all_get ys (j / e.sz) (j % e.sz) hq hr
  rw [hd, hu] at hg
  obtain ⟨b, off, hA, _, hc⟩ := h (j / e.sz) hq
  simp only [Option.some.injEq] at hA
  subst hA
  have := hc (j % e.sz) u hg.symm
  rw [Nat.add_assoc, hd] at this
  rw [Addr.add_lit]
  exact this
theorem wpList_addAll {P : Program} {ops : Array Oper} {rest : List Oper} {o : Oper} {a : Act} {Q : Exit → Act → World → Prop} (e : Enc α) {W : World} (hgd : o.guard = none) (s y : Operand) (t : TypeId) (z : Value) (bytes : Nat)
    (ho : o.op = .call { callee := .builtin .append, args := #[s, y], argTypes := #[t, t] })
    (ht : P.underlying t = some (.slice T)) (hinfo : (P.info? T).map (fun i => (i.zero, i.size, i.bytes)) = some (some z, e.sz, bytes)) (hz : z.cells.size = e.sz)
    (ys : List α) (B : Addr) (c : Nat) (hs : a.eval s = v) (hy : a.eval y = .slice (some B) ys.length c) (HR : Rd e W (some B) ys) (HO : Ow e T W base v xs) (hbase : base ≤ W.heap.size) (hw0 : w0.heap.size ≤ base) (HE : Ext w0 W)
    (hl : (xs.length + ys.length) * bytes ≤ 140737488355328) (hl2 : xs.length + ys.length ≤ 9223372036854775807)
    (h : ∀ v1 w1, Ow e T w1 base v1 (xs ++ ys) → Ext w0 w1 → W.grownBy w1 v.ownBlock → wpList P ops Q rest (a.put o.dst v1) w1) :
    wpList P ops Q (o :: rest) a W := by
  obtain ⟨i, hi, hz0, hz1, hz2⟩ := info_parts hinfo
  refine wpList_append_own_at W hgd s y t ho base T i z e.sz bytes ht hi hz0 hz1 hz2 hz e.pos v xs.length (e.all xs) hs HO B ys.length c (e.all ys) hy (by rw [e.all_length]) HR.news (e.all_one ys) (by unfold maxLen; omega) hl hbase ?_
  intro v1 w1 hown hg _ hat
  refine h v1 w1 (by rw [Ow, List.length_append, e.all_append]; exact hown) ?_ hg
  exact HE.trans' hg (fun k hk => by have := (HO.lt k hk).1; omega)
end
section
variable {α : Type} {w0 : World} {xs : List α} {T : TypeId} {base : Nat} {v : Value}
theorem step_addAll {P : Program} {ops : Array Oper} {o : Oper} {a : Act} {K : Act → World → Prop} {Q : Exit → Act → World → Prop} {E : Prop} (e : Enc α) {W : World} (hgd : o.guard = none) (s y : Operand) (t : TypeId) (z : Value) (bytes : Nat)
    (ho : o.op = .call { callee := .builtin .append, args := #[s, y], argTypes := #[t, t] })
    (ht : P.underlying t = some (.slice T)) (hinfo : (P.info? T).map (fun i => (i.zero, i.size, i.bytes)) = some (some z, e.sz, bytes)) (hz : z.cells.size = e.sz)
    (ys : List α) (B : Addr) (c : Nat) (hs : a.eval s = v) (hy : a.eval y = .slice (some B) ys.length c) (HR : Rd e W (some B) ys) (HO : Ow e T W base v xs) (hbase : base ≤ W.heap.size) (hw0 : w0.heap.size ≤ base) (HE : Ext w0 W)
    (hl : (xs.length + ys.length) * bytes ≤ 140737488355328) (hl2 : xs.length + ys.length ≤ 9223372036854775807)
    (h : ∀ v1 w1, Ow e T w1 base v1 (xs ++ ys) → Ext w0 w1 → W.grownBy w1 v.ownBlock → (v1.ownBlock = v.ownBlock ∨ ∃ b, v1.ownBlock = some b ∧ W.heap.size ≤ b) → K (a.put o.dst v1) w1) :
    if Region.wanted o (yielded ops a.tmps) = true then Oper.wp P o a W K Q else E := by
  obtain ⟨i, hi, hz0, hz1, hz2⟩ := info_parts hinfo
  have hw : Region.wanted o (yielded ops a.tmps) = true := by simp [Region.wanted, hgd]
  rw [if_pos hw]
  obtain ⟨v', w', hr, h2, h3, h4, h5⟩ := run_append_own_at (P := P) W base t o.type T i z e.sz bytes ht hi hz0 hz1 hz2 hz e.pos v xs.length (e.all xs) HO B ys.length c (e.all ys) (by rw [e.all_length]) HR.news (e.all_one ys) (by unfold maxLen; omega) hl hbase
  unfold Oper.wp execOp
  simp only [ho, resolve, invoke, builtin, Sem.run_bind, Sem.run_pure, Result.andThen_ok, List.map_toArray, List.map_cons, List.map_nil, hs, hy, hr]
  refine h v' w' (by rw [Ow, List.length_append, e.all_append]; exact h2) ?_ h3 (h5.imp id (fun e => ⟨_, e, Nat.le_refl _⟩))
  exact HE.trans' h3 (fun k hk => by have := (HO.lt k hk).1; omega)
end
end Go.Proofs.YtegopgpnjgikeaaGreatDoor
