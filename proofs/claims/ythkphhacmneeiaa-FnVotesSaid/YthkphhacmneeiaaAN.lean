/-
  An append of a slice that may be nil, in a plain list of operations; new slices without elements.
-/
import Derived.Test.YthkphhacmneeiaaL9
set_option linter.unusedVariables false
set_option linter.unusedSimpArgs false
set_option maxRecDepth 100000
namespace Go.Proofs.Ythkphhacmneeiaa
open Go.RowKit
theorem run_append_nilL {P : Program} (W : World) (t ty e : TypeId) (i : TypeInfo) (ht : P.underlying t = some (.slice e)) (hi : P.info? e = some i) (A : Option Addr) (n cap c : Nat) (hle : n ≤ cap) :
    (Builtin.append_ #[t, t] ty #[.slice A n cap, .slice none 0 c]).run P W = .ok (.slice A n cap) W := by
  cases A with
  | none => simp [Builtin.append_, run_underlying ht, sizeOf, typeInfo, hi, Builtin.lenOf, Builtin.firstCells, hle]
  | some a => simp [Builtin.append_, run_underlying ht, sizeOf, typeInfo, hi, Builtin.lenOf, Builtin.firstCells, hle, storeCells]
theorem wpList_addAny {α : Type} {w0 : World} {xs : List α} {T : TypeId} {base : Nat} {v : Value} {P : Program} {ops : Array Oper} {rest : List Oper} {o : Oper} {a : Act} {Q : Exit → Act → World → Prop} (e : Enc α) {W : World} (hgd : o.guard = none) (s y : Operand) (t : TypeId) (z : Value) (bytes : Nat)
    (ho : o.op = .call { callee := .builtin .append, args := #[s, y], argTypes := #[t, t] })
    (ht : P.underlying t = some (.slice T)) (hinfo : (P.info? T).map (fun i => (i.zero, i.size, i.bytes)) = some (some z, e.sz, bytes)) (hz : z.cells.size = e.sz)
    (ys : List α) (B : Option Addr) (c : Nat) (hs : a.eval s = v) (hy : a.eval y = .slice B ys.length c) (HR : Rd e W B ys) (HO : Ow e T W base v xs) (hbase : base ≤ W.heap.size) (hw0 : w0.heap.size ≤ base) (HE : Ext w0 W)
    (hl : (xs.length + ys.length) * bytes ≤ 140737488355328) (hl2 : xs.length + ys.length ≤ 9223372036854775807)
    (h : ∀ v1 w1, Ow e T w1 base v1 (xs ++ ys) → Ext w0 w1 → wpList P ops Q rest (a.put o.dst v1) w1) :
    wpList P ops Q (o :: rest) a W := by
  cases B with
  | some B => exact wpList_addAll e hgd s y t z bytes ho ht hinfo hz ys B c hs hy HR HO hbase hw0 HE hl hl2 (fun v1 w1 h1 h2 _ => h v1 w1 h1 h2)
  | none =>
    have hys : ys = [] := by
      cases ys with
      | nil => rfl
      | cons y ys => obtain ⟨b, off, hb, _⟩ := HR 0 (Nat.zero_lt_succ _); cases hb
    subst hys
    obtain ⟨i, hi, hz0, hz1, hz2⟩ := info_parts hinfo
    obtain ⟨A, cap, rfl, hle, _⟩ := HO.slice
    refine wpList_plain hgd fun K hK => ?_
    have hr := run_append_nilL (P := P) W t o.type T i ht hi A xs.length cap c hle
    unfold Oper.wp execOp
    simp only [ho, resolve, invoke, builtin, Sem.run_bind, Sem.run_pure, Result.andThen_ok, List.map_toArray, List.map_cons, List.map_nil, hs, hy, List.length_nil, hr]
    exact hK _ _ (h _ _ (by rw [List.append_nil]; exact HO) HE)
end Go.Proofs.Ythkphhacmneeiaa
