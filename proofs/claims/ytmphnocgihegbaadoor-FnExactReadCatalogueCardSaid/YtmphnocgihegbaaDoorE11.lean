/-
  Contracts of the functions that list the tops of a catalogue, and the synonyms of an entry.
-/
import Derived.Test.YtmphnocgihegbaaDoorE9
set_option linter.unusedVariables false
set_option linter.unusedSimpArgs false
set_option maxRecDepth 100000
namespace Go.Proofs.YtmphnocgihegbaaDoor
open Go.RowKit
section
variable {α : Type} {e : Enc α} {w0 : World} {xs : List α} {T : TypeId} {base : Nat} {v : Value}
theorem wpList_push2 {P : Program} {ops : Array Oper} {rest : List Oper} {o : Oper} {a : Act} {Q : Exit → Act → World → Prop} (e : Enc α) {W : World} {bk : Nat} (hgd : o.guard = none) (s y : Operand) (t : TypeId) (z : Value) (bytes : Nat)
    (ho : o.op = .call { callee := .builtin .append, args := #[s, y], argTypes := #[t, t] })
    (ht : P.underlying t = some (.slice T)) (hinfo : (P.info? T).map (fun i => (i.zero, i.size, i.bytes)) = some (some z, e.sz, bytes)) (hz : z.cells.size = e.sz)
    (x : α) (hs : a.eval s = v) (hy : a.eval y = .slice (some ⟨bk, 0, none⟩) 1 1) (hbk : bk = W.heap.size) (HO : Ow e T W base v xs) (hbase : base ≤ W.heap.size) (hw0 : w0.heap.size ≤ base) (HE : Ext w0 W)
    (hl : (xs.length + 1) * bytes ≤ 140737488355328) (hl2 : xs.length + 1 ≤ 9223372036854775807)
    (h : ∀ v1 w1, Ow e T w1 base v1 (xs ++ [x]) → Ext w0 w1 → W.grownBy w1 v.ownBlock → (v1.ownBlock = v.ownBlock ∨ ∃ b, v1.ownBlock = some b ∧ W.heap.size ≤ b) → wpList P ops Q rest (a.put o.dst v1) w1) :
    wpList P ops Q (o :: rest) a (W.alloc (.cells (e.enc x).toArray T)) := by
  subst hbk
  exact wpList_push e hgd s y t z bytes ho ht hinfo hz x hs hy HO hbase hw0 HE hl hl2 h
end
/-- The numbers below n of which p holds, in order. -/
def pickI (p : Nat → Bool) : Nat → List Int
  | 0 => []
  | n + 1 => if p n = true then pickI p n ++ [(n : Int)] else pickI p n
theorem pickI_zero (p : Nat → Bool) : pickI p 0 = [] := rfl
theorem pickI_hit (p : Nat → Bool) (k : Nat) (h : p k = true) : pickI p (k + 1) = pickI p k ++ [(k : Int)] := by rw [pickI, if_pos h]
theorem pickI_miss (p : Nat → Bool) (k : Nat) (h : p k = false) : pickI p (k + 1) = pickI p k := by rw [pickI, if_neg (by simp [h])]
theorem pickI_len (p : Nat → Bool) : ∀ k, (pickI p k).length ≤ k
  | 0 => Nat.le_refl _
  | k + 1 => by
    rw [pickI]
    have := pickI_len p k
    split
    · rw [List.length_append, List.length_singleton]; omega
    · omega
attribute [irreducible] pickI
def topB (xs : List Ent) (k : Nat) : Bool := xs[k]!.see == -1 && xs[k]!.br == -1
def topsF (xs : List Ent) : List Int × Int := if catB xs = true then (pickI (topB xs) xs.length, 0) else ([], 1)
