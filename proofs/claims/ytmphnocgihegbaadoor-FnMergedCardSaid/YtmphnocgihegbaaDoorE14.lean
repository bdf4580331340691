/-
  A slice of the call's own to which a whole slice is appended; contracts of the functions that put an entry below another one.
-/
import Derived.Test.YtmphnocgihegbaaDoorM2
import Derived.Test.YtmphnocgihegbaaDoorE11
set_option linter.unusedVariables false
set_option linter.unusedSimpArgs false
set_option maxRecDepth 100000
namespace Go.Proofs.YtmphnocgihegbaaDoor
open Go.RowKit
section
variable {α : Type} {e : Enc α} {w0 : World} {xs : List α} {T : TypeId} {base : Nat} {v : Value}
theorem Rd.news {w : World} {B : Addr} {ys : List α} (h : Rd e w (some B) ys) : ∀ (j : Nat) (u : Value), (e.all ys)[j]? = some u → w.cell? (B.add j) = some u := by
  intro j u hu
  have hj : j < ys.length * e.sz := by rw [← e.all_length]; exact (List.getElem?_eq_some_iff.1 hu).1
  have hq : j / e.sz < ys.length := (Nat.div_lt_iff_lt_mul e.pos).2 hj
  have hr : j % e.sz < e.sz := Nat.mod_lt _ e.pos
  have hd : j / e.sz * e.sz + j % e.sz = j := by rw [Nat.mul_comm]; exact Nat.div_add_mod j e.sz
  have hg := e.all_get ys (j / e.sz) (j % e.sz) hq hr
  rw [hd, hu] at hg
  obtain ⟨b, off, hA, _, hc⟩ := h (j / e.sz) hq
  simp only [Option.some.injEq] at hA
  subst hA
  have := hc (j % e.sz) u hg.symm
  rw [Nat.add_assoc, hd] at this
  rw [Addr.add_lit]
  exact this
theorem wpList_addAll {P : Program} {ops : Array Oper} {rest : List Oper} {o : Oper} {a : Act} {Q : Exit → Act → World → Prop} (e : Enc α) {W : World} (hgd : o.guard = none) (s y : Operand) (t : TypeId) (z : Value) (bytes : Nat)
    (ho : o.op = .call { callee := .builtin .append, args := #[s, y], argTypes := #[t, t] })
    (ht : P.underlying t = some (.slice T)) (hinfo : (P.info? T).map (fun i => (i.zero, i.size, i.bytes)) = some (some z, e.sz, bytes)) (hz : z.cells.size = e.sz)
    (ys : List α) (B : Addr) (c : Nat) (hs : a.eval s = v) (hy : a.eval y = .slice (some B) ys.length c) (HR : Rd e W (some B) ys) (HO : Ow e T W base v xs) (hbase : base ≤ W.heap.size) (hw0 : w0.heap.size ≤ base) (HE : Ext w0 W)
    (hl : (xs.length + ys.length) * bytes ≤ 140737488355328) (hl2 : xs.length + ys.length ≤ 9223372036854775807)
    (h : ∀ v1 w1, Ow e T w1 base v1 (xs ++ ys) → Ext w0 w1 → W.grownBy w1 v.ownBlock → wpList P ops Q rest (a.put o.dst v1) w1) :
    wpList P ops Q (o :: rest) a W := by
  obtain ⟨i, hi, hz0, hz1, hz2⟩ := info_parts hinfo
  refine wpList_append_own_at W hgd s y t ho base T i z e.sz bytes ht hi hz0 hz1 hz2 hz e.pos v xs.length (e.all xs) hs HO B ys.length c (e.all ys) hy (by rw [e.all_length]) HR.news (e.all_one ys) (by unfold maxLen; omega) hl hbase ?_
  intro v1 w1 hown hg _ hat
  refine h v1 w1 (by rw [Ow, List.length_append, e.all_append]; exact hown) ?_ hg
  exact HE.trans' hg (fun k hk => by have := (HO.lt k hk).1; omega)
end
theorem CatArg.ofOw {T : TypeId} {w : World} {base : Nat} {v : Value} {xs : List Ent} (h : Ow encEnt T w base v xs) (hn : xs.length ≤ 1048576) (hok : ∀ x ∈ xs, x.nm.size ≤ 9223372036854775807) :
    ∃ A cap, v = .slice A xs.length cap ∧ CatArg w A cap xs := by
  obtain ⟨A, cap, h1, h2, h3⟩ := h.slice
  exact ⟨A, cap, h1, ⟨h3, h2, hn, hok⟩⟩
/-- A catalogue in which an entry's broader one is set. -/
def putL (xs : List Ent) (i br : Int) : List Ent := xs.set i.toNat ⟨xs[i.toNat]!.nm, xs[i.toNat]!.see, br⟩
/-- A catalogue with a code. -/
def madeF (ys : List Ent) : List Ent × Int := if catB ys = true then (ys, 0) else ([], 4)
def putF (xs : List Ent) (i br : Int) : List Ent × Int := if atsF xs [i] = 0 then madeF (putL xs i br) else ([], atsF xs [i])
theorem info_ent : (Tryd.prog.info? 49).map (fun i => (i.zero, i.size, i.bytes)) = some (some (.agg #[.string ⟨#[]⟩, .int .i64 0, .int .i64 0]), encEnt.sz, 32) := by kernel_rfl
set_option maxHeartbeats 400000 in
theorem spec_l05Copy (xs : List Ent) (A : Option Addr) (cap : Nat) (w : World) (hC : CatArg w A cap xs) :
    Calls Tryd.prog 61 #[.slice A xs.length cap] w fun e w' => ∃ v, e = .returned v ∧ Ow encEnt 49 w' w.heap.size v xs ∧ Ext w w' := by
  have hlen := hC.len
  cases A with
  | none =>
    have hx : xs = [] := by
      cases xs with
      | nil => rfl
      | cons x r =>
        obtain ⟨b, off, h, _⟩ := hC.rd 0 (by simp)
        simp at h
    subst hx
    go_enter Tryd.func61, Tryd.ntmps61
    go_wp2
    go_ret
    exact ⟨_, rfl, Ow.made0 rfl (Nat.le_refl _), by ((repeat (first | with_reducible exact Ext.refl _ | with_reducible exact hw | with_reducible exact hb9 | with_reducible exact hb8 | with_reducible exact hb7 | with_reducible exact hb6 | with_reducible exact hb5 | with_reducible exact hb4 | with_reducible exact hb3 | with_reducible exact hb2 | with_reducible exact hb1 | with_reducible refine Ext.alloc ?_ _ | with_reducible refine Ext.drew ?_ | ((with_reducible refine Ext.set ?_ ?_ _); focus (dsimp only; omega)) | with_reducible refine Ext.trans ?_ hb9 | with_reducible refine Ext.trans ?_ hb8 | with_reducible refine Ext.trans ?_ hb7 | with_reducible refine Ext.trans ?_ hb6 | with_reducible refine Ext.trans ?_ hb5 | with_reducible refine Ext.trans ?_ hb4 | with_reducible refine Ext.trans ?_ hb3 | with_reducible refine Ext.trans ?_ hb2 | with_reducible refine Ext.trans ?_ hb1 | with_reducible refine Ext.trans ?_ hw)))⟩
  | some B =>
    go_enter Tryd.func61, Tryd.ntmps61
    go_wp2_with (at_builtin; refine wpList_addAll (w0 := w) (base := w.heap.size) (xs := []) encEnt (by rfl) _ _ 27 (.agg #[.string ⟨#[]⟩, .int .i64 0, .int .i64 0]) 32 (by rfl) Tryd.underlying27 info_ent (by rfl) xs B cap (by rfl) (by rfl) (hC.rd.ext (by ((repeat (first | with_reducible exact Ext.refl _ | with_reducible exact hw | with_reducible exact hb9 | with_reducible exact hb8 | with_reducible exact hb7 | with_reducible exact hb6 | with_reducible exact hb5 | with_reducible exact hb4 | with_reducible exact hb3 | with_reducible exact hb2 | with_reducible exact hb1 | with_reducible refine Ext.alloc ?_ _ | with_reducible refine Ext.drew ?_ | ((with_reducible refine Ext.set ?_ ?_ _); focus (dsimp only; omega)) | with_reducible refine Ext.trans ?_ hb9 | with_reducible refine Ext.trans ?_ hb8 | with_reducible refine Ext.trans ?_ hb7 | with_reducible refine Ext.trans ?_ hb6 | with_reducible refine Ext.trans ?_ hb5 | with_reducible refine Ext.trans ?_ hb4 | with_reducible refine Ext.trans ?_ hb3 | with_reducible refine Ext.trans ?_ hb2 | with_reducible refine Ext.trans ?_ hb1 | with_reducible refine Ext.trans ?_ hw))))) (Ow.made0 rfl (Nat.le_refl _)) (by simp) (Nat.le_refl _) (by ((repeat (first | with_reducible exact Ext.refl _ | with_reducible exact hw | with_reducible exact hb9 | with_reducible exact hb8 | with_reducible exact hb7 | with_reducible exact hb6 | with_reducible exact hb5 | with_reducible exact hb4 | with_reducible exact hb3 | with_reducible exact hb2 | with_reducible exact hb1 | with_reducible refine Ext.alloc ?_ _ | with_reducible refine Ext.drew ?_ | ((with_reducible refine Ext.set ?_ ?_ _); focus (dsimp only; omega)) | with_reducible refine Ext.trans ?_ hb9 | with_reducible refine Ext.trans ?_ hb8 | with_reducible refine Ext.trans ?_ hb7 | with_reducible refine Ext.trans ?_ hb6 | with_reducible refine Ext.trans ?_ hb5 | with_reducible refine Ext.trans ?_ hb4 | with_reducible refine Ext.trans ?_ hb3 | with_reducible refine Ext.trans ?_ hb2 | with_reducible refine Ext.trans ?_ hb1 | with_reducible refine Ext.trans ?_ hw)))) (by simp; omega) (by simp; omega) ?_)
    intro v3 w3 hO3 hb3 hg3
    go_wp2
    go_ret
    exact ⟨_, rfl, hO3, hb3⟩
set_option maxHeartbeats 400000 in
theorem spec_l05Made (ys : List Ent) (v : Value) (base : Nat) (w : World) (hO : Ow encEnt 49 w base v ys) (hb : base ≤ w.heap.size) (hn : ys.length ≤ 1048576) (hok : ∀ x ∈ ys, x.nm.size ≤ 9223372036854775807) :
    Calls Tryd.prog 62 #[v] w fun e w' => ∃ v', e = .returned (.tuple #[v', .int .i64 (madeF ys).2]) ∧ Ow encEnt 49 w' base v' (madeF ys).1 ∧ Ext w w' := by
  obtain ⟨A, cap, rfl, hC⟩ := CatArg.ofOw hO hn hok
  cases hc : catB ys with
  | false =>
    have hv := hd (show madeF ys = ([], 4) by unfold madeF; rw [hc]; rfl)
    go_enter Tryd.func62, Tryd.ntmps62
    go_wp2_with fail
    refine Calls.mono (spec_l05Ok ys A cap _ hC.rd hC.ok hC.len) ?_
    rintro e w1 ⟨rfl, hb1⟩
    rw [hc]
    go_wp2
    refine bodyPost_ret (v := .tuple #[_, .int .i64 4]) (by simp [results, Tryd.results62, go_sem]; rfl) rfl ⟨_, by rw [hv.out], ?_, by ((repeat (first | with_reducible exact Ext.refl _ | with_reducible exact hw | with_reducible exact hb9 | with_reducible exact hb8 | with_reducible exact hb7 | with_reducible exact hb6 | with_reducible exact hb5 | with_reducible exact hb4 | with_reducible exact hb3 | with_reducible exact hb2 | with_reducible exact hb1 | with_reducible refine Ext.alloc ?_ _ | with_reducible refine Ext.drew ?_ | ((with_reducible refine Ext.set ?_ ?_ _); focus (dsimp only; omega)) | with_reducible refine Ext.trans ?_ hb9 | with_reducible refine Ext.trans ?_ hb8 | with_reducible refine Ext.trans ?_ hb7 | with_reducible refine Ext.trans ?_ hb6 | with_reducible refine Ext.trans ?_ hb5 | with_reducible refine Ext.trans ?_ hb4 | with_reducible refine Ext.trans ?_ hb3 | with_reducible refine Ext.trans ?_ hb2 | with_reducible refine Ext.trans ?_ hb1 | with_reducible refine Ext.trans ?_ hw)))⟩
    rw [hv.out]
    exact Ow.made0 rfl (Nat.le_trans hb hb1.size)
  | true =>
    have hv := hd (show madeF ys = (ys, 0) by unfold madeF; rw [hc]; rfl)
    go_enter Tryd.func62, Tryd.ntmps62
    go_wp2_with fail
    refine Calls.mono (spec_l05Ok ys A cap _ hC.rd hC.ok hC.len) ?_
    rintro e w1 ⟨rfl, hb1⟩
    rw [hc]
    go_wp2
    refine bodyPost_ret (v := .tuple #[.slice A ys.length cap, .int .i64 0]) (by simp [results, Tryd.results62, go_sem]) rfl ⟨_, by rw [hv.out], ?_, hb1⟩
    rw [hv.out]
    exact hO.ext hb1
