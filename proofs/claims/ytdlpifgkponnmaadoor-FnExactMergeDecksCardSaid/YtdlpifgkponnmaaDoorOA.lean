/-
  OA: the texts O2 O4 O3 O6 O7 O8 in one (written by merge.py).
-/
import Derived.Test.YtdlpifgkponnmaaDoorO1
import Derived.Test.YtdlpifgkponnmaaDoorE0
import Derived.Deep.Slices
import Derived.Handed
import Derived.Test.YtdlpifgkponnmaaDoorK0
import Derived.Test.YtdlpifgkponnmaaDoorF0
import Derived.Test.YtdlpifgkponnmaaDoorF18
import Derived.Test.YtdlpifgkponnmaaDoorF26
set_option linter.unusedVariables false
set_option maxRecDepth 100000
namespace Go.Proofs.YtdlpifgkponnmaaDoor
open Go.ChangeShapes Go.WideShapes Go.ChangeAt Go.RowKit
theorem cell_block {w : World} {a : Addr} {v : Value} (h : w.cell? a = some v) : a.block < w.heap.size := by
  cases h2 : w.heap[a.block]? with
  | none => simp [World.cell?, h2] at h
  | some o => exact (Array.getElem?_eq_some_iff.1 h2).1
theorem open_sliceOk {α : Type} [Inhabited α] (e : Enc α) (ok : α → Prop) {H : Type} {enc : TypeId × Value → H} {P : Program} {w : World} {base : Nat} {spare : Nat → Bool} {held : Bool} {r : Reach} {b0 : Nat} {v : Value} {d : DataW H} {p : List MemPlace} {t E : TypeId}
    (ht : P.underlying t = some (.slice E)) (hsz : P.cellsOf E = e.sz) (hel : ∀ n cs x, DataW.trod enc P w base spare held n E cs = some x → ∃ m : α, cs = e.enc m ∧ ok m)
    (hv : Value.okWide P w r b0 t v) (h : DataW.Trod enc P w base spare held t v d p) : ∃ (A : Option Addr) (xs : List α) (cap : Nat), v = .slice A xs.length cap ∧ xs.length ≤ cap ∧ xs.length ≤ 9223372036854775807 ∧ Rd e w A xs ∧ ∀ x ∈ xs, ok x := by
  obtain ⟨a0, l0, c0, rfl⟩ := okWide_slice ht hv
  obtain ⟨fuel, hf⟩ := h
  rcases Go.Deep.open_slice ht hf with ⟨h1, _⟩ | ⟨a, len, cap, m, n, D, Pl, h1, hb, hl, hm, hmm, _, hx⟩
  · simp [Value.cells] at h1
    obtain ⟨rfl, rfl, rfl⟩ := h1
    exact ⟨none, [], 0, rfl, Nat.le_refl _, by simp, Rd.nil _ _ _, by simp⟩
  · simp [Value.cells] at h1
    obtain ⟨rfl, rfl, rfl⟩ := h1
    have hlm : l0 ≤ m := by rw [hmm]; split <;> omega
    obtain ⟨f, hfx⟩ := Go.Deep.choose_lt (n := l0) (p := fun i (y : α) => w.cells? base (a.add (i * P.cellsOf E)) (P.cellsOf E) = some (e.enc y) ∧ ok y) (fun i hi => by
      obtain ⟨cs', g1, g2⟩ := hx i (by omega)
      obtain ⟨y, rfl, hy⟩ := hel _ _ _ g2
      exact ⟨y, g1, hy⟩)
    have hspot : 0 < l0 → a.spot = none := fun h0 => by
      obtain ⟨_, hlen, hc⟩ := World.cells?_some (hfx 0 h0).1
      have c0' := hc 0 (by rw [hsz]; exact e.pos)
      have hp : 0 < (e.enc (f 0)).length := by rw [e.len]; exact e.pos
      rw [List.getElem?_eq_getElem hp, Nat.zero_mul, show (a.add 0).add 0 = a from rfl] at c0'
      exact World.cell?_spot c0'
    refine ⟨some a, (List.range l0).map f, c0, by simp, by simpa using hl, by unfold maxLen at hm; simp; omega, fun k hk => ?_, fun x hx => by
      obtain ⟨i, hi, rfl⟩ := List.mem_map.1 hx
      exact (hfx i (List.mem_range.1 hi)).2⟩
    have hk' : k < l0 := by simpa using hk
    obtain ⟨_, hlen, hc⟩ := World.cells?_some (hfx k hk').1
    have hxk : ((List.range l0).map f)[k] = f k := by simp
    have c0' := hc 0 (by rw [hsz]; exact e.pos)
    have h0 : 0 < (e.enc (f k)).length := by rw [e.len]; exact e.pos
    rw [List.getElem?_eq_getElem h0] at c0'
    have hsp := hspot (by omega)
    obtain ⟨b, off, spot⟩ := a
    simp only at hsp
    subst hsp
    simp only [Addr.add_lit] at hc c0'
    refine ⟨b, off, rfl, cell_block c0', fun j u hu => ?_⟩
    rw [hxk] at hu
    have hj : j < P.cellsOf E := by rw [hsz, ← e.len (f k)]; exact (List.getElem?_eq_some_iff.1 hu).1
    have := hc j hj
    rw [hu, hsz] at this
    exact this
theorem open_sliceE {α : Type} [Inhabited α] (e : Enc α) {H : Type} {enc : TypeId × Value → H} {P : Program} {w : World} {base : Nat} {spare : Nat → Bool} {held : Bool} {r : Reach} {b0 : Nat} {v : Value} {d : DataW H} {p : List MemPlace} {t E : TypeId}
    (ht : P.underlying t = some (.slice E)) (hsz : P.cellsOf E = e.sz) (hel : ∀ n cs x, DataW.trod enc P w base spare held n E cs = some x → ∃ m : α, cs = e.enc m)
    (hv : Value.okWide P w r b0 t v) (h : DataW.Trod enc P w base spare held t v d p) : ∃ (A : Option Addr) (xs : List α) (cap : Nat), v = .slice A xs.length cap ∧ xs.length ≤ cap ∧ xs.length ≤ 9223372036854775807 ∧ Rd e w A xs := by
  obtain ⟨A, xs, cap, h1, h2, h3, h4, _⟩ := open_sliceOk e (fun _ => True) ht hsz (fun n cs x hx => by obtain ⟨m, hm⟩ := hel n cs x hx; exact ⟨m, hm, trivial⟩) hv h
  exact ⟨A, xs, cap, h1, h2, h3, h4⟩
section
variable {H : Type} {enc : TypeId × Value → H} {P : Program} {w : World} {base : Nat} {spare : Nat → Bool} {held : Bool} {fuel : Nat} {cs : List Value} {x : DataW H × List MemPlace} {t : TypeId}
theorem trod_i64 (ht : P.underlying t = some (.int .i64)) (h : DataW.trod enc P w base spare held fuel t cs = some x) : ∃ n : Int, cs = [.int .i64 n] ∧ -9223372036854775808 ≤ n ∧ n < 9223372036854775808 := by
  obtain ⟨a, ha, _, wa⟩ := DataW.trod_int ht h
  simp [Lit.wf, IntKind.min, IntKind.max, IntKind.signed, IntKind.bits] at wa
  exact ⟨a, ha, by omega, by omega⟩
theorem trod_str (ht : P.underlying t = some .string) (h : DataW.trod enc P w base spare held fuel t cs = some x) : ∃ s : ByteArray, cs = [.string s] ∧ s.size ≤ 9223372036854775807 := by
  obtain ⟨s, hs, _, hm⟩ := DataW.trod_string ht h
  exact ⟨s, hs, by unfold maxLen at hm; omega⟩
end
theorem open_int64 {w : World} {r : Reach} {b0 : Nat} {v : Value} {H : Type} {enc : TypeId × Value → H} {base : Nat} {spare : Nat → Bool} {held : Bool} {d : DataW H} {p : List MemPlace}
    (hv : Value.okWide Tryd.prog w r b0 2 v) (h : DataW.Trod enc Tryd.prog w base spare held 2 v d p) : ∃ n : Int, v = .int .i64 n ∧ -9223372036854775808 ≤ n ∧ n < 9223372036854775808 := by
  obtain ⟨n, rfl⟩ := okWide_int Tryd.underlying2 hv
  obtain ⟨fuel, hf⟩ := h
  obtain ⟨a, ha, _, wa⟩ := DataW.trod_int Tryd.underlying2 hf
  simp [Value.cells] at ha
  subst ha
  simp [Lit.wf, IntKind.min, IntKind.max, IntKind.signed, IntKind.bits] at wa
  exact ⟨n, rfl, by omega, by omega⟩
end Go.Proofs.YtdlpifgkponnmaaDoor
set_option linter.unusedVariables false
set_option maxRecDepth 100000
namespace Go.Proofs.YtdlpifgkponnmaaDoor
open Go.ChangeShapes Go.WideShapes Go.ChangeAt Go.RowKit
theorem change_and_shaped {H : Type} {enc : TypeId × Value → H} {a : Assume} {C : Checked} {os : Os} {f : FuncId} {fn : Func} {s : ChangeSpec} {conds : List PathCond} {apart fresh handsOn again : Bool} {X : World → Array Value → Prop}
    (hX : ∀ (w w' : World) (args : Array Value), w.heap = w'.heap → X w args → X w' args)
    (own : ownKnob C.prog.godebug = none) (started : os.Started) (noInit : C.prog.inits.idxOf? f = none) (hfn : C.prog.funcs[f]? = some fn)
    (witness : ∃ (w : World) (tape : Tape) (i : Input), w.os = os ∧ (w.forCall tape i).Shaped C.prog ∧ i.vars = [] ∧ Input.okWide C.prog (w.forCall tape i) .any w.heap.size f i ∧
      ((s.pre enc C.prog fn conds apart (w.forCall tape i).memory i.args ∧ X (w.forCall tape i).memory i.args) ∧ sizedMet enc C.prog fn (OpenSpec.ofChange s) apart (w.forCall tape i).memory i.args) ∧ a.holds C.prog (lone (Frame.enter C.prog f i.args .normal) [] (w.forCall tape i)))
    (contract : ∀ (W : World) (base : Nat) (args : Array Value) (ds gs : List (DataW H)) (before : List MemPlace),
      (∀ (j : Nat) t v, fn.params[j]? = some t → args[j]? = some v → Value.okWide C.prog W .any base t v) →
      DataW.Whole enc C.prog fn.params.toList s.vars apart W args.toList ds gs before →
      conds.all (PathCond.test C.prog ⟨fn.params.toList, ds, s.plain.varTypes C.prog, gs⟩) = true →
      (DataW.weightsEach C.prog (fn.params.toList ++ s.plain.varTypes C.prog) (ds ++ gs)).all (· ≤ reachBytes) = true → X W args →
      W.ShapedOpen C.prog →
      Calls C.prog f args W fun e W' => ∃ v, e = .returned v ∧ s.post enc C.prog fn apart fresh handsOn again W args v W') :
    ReturnsInHanded a C os f .any (fun w args => (s.pre enc C.prog fn conds apart w args ∧ X w args) ∧ sizedMet enc C.prog fn (OpenSpec.ofChange s) apart w args) (s.post enc C.prog fn apart fresh handsOn again) := by
  refine returnsInHanded_of_calls own started noInit witness ?_
  intro w tape i _ hsh _ hok hpre hholds
  obtain ⟨_, _, _, fn', hfn', _, _, _, _, hval⟩ := hok
  have e : fn' = fn := Option.some.inj (hfn'.symm.trans hfn)
  subst e
  obtain ⟨⟨⟨ds, gs, before, hw, hc⟩, hx⟩, hz⟩ := hpre
  have hw' := DataW.Whole.of_heap (w' := w.forCall tape i) (by rfl) hw
  refine (contract (w.forCall tape i) w.heap.size i.args ds gs before hval hw' hc (hz.weights hw) (hX _ _ _ (by rfl) hx) hsh).mono fun e W' ⟨v, he, hp⟩ => ?_
  subst he
  exact ChangeSpec.post_blind hp
theorem open_text {w : World} {r : Reach} {b0 : Nat} {v : Value} {H : Type} {enc : TypeId × Value → H} {base : Nat} {spare : Nat → Bool} {held : Bool} {d : DataW H} {p : List MemPlace}
    (hv : Value.okWide Tryd.prog w r b0 9 v) (h : DataW.Trod enc Tryd.prog w base spare held 9 v d p) : ∃ s : ByteArray, v = .string s ∧ s.size ≤ 9223372036854775807 := by
  obtain ⟨s, h1, _, _, hm⟩ := Go.ChangeMaps.open_string Tryd.underlying9 hv h
  exact ⟨s, h1, by unfold maxLen at hm; omega⟩
end Go.Proofs.YtdlpifgkponnmaaDoor
set_option linter.unusedVariables false
set_option maxRecDepth 100000
namespace Go.Proofs.YtdlpifgkponnmaaDoor
open Go.ChangeShapes Go.WideShapes Go.ChangeAt Go.RowKit
theorem cells_Card {H : Type} {enc : TypeId × Value → H} {w : World} {base : Nat} {spare : Nat → Bool} {held : Bool} {fuel : Nat} {cs : List Value} {x : DataW H × List MemPlace}
    (h : DataW.trod enc Tryd.prog w base spare held fuel 64 cs = some x) : ∃ y : Crd, cs = encCrd.enc y ∧ y.nm.size ≤ 9223372036854775807 := by
  obtain ⟨xs, m, rfl, rfl, hl, hx, hi'⟩ := DataW.trod_struct Tryd.underlying64 h
  have hc : Tryd.prog.cellsOf 64 = 3 := by kernel_rfl
  have hc1 : Tryd.prog.cellsOf 9 = 1 := by kernel_rfl
  have hc2 : Tryd.prog.cellsOf 57 = 2 := by kernel_rfl
  rw [hc] at hl
  match cs, hl, xs, hx with
  | [c0, c1, c2], _, [x0, x1], _ =>
    have h0 := hi' 0 _ rfl
    have h1 := hi' 1 _ rfl
    simp [hc1, hc2] at h0 h1
    obtain ⟨a, ha, wa⟩ := trod_str Tryd.underlying9 h0
    obtain ⟨b, hb⟩ := cells_arr2 h1
    simp at ha hb
    obtain ⟨rfl, rfl⟩ := hb
    subst ha
    exact ⟨⟨a, b⟩, rfl, wa⟩
theorem open_Card {H : Type} {enc : TypeId × Value → H} {w : World} {base : Nat} {spare : Nat → Bool} {held : Bool} {r : Reach} {b0 : Nat} {v : Value} {d : DataW H} {p : List MemPlace}
    (hv : Value.okWide Tryd.prog w r b0 64 v) (h : DataW.Trod enc Tryd.prog w base spare held 64 v d p) : ∃ y : Crd, v = .agg #[.string y.nm, .int .u64 (lo y.m), .int .u64 (hi y.m)] ∧ y.nm.size ≤ 9223372036854775807 := by
  obtain ⟨cs, rfl, hsz⟩ := okWide_struct Tryd.underlying64 hv
  obtain ⟨fuel, hf⟩ := h
  obtain ⟨y, hy, hk⟩ := cells_Card (cs := cs.toList) (by simpa [Value.cells] using hf)
  exact ⟨y, by obtain ⟨l⟩ := cs; simp at hy; rw [hy]; rfl, hk⟩
theorem open_u32 {w : World} {r : Reach} {b0 : Nat} {v : Value} {H : Type} {enc : TypeId × Value → H} {base : Nat} {spare : Nat → Bool} {held : Bool} {d : DataW H} {p : List MemPlace}
    (hv : Value.okWide Tryd.prog w r b0 150 v) (h : DataW.Trod enc Tryd.prog w base spare held 150 v d p) : ∃ n : Int, v = .int .u32 n ∧ 0 ≤ n ∧ n < 4294967296 := by
  obtain ⟨n, rfl⟩ := okWide_int Tryd.underlying150 hv
  obtain ⟨fuel, hf⟩ := h
  obtain ⟨a, ha, _, wa⟩ := DataW.trod_int Tryd.underlying150 hf
  simp [Value.cells] at ha
  subst ha
  simp [Lit.wf, IntKind.min, IntKind.max, IntKind.signed, IntKind.bits] at wa
  exact ⟨n, rfl, by omega, by omega⟩
end Go.Proofs.YtdlpifgkponnmaaDoor
set_option linter.unusedVariables false
set_option maxRecDepth 100000
namespace Go.Proofs.YtdlpifgkponnmaaDoor
open Go.ChangeShapes Go.WideShapes Go.ChangeAt Go.RowKit
theorem cells_Field {H : Type} {enc : TypeId × Value → H} {w : World} {base : Nat} {spare : Nat → Bool} {held : Bool} {fuel : Nat} {cs : List Value} {x : DataW H × List MemPlace}
    (h : DataW.trod enc Tryd.prog w base spare held fuel 26 cs = some x) : ∃ (nm : ByteArray) (kd st sz : Int), cs = [.string nm, .int .i8 kd, .int .i16 st, .int .i16 sz] ∧ Fld.ok ⟨nm, kd, st, sz⟩ ∧ nm.size ≤ 9223372036854775807 := by
  obtain ⟨xs, m, rfl, rfl, hl, hx, hi'⟩ := DataW.trod_struct Tryd.underlying26 h
  have hc : Tryd.prog.cellsOf 26 = 4 := by kernel_rfl
  have hc1 : Tryd.prog.cellsOf 9 = 1 := by kernel_rfl
  have hc2 : Tryd.prog.cellsOf 23 = 1 := by kernel_rfl
  have hc3 : Tryd.prog.cellsOf 24 = 1 := by kernel_rfl
  rw [hc] at hl
  match cs, hl, xs, hx with
  | [e0, e1, e2, e3], _, [x0, x1, x2, x3], _ =>
    have h0 := hi' 0 _ rfl
    have h1 := hi' 1 _ rfl
    have h2 := hi' 2 _ rfl
    have h3 := hi' 3 _ rfl
    simp [hc1, hc2, hc3] at h0 h1 h2 h3
    obtain ⟨a, ha, wa⟩ := trod_str Tryd.underlying9 h0
    obtain ⟨b, hb, _, wb⟩ := DataW.trod_int Tryd.underlying23 h1
    obtain ⟨c, hc', _, wc⟩ := DataW.trod_int Tryd.underlying24 h2
    obtain ⟨d, hd', _, wd⟩ := DataW.trod_int Tryd.underlying24 h3
    simp at ha hb hc' hd'
    subst ha hb hc' hd'
    simp [Lit.wf, IntKind.min, IntKind.max, IntKind.signed, IntKind.bits] at wb wc wd
    exact ⟨a, b, c, d, rfl, ⟨⟨by dsimp only; omega, by dsimp only; omega⟩, ⟨by dsimp only; omega, by dsimp only; omega⟩, ⟨by dsimp only; omega, by dsimp only; omega⟩⟩, wa⟩
theorem open_Field {H : Type} {enc : TypeId × Value → H} {w : World} {base : Nat} {spare : Nat → Bool} {held : Bool} {r : Reach} {b0 : Nat} {v : Value} {d : DataW H} {p : List MemPlace}
    (hv : Value.okWide Tryd.prog w r b0 26 v) (h : DataW.Trod enc Tryd.prog w base spare held 26 v d p) : ∃ (nm : ByteArray) (kd st sz : Int), v = .agg #[.string nm, .int .i8 kd, .int .i16 st, .int .i16 sz] ∧ Fld.ok ⟨nm, kd, st, sz⟩ ∧ nm.size ≤ 9223372036854775807 := by
  obtain ⟨cs, rfl, hsz⟩ := okWide_struct Tryd.underlying26 hv
  obtain ⟨fuel, hf⟩ := h
  obtain ⟨nm, kd, st, sz, hy, hk, hn⟩ := cells_Field (cs := cs.toList) (by simpa [Value.cells] using hf)
  exact ⟨nm, kd, st, sz, by obtain ⟨l⟩ := cs; simp at hy; rw [hy], hk, hn⟩
end Go.Proofs.YtdlpifgkponnmaaDoor
set_option linter.unusedVariables false
set_option maxRecDepth 100000
namespace Go.Proofs.YtdlpifgkponnmaaDoor
open Go.ChangeShapes Go.WideShapes Go.ChangeAt Go.RowKit
theorem open_int64S {H : Type} {enc : TypeId × Value → H} {w : World} {base : Nat} {spare : Nat → Bool} {held : Bool} {r : Reach} {b0 : Nat} {v : Value} {d : DataW H} {p : List MemPlace}
    (hv : Value.okWide Tryd.prog w r b0 49 v) (h : DataW.Trod enc Tryd.prog w base spare held 49 v d p) : ∃ (A : Option Addr) (xs : List Int) (cap : Nat), v = .slice A xs.length cap ∧ xs.length ≤ cap ∧ xs.length ≤ 9223372036854775807 ∧ Rd encI64 w A xs :=
  open_sliceE encI64 Tryd.underlying49 (by kernel_rfl) (fun n cs x hx => by obtain ⟨m, hm, _⟩ := trod_i64 Tryd.underlying2 hx; exact ⟨m, hm⟩) hv h
end Go.Proofs.YtdlpifgkponnmaaDoor
set_option linter.unusedVariables false
set_option maxRecDepth 100000
namespace Go.Proofs.YtdlpifgkponnmaaDoor
open Go.ChangeShapes Go.WideShapes Go.ChangeAt Go.RowKit
theorem open_CardS {H : Type} {enc : TypeId × Value → H} {w : World} {base : Nat} {spare : Nat → Bool} {held : Bool} {r : Reach} {b0 : Nat} {v : Value} {d : DataW H} {p : List MemPlace}
    (hv : Value.okWide Tryd.prog w r b0 22 v) (h : DataW.Trod enc Tryd.prog w base spare held 22 v d p) : ∃ (A : Option Addr) (xs : List Crd) (cap : Nat), v = .slice A xs.length cap ∧ xs.length ≤ cap ∧ xs.length ≤ 9223372036854775807 ∧ Rd encCrd w A xs ∧ ∀ x ∈ xs, CrdIn x :=
  open_sliceOk encCrd CrdIn Tryd.underlying22 (by kernel_rfl) (fun n cs x hx => by obtain ⟨y, hy, h2⟩ := cells_Card hx; exact ⟨y, hy, h2⟩) hv h
end Go.Proofs.YtdlpifgkponnmaaDoor
