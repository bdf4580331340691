/-
  M35: the texts O3 O4 O6 O7 O8 L6 F33 F34 in one (written by merge.py).
-/
import Derived.Test.YtknbebglabpegaaDoorO2
import Derived.Test.YtknbebglabpegaaDoorK0
import Derived.Handed
import Derived.Test.YtknbebglabpegaaDoorF0
import Derived.Test.YtknbebglabpegaaDoorF18
import Derived.Test.YtknbebglabpegaaDoorF26
import Derived.Test.YtknbebglabpegaaDoorL0
import Derived.Test.YtknbebglabpegaaDoorF30
set_option linter.unusedVariables false
set_option maxRecDepth 100000
namespace Go.Proofs.YtknbebglabpegaaDoor
open Go.ChangeShapes Go.WideShapes Go.ChangeAt Go.RowKit
theorem cells_Card {H : Type} {enc : TypeId × Value → H} {w : World} {base : Nat} {spare : Nat → Bool} {held : Bool} {fuel : Nat} {cs : List Value} {x : DataW H × List MemPlace}
    (h : DataW.trod enc Tryd.prog w base spare held fuel 61 cs = some x) : ∃ y : Crd, cs = encCrd.enc y ∧ y.nm.size ≤ 9223372036854775807 := by
  obtain ⟨xs, m, rfl, rfl, hl, hx, hi'⟩ := DataW.trod_struct Tryd.underlying61 h
  have hc : Tryd.prog.cellsOf 61 = 3 := by kernel_rfl
  have hc1 : Tryd.prog.cellsOf 9 = 1 := by kernel_rfl
  have hc2 : Tryd.prog.cellsOf 27 = 2 := by kernel_rfl
  rw [hc] at hl
  match cs, hl, xs, hx with
  | [c0, c1, c2], _, [x0, x1], _ =>
    have h0 := hi' 0 _ rfl
    have h1 := hi' 1 _ rfl
    simp [hc1, hc2] at h0 h1
    obtain ⟨a, ha, wa⟩ := trod_str Tryd.underlying9 h0
    obtain ⟨b, hb⟩ := cells_arr2 h1
    simp at ha hb
    obtain ⟨rfl, rfl⟩ := hb
    subst ha
    exact ⟨⟨a, b⟩, rfl, wa⟩
theorem open_Card {H : Type} {enc : TypeId × Value → H} {w : World} {base : Nat} {spare : Nat → Bool} {held : Bool} {r : Reach} {b0 : Nat} {v : Value} {d : DataW H} {p : List MemPlace}
    (hv : Value.okWide Tryd.prog w r b0 61 v) (h : DataW.Trod enc Tryd.prog w base spare held 61 v d p) : ∃ y : Crd, v = .agg #[.string y.nm, .int .u64 (lo y.m), .int .u64 (hi y.m)] ∧ y.nm.size ≤ 9223372036854775807 := by
  obtain ⟨cs, rfl, hsz⟩ := okWide_struct Tryd.underlying61 hv
  obtain ⟨fuel, hf⟩ := h
  obtain ⟨y, hy, hk⟩ := cells_Card (cs := cs.toList) (by simpa [Value.cells] using hf)
  exact ⟨y, by obtain ⟨l⟩ := cs; simp at hy; rw [hy]; rfl, hk⟩
theorem open_u32 {w : World} {r : Reach} {b0 : Nat} {v : Value} {H : Type} {enc : TypeId × Value → H} {base : Nat} {spare : Nat → Bool} {held : Bool} {d : DataW H} {p : List MemPlace}
    (hv : Value.okWide Tryd.prog w r b0 182 v) (h : DataW.Trod enc Tryd.prog w base spare held 182 v d p) : ∃ n : Int, v = .int .u32 n ∧ 0 ≤ n ∧ n < 4294967296 := by
  obtain ⟨n, rfl⟩ := okWide_int Tryd.underlying182 hv
  obtain ⟨fuel, hf⟩ := h
  obtain ⟨a, ha, _, wa⟩ := DataW.trod_int Tryd.underlying182 hf
  simp [Value.cells] at ha
  subst ha
  simp [Lit.wf, IntKind.min, IntKind.max, IntKind.signed, IntKind.bits] at wa
  exact ⟨n, rfl, by omega, by omega⟩
end Go.Proofs.YtknbebglabpegaaDoor
set_option linter.unusedVariables false
set_option maxRecDepth 100000
namespace Go.Proofs.YtknbebglabpegaaDoor
open Go.ChangeShapes Go.WideShapes Go.ChangeAt Go.RowKit
theorem change_and_shaped {H : Type} {enc : TypeId × Value → H} {a : Assume} {C : Checked} {os : Os} {f : FuncId} {fn : Func} {s : ChangeSpec} {conds : List PathCond} {apart fresh handsOn again : Bool} {X : World → Array Value → Prop}
    (hX : ∀ (w w' : World) (args : Array Value), w.heap = w'.heap → X w args → X w' args)
    (own : ownKnob C.prog.godebug = none) (started : os.Started) (noInit : C.prog.inits.idxOf? f = none) (hfn : C.prog.funcs[f]? = some fn)
    (witness : ∃ (w : World) (tape : Tape) (i : Input), w.os = os ∧ (w.forCall tape i).Shaped C.prog ∧ i.vars = [] ∧ Input.okWide C.prog (w.forCall tape i) .any w.heap.size f i ∧
      ((s.pre enc C.prog fn conds apart (w.forCall tape i).memory i.args ∧ X (w.forCall tape i).memory i.args) ∧ sizedMet enc C.prog fn (OpenSpec.ofChange s) apart (w.forCall tape i).memory i.args) ∧ a.holds C.prog (lone (Frame.enter C.prog f i.args .normal) [] (w.forCall tape i)))
    (contract : ∀ (W : World) (base : Nat) (args : Array Value) (ds gs : List (DataW H)) (before : List MemPlace),
      (∀ (j : Nat) t v, fn.params[j]? = some t → args[j]? = some v → Value.okWide C.prog W .any base t v) →
      DataW.Whole enc C.prog fn.params.toList s.vars apart W args.toList ds gs before →
      conds.all (PathCond.test C.prog ⟨fn.params.toList, ds, s.plain.varTypes C.prog, gs⟩) = true →
      (DataW.weightsEach C.prog (fn.params.toList ++ s.plain.varTypes C.prog) (ds ++ gs)).all (· ≤ reachBytes) = true → X W args →
      W.ShapedOpen C.prog →
      Calls C.prog f args W fun e W' => ∃ v, e = .returned v ∧ s.post enc C.prog fn apart fresh handsOn again W args v W') :
    ReturnsInHanded a C os f .any (fun w args => (s.pre enc C.prog fn conds apart w args ∧ X w args) ∧ sizedMet enc C.prog fn (OpenSpec.ofChange s) apart w args) (s.post enc C.prog fn apart fresh handsOn again) := by
  refine returnsInHanded_of_calls own started noInit witness ?_
  intro w tape i _ hsh _ hok hpre hholds
  obtain ⟨_, _, _, fn', hfn', _, _, _, _, hval⟩ := hok
  have e : fn' = fn := Option.some.inj (hfn'.symm.trans hfn)
  subst e
  obtain ⟨⟨⟨ds, gs, before, hw, hc⟩, hx⟩, hz⟩ := hpre
  have hw' := DataW.Whole.of_heap (w' := w.forCall tape i) (by rfl) hw
  refine (contract (w.forCall tape i) w.heap.size i.args ds gs before hval hw' hc (hz.weights hw) (hX _ _ _ (by rfl) hx) hsh).mono fun e W' ⟨v, he, hp⟩ => ?_
  subst he
  exact ChangeSpec.post_blind hp
theorem open_text {w : World} {r : Reach} {b0 : Nat} {v : Value} {H : Type} {enc : TypeId × Value → H} {base : Nat} {spare : Nat → Bool} {held : Bool} {d : DataW H} {p : List MemPlace}
    (hv : Value.okWide Tryd.prog w r b0 9 v) (h : DataW.Trod enc Tryd.prog w base spare held 9 v d p) : ∃ s : ByteArray, v = .string s ∧ s.size ≤ 9223372036854775807 := by
  obtain ⟨s, h1, _, _, hm⟩ := Go.ChangeMaps.open_string Tryd.underlying9 hv h
  exact ⟨s, h1, by unfold maxLen at hm; omega⟩
end Go.Proofs.YtknbebglabpegaaDoor
set_option linter.unusedVariables false
set_option maxRecDepth 100000
namespace Go.Proofs.YtknbebglabpegaaDoor
open Go.ChangeShapes Go.WideShapes Go.ChangeAt Go.RowKit
theorem cells_Field {H : Type} {enc : TypeId × Value → H} {w : World} {base : Nat} {spare : Nat → Bool} {held : Bool} {fuel : Nat} {cs : List Value} {x : DataW H × List MemPlace}
    (h : DataW.trod enc Tryd.prog w base spare held fuel 25 cs = some x) : ∃ (nm : ByteArray) (kd st sz : Int), cs = [.string nm, .int .i8 kd, .int .i16 st, .int .i16 sz] ∧ Fld.ok ⟨nm, kd, st, sz⟩ ∧ nm.size ≤ 9223372036854775807 := by
  obtain ⟨xs, m, rfl, rfl, hl, hx, hi'⟩ := DataW.trod_struct Tryd.underlying25 h
  have hc : Tryd.prog.cellsOf 25 = 4 := by kernel_rfl
  have hc1 : Tryd.prog.cellsOf 9 = 1 := by kernel_rfl
  have hc2 : Tryd.prog.cellsOf 22 = 1 := by kernel_rfl
  have hc3 : Tryd.prog.cellsOf 23 = 1 := by kernel_rfl
  rw [hc] at hl
  match cs, hl, xs, hx with
  | [e0, e1, e2, e3], _, [x0, x1, x2, x3], _ =>
    have h0 := hi' 0 _ rfl
    have h1 := hi' 1 _ rfl
    have h2 := hi' 2 _ rfl
    have h3 := hi' 3 _ rfl
    simp [hc1, hc2, hc3] at h0 h1 h2 h3
    obtain ⟨a, ha, wa⟩ := trod_str Tryd.underlying9 h0
    obtain ⟨b, hb, _, wb⟩ := DataW.trod_int Tryd.underlying22 h1
    obtain ⟨c, hc', _, wc⟩ := DataW.trod_int Tryd.underlying23 h2
    obtain ⟨d, hd', _, wd⟩ := DataW.trod_int Tryd.underlying23 h3
    simp at ha hb hc' hd'
    subst ha hb hc' hd'
    simp [Lit.wf, IntKind.min, IntKind.max, IntKind.signed, IntKind.bits] at wb wc wd
    exact ⟨a, b, c, d, rfl, ⟨⟨by dsimp only; omega, by dsimp only; omega⟩, ⟨by dsimp only; omega, by dsimp only; omega⟩, ⟨by dsimp only; omega, by dsimp only; omega⟩⟩, wa⟩
theorem open_Field {H : Type} {enc : TypeId × Value → H} {w : World} {base : Nat} {spare : Nat → Bool} {held : Bool} {r : Reach} {b0 : Nat} {v : Value} {d : DataW H} {p : List MemPlace}
    (hv : Value.okWide Tryd.prog w r b0 25 v) (h : DataW.Trod enc Tryd.prog w base spare held 25 v d p) : ∃ (nm : ByteArray) (kd st sz : Int), v = .agg #[.string nm, .int .i8 kd, .int .i16 st, .int .i16 sz] ∧ Fld.ok ⟨nm, kd, st, sz⟩ ∧ nm.size ≤ 9223372036854775807 := by
  obtain ⟨cs, rfl, hsz⟩ := okWide_struct Tryd.underlying25 hv
  obtain ⟨fuel, hf⟩ := h
  obtain ⟨nm, kd, st, sz, hy, hk, hn⟩ := cells_Field (cs := cs.toList) (by simpa [Value.cells] using hf)
  exact ⟨nm, kd, st, sz, by obtain ⟨l⟩ := cs; simp at hy; rw [hy], hk, hn⟩
end Go.Proofs.YtknbebglabpegaaDoor
set_option linter.unusedVariables false
set_option maxRecDepth 100000
namespace Go.Proofs.YtknbebglabpegaaDoor
open Go.ChangeShapes Go.WideShapes Go.ChangeAt Go.RowKit
theorem open_FieldS {H : Type} {enc : TypeId × Value → H} {w : World} {base : Nat} {spare : Nat → Bool} {held : Bool} {r : Reach} {b0 : Nat} {v : Value} {d : DataW H} {p : List MemPlace}
    (hv : Value.okWide Tryd.prog w r b0 59 v) (h : DataW.Trod enc Tryd.prog w base spare held 59 v d p) : ∃ (A : Option Addr) (xs : List Fld) (cap : Nat), v = .slice A xs.length cap ∧ xs.length ≤ cap ∧ xs.length ≤ 9223372036854775807 ∧ Rd encFld w A xs ∧ ∀ x ∈ xs, FldIn x :=
  open_sliceOk encFld FldIn Tryd.underlying59 (by kernel_rfl) (fun n cs x hx => by obtain ⟨nm, kd, st, sz, h1, h2, h3⟩ := cells_Field hx; exact ⟨⟨nm, kd, st, sz⟩, h1, h2, h3⟩) hv h
theorem open_int64S {H : Type} {enc : TypeId × Value → H} {w : World} {base : Nat} {spare : Nat → Bool} {held : Bool} {r : Reach} {b0 : Nat} {v : Value} {d : DataW H} {p : List MemPlace}
    (hv : Value.okWide Tryd.prog w r b0 44 v) (h : DataW.Trod enc Tryd.prog w base spare held 44 v d p) : ∃ (A : Option Addr) (xs : List Int) (cap : Nat), v = .slice A xs.length cap ∧ xs.length ≤ cap ∧ xs.length ≤ 9223372036854775807 ∧ Rd encI64 w A xs :=
  open_sliceE encI64 Tryd.underlying44 (by kernel_rfl) (fun n cs x hx => by obtain ⟨m, hm, _⟩ := trod_i64 Tryd.underlying2 hx; exact ⟨m, hm⟩) hv h
end Go.Proofs.YtknbebglabpegaaDoor
set_option linter.unusedVariables false
set_option maxRecDepth 100000
namespace Go.Proofs.YtknbebglabpegaaDoor
open Go.ChangeShapes Go.WideShapes Go.ChangeAt Go.RowKit
theorem open_CardS {H : Type} {enc : TypeId × Value → H} {w : World} {base : Nat} {spare : Nat → Bool} {held : Bool} {r : Reach} {b0 : Nat} {v : Value} {d : DataW H} {p : List MemPlace}
    (hv : Value.okWide Tryd.prog w r b0 78 v) (h : DataW.Trod enc Tryd.prog w base spare held 78 v d p) : ∃ (A : Option Addr) (xs : List Crd) (cap : Nat), v = .slice A xs.length cap ∧ xs.length ≤ cap ∧ xs.length ≤ 9223372036854775807 ∧ Rd encCrd w A xs ∧ ∀ x ∈ xs, CrdIn x :=
  open_sliceOk encCrd CrdIn Tryd.underlying78 (by kernel_rfl) (fun n cs x hx => by obtain ⟨y, hy, h2⟩ := cells_Card hx; exact ⟨y, hy, h2⟩) hv h
end Go.Proofs.YtknbebglabpegaaDoor
set_option linter.unusedVariables false
namespace Go.Proofs.YtknbebglabpegaaDoor
open Go.RowKit
theorem intro_world {R : World → Prop} {W : World} (h : ∀ W', W' = W → R W') : R W := h W rfl
theorem Conv.convG {G C : Nat → Option Addr → Nat → Option Addr → Nat → Option Addr → Nat → World → Prop} {T : Prop} (ht : ∀ b a n a' n' a'' n'' W, C b a n a' n' a'' n'' W → G b a n a' n' a'' n'' W) (h : (∀ b a n a' n' a'' n'' W, C b a n a' n' a'' n'' W → G b a n a' n' a'' n'' W) → T) : T := h ht
theorem Conv.convF {G C : Nat → Option Addr → Nat → World → Prop} {T : Prop} (ht : ∀ b a n W, C b a n W → G b a n W) (h : (∀ b a n W, C b a n W → G b a n W) → T) : T := h ht
theorem Conv.conv1 {G C : Nat → World → Prop} {T : Prop} (ht : ∀ b W, C b W → G b W) (h : (∀ b W, C b W → G b W) → T) : T := h ht
theorem Conv.conv3 {G C : Option Addr → Nat → World → Prop} {T : Prop} (ht : ∀ a n W, C a n W → G a n W) (h : (∀ a n W, C a n W → G a n W) → T) : T := h ht
theorem Conv.conv {G C : World → Prop} {T : Prop} (ht : ∀ W, C W → G W) (h : (∀ W, C W → G W) → T) : T := h ht
end Go.Proofs.YtknbebglabpegaaDoor
set_option linter.unusedVariables false
set_option linter.unusedSimpArgs false
set_option maxRecDepth 100000
namespace Go.Proofs.YtknbebglabpegaaDoor
open Go.RowKit
/-- The mask behind the first fields, and the ways. -/
def cmTo (xs : List Fld) (ms : List Mask) (m : Mask) : Nat → Mask × List Int
  | 0 => (m, [])
  | k + 1 => ((repF xs[k]! (cmTo xs ms m k).1 ms).1, (cmTo xs ms m k).2 ++ [(repF xs[k]! (cmTo xs ms m k).1 ms).2])
theorem cmTo_zero (xs : List Fld) (ms : List Mask) (m : Mask) : cmTo xs ms m 0 = (m, []) := rfl
theorem cmTo_succ (xs : List Fld) (ms : List Mask) (m : Mask) (k : Nat) (hk : k < xs.length) : cmTo xs ms m (k + 1) = ((repF xs[k] (cmTo xs ms m k).1 ms).1, (cmTo xs ms m k).2 ++ [(repF xs[k] (cmTo xs ms m k).1 ms).2]) := by rw [cmTo, getF xs k hk]
theorem cmTo_len (xs : List Fld) (ms : List Mask) (m : Mask) : ∀ k, (cmTo xs ms m k).2.length = k
  | 0 => rfl
  | k + 1 => by rw [cmTo, List.length_append, cmTo_len xs ms m k]; rfl
/-- What RepairCard returns. -/
def repairCF (xs : List Fld) (c : Crd) (cs : List Crd) : Crd × List Int × Int :=
  if (schB xs && (isCardB c && cs.all isCardB)) = true then (if 15 < cs.length then (Crd.z, [], 2) else (⟨c.nm, (cmTo xs (cs.map (·.m)) c.m xs.length).1⟩, (cmTo xs (cs.map (·.m)) c.m xs.length).2, 0)) else (Crd.z, [], 1)
theorem repairC_bad {xs : List Fld} {c : Crd} {cs : List Crd} (h : (schB xs && (isCardB c && cs.all isCardB)) = false) : repairCF xs c cs = (Crd.z, [], 1) := by unfold repairCF; rw [h]; rfl
theorem repairC_long {xs : List Fld} {c : Crd} {cs : List Crd} (h : (schB xs && (isCardB c && cs.all isCardB)) = true) (h2 : 15 < cs.length) : repairCF xs c cs = (Crd.z, [], 2) := by unfold repairCF; rw [if_pos h, if_pos h2]
theorem repairC_good {xs : List Fld} {c : Crd} {cs : List Crd} (h : (schB xs && (isCardB c && cs.all isCardB)) = true) (h2 : ¬ 15 < cs.length) : repairCF xs c cs = (⟨c.nm, (cmTo xs (cs.map (·.m)) c.m xs.length).1⟩, (cmTo xs (cs.map (·.m)) c.m xs.length).2, 0) := by unfold repairCF; rw [if_pos h, if_neg h2]
theorem repairC_len (xs : List Fld) (c : Crd) (cs : List Crd) (h : xs.length ≤ 1048576) : (repairCF xs c cs).2.1.length ≤ 1048576 := by
  unfold repairCF
  split
  · split
    · simp
    · show (cmTo xs (cs.map (·.m)) c.m xs.length).2.length ≤ 1048576
      rw [cmTo_len]; exact h
  · simp
attribute [irreducible] cmTo repairCF
set_option maxHeartbeats 4000000 in
theorem impl_RepairCard (xs : List Fld) (A : Option Addr) (cap : Nat) (c : Crd) (cs : List Crd) (B : Option Addr) (cap' : Nat) (w : World) (hR : Rd encFld w A xs) (hcap : xs.length ≤ cap) (hn : xs.length ≤ 1048576) (hok : ∀ x ∈ xs, FldIn x) (hnm : c.nm.size ≤ 9223372036854775807)
    (hS : Rd encCrd w B cs) (hm : cs.length ≤ 1048576) (hok' : ∀ x ∈ cs, CrdIn x) :
    Calls Tryd.prog 52 #[.slice A xs.length cap, .agg #[.string c.nm, .int .u64 (lo c.m), .int .u64 (hi c.m)], .slice B cs.length cap'] w fun e w' => ∃ v, e = .returned (.tuple #[.agg #[.string (repairCF xs c cs).1.nm, .int .u64 (lo (repairCF xs c cs).1.m), .int .u64 (hi (repairCF xs c cs).1.m)], v, .int .i64 (repairCF xs c cs).2.2]) ∧ Ow encI64 2 w' w.heap.size v (repairCF xs c cs).2.1 ∧ Ext w w' := by
  have hx := @ExtOf.cell
  have his := fun (W : World) (h : Ext w W) => impl_isScheme xs A cap W (hR.ext h) hcap hn hok
  have hic := fun (W : World) => impl_isCard c hnm W
  have hia := fun (W : World) (h : Ext w W) => impl_areCards cs B cap' W (hS.ext h) hm hok'
  by_cases hall : (schB xs && (isCardB c && cs.all isCardB)) = true
  · have hparts := hall
    rw [Bool.and_eq_true, Bool.and_eq_true] at hparts
    obtain ⟨hs, hc, ha⟩ := hparts
    rw [hs] at his
    rw [hc] at hic
    rw [ha] at hia
    by_cases h15 : 15 < cs.length
    · have hv := hd (repairC_long hall h15)
      go_enter Tryd.func52, Tryd.ntmps52
      go_wp2_with fail
      refine Calls.mono (his _ (by ((repeat (first | with_reducible exact Ext.refl _ | with_reducible exact hw | with_reducible exact hb9 | with_reducible exact hb8 | with_reducible exact hb7 | with_reducible exact hb6 | with_reducible exact hb5 | with_reducible exact hb4 | with_reducible exact hb3 | with_reducible exact hb2 | with_reducible exact hb1 | with_reducible refine Ext.alloc ?_ _ | with_reducible refine Ext.drew ?_ | ((with_reducible refine Ext.set ?_ ?_ _); focus (dsimp only; omega)) | with_reducible refine Ext.trans ?_ hb9 | with_reducible refine Ext.trans ?_ hb8 | with_reducible refine Ext.trans ?_ hb7 | with_reducible refine Ext.trans ?_ hb6 | with_reducible refine Ext.trans ?_ hb5 | with_reducible refine Ext.trans ?_ hb4 | with_reducible refine Ext.trans ?_ hb3 | with_reducible refine Ext.trans ?_ hb2 | with_reducible refine Ext.trans ?_ hb1 | with_reducible refine Ext.trans ?_ hw))))) ?_
      rintro e w1 ⟨rfl, hb1⟩
      obtain ⟨hc1, hf1, hz1⟩ := bcell3 hb1
      try simp at hz1
      have hz1_0 : w.heap.size < w1.heap.size := by omega
      have hz1_1 : w.heap.size + 1 < w1.heap.size := by omega
      go_wp2_with fail
      refine Calls.mono (hic _) ?_
      rintro e w2 ⟨rfl, hb2⟩
      obtain ⟨hc2, hf2, hz2⟩ := bcell3 hb2
      try simp at hz2
      have hz2_0 : w.heap.size < w2.heap.size := by omega
      have hz2_1 : w.heap.size + 1 < w2.heap.size := by omega
      go_wp2_with fail
      refine Calls.mono (hia _ (by ((repeat (first | with_reducible exact Ext.refl _ | with_reducible exact hw | with_reducible exact hb9 | with_reducible exact hb8 | with_reducible exact hb7 | with_reducible exact hb6 | with_reducible exact hb5 | with_reducible exact hb4 | with_reducible exact hb3 | with_reducible exact hb2 | with_reducible exact hb1 | with_reducible refine Ext.alloc ?_ _ | with_reducible refine Ext.drew ?_ | ((with_reducible refine Ext.set ?_ ?_ _); focus (dsimp only; omega)) | with_reducible refine Ext.trans ?_ hb9 | with_reducible refine Ext.trans ?_ hb8 | with_reducible refine Ext.trans ?_ hb7 | with_reducible refine Ext.trans ?_ hb6 | with_reducible refine Ext.trans ?_ hb5 | with_reducible refine Ext.trans ?_ hb4 | with_reducible refine Ext.trans ?_ hb3 | with_reducible refine Ext.trans ?_ hb2 | with_reducible refine Ext.trans ?_ hb1 | with_reducible refine Ext.trans ?_ hw))))) ?_
      rintro e w3 ⟨rfl, hb3⟩
      obtain ⟨hc3, hf3, hz3⟩ := bcell3 hb3
      try simp at hz3
      have hz3_0 : w.heap.size < w3.heap.size := by omega
      have hz3_1 : w.heap.size + 1 < w3.heap.size := by omega
      have hw3 : Ext w w3 := by ((repeat (first | with_reducible exact Ext.refl _ | with_reducible exact hw | with_reducible exact hb9 | with_reducible exact hb8 | with_reducible exact hb7 | with_reducible exact hb6 | with_reducible exact hb5 | with_reducible exact hb4 | with_reducible exact hb3 | with_reducible exact hb2 | with_reducible exact hb1 | with_reducible refine Ext.alloc ?_ _ | with_reducible refine Ext.drew ?_ | ((with_reducible refine Ext.set ?_ ?_ _); focus (dsimp only; omega)) | with_reducible refine Ext.trans ?_ hb9 | with_reducible refine Ext.trans ?_ hb8 | with_reducible refine Ext.trans ?_ hb7 | with_reducible refine Ext.trans ?_ hb6 | with_reducible refine Ext.trans ?_ hb5 | with_reducible refine Ext.trans ?_ hb4 | with_reducible refine Ext.trans ?_ hb3 | with_reducible refine Ext.trans ?_ hb2 | with_reducible refine Ext.trans ?_ hb1 | with_reducible refine Ext.trans ?_ hw)))
      have bR : BoxAt w3 (w.heap.size + 1) #[.string ⟨#[]⟩, .int .u64 0, .int .u64 0] 68 := (((BoxAt.new' (by simp)).ext hb1).ext hb2).ext hb3
      have g0 := bR.frozen 0
      have g1 := bR.frozen 1
      have g2 := bR.frozen 2
      have x0 : w3.cell? ⟨w.heap.size + 1, 0, none⟩ = some (.string ⟨#[]⟩) := bR.cell 0
      have x1 : w3.cell? ⟨w.heap.size + 1, 1, none⟩ = some (.int .u64 0) := bR.cell 1
      have x2 : w3.cell? ⟨w.heap.size + 1, 2, none⟩ = some (.int .u64 0) := bR.cell 2
      have lR := bR.lt
      clear hc1 hf1 hb1 hz1 hz1_0 hz1_1 hc2 hf2 hb2 hz2 hz2_0 hz2_1 hc3 hf3 hb3 hz3 hz3_0 hz3_1
      go_wp2
      refine bodyPost_ret (v := .tuple #[.agg #[.string ⟨#[]⟩, .int .u64 0, .int .u64 0], .slice none 0 0, .int .i64 2]) (by simp [results, Tryd.results52, go_sem, x0, x1, x2]) rfl ⟨_, by rw [hv.out]; rfl, by rw [hv.out]; exact Ow.nil _ _ _ _, ?_⟩
      have hw := hw3
      (repeat (first | with_reducible exact Ext.refl _ | with_reducible exact hw | with_reducible exact hb9 | with_reducible exact hb8 | with_reducible exact hb7 | with_reducible exact hb6 | with_reducible exact hb5 | with_reducible exact hb4 | with_reducible exact hb3 | with_reducible exact hb2 | with_reducible exact hb1 | with_reducible refine Ext.alloc ?_ _ | with_reducible refine Ext.drew ?_ | ((with_reducible refine Ext.set ?_ ?_ _); focus (dsimp only; omega)) | with_reducible refine Ext.trans ?_ hb9 | with_reducible refine Ext.trans ?_ hb8 | with_reducible refine Ext.trans ?_ hb7 | with_reducible refine Ext.trans ?_ hb6 | with_reducible refine Ext.trans ?_ hb5 | with_reducible refine Ext.trans ?_ hb4 | with_reducible refine Ext.trans ?_ hb3 | with_reducible refine Ext.trans ?_ hb2 | with_reducible refine Ext.trans ?_ hb1 | with_reducible refine Ext.trans ?_ hw))
    · have hv := hd (repairC_good hall h15)
      have hsl := (sch_all hs).1
      go_enter Tryd.func52, Tryd.ntmps52
      go_wp2_with fail
      refine Calls.mono (his _ (by ((repeat (first | with_reducible exact Ext.refl _ | with_reducible exact hw | with_reducible exact hb9 | with_reducible exact hb8 | with_reducible exact hb7 | with_reducible exact hb6 | with_reducible exact hb5 | with_reducible exact hb4 | with_reducible exact hb3 | with_reducible exact hb2 | with_reducible exact hb1 | with_reducible refine Ext.alloc ?_ _ | with_reducible refine Ext.drew ?_ | ((with_reducible refine Ext.set ?_ ?_ _); focus (dsimp only; omega)) | with_reducible refine Ext.trans ?_ hb9 | with_reducible refine Ext.trans ?_ hb8 | with_reducible refine Ext.trans ?_ hb7 | with_reducible refine Ext.trans ?_ hb6 | with_reducible refine Ext.trans ?_ hb5 | with_reducible refine Ext.trans ?_ hb4 | with_reducible refine Ext.trans ?_ hb3 | with_reducible refine Ext.trans ?_ hb2 | with_reducible refine Ext.trans ?_ hb1 | with_reducible refine Ext.trans ?_ hw))))) ?_
      rintro e w1 ⟨rfl, hb1⟩
      obtain ⟨hc1, hf1, hz1⟩ := bcell3 hb1
      try simp at hz1
      have hz1_0 : w.heap.size < w1.heap.size := by omega
      have hz1_1 : w.heap.size + 1 < w1.heap.size := by omega
      go_wp2_with fail
      refine Calls.mono (hic _) ?_
      rintro e w2 ⟨rfl, hb2⟩
      obtain ⟨hc2, hf2, hz2⟩ := bcell3 hb2
      try simp at hz2
      have hz2_0 : w.heap.size < w2.heap.size := by omega
      have hz2_1 : w.heap.size + 1 < w2.heap.size := by omega
      go_wp2_with fail
      refine Calls.mono (hia _ (by ((repeat (first | with_reducible exact Ext.refl _ | with_reducible exact hw | with_reducible exact hb9 | with_reducible exact hb8 | with_reducible exact hb7 | with_reducible exact hb6 | with_reducible exact hb5 | with_reducible exact hb4 | with_reducible exact hb3 | with_reducible exact hb2 | with_reducible exact hb1 | with_reducible refine Ext.alloc ?_ _ | with_reducible refine Ext.drew ?_ | ((with_reducible refine Ext.set ?_ ?_ _); focus (dsimp only; omega)) | with_reducible refine Ext.trans ?_ hb9 | with_reducible refine Ext.trans ?_ hb8 | with_reducible refine Ext.trans ?_ hb7 | with_reducible refine Ext.trans ?_ hb6 | with_reducible refine Ext.trans ?_ hb5 | with_reducible refine Ext.trans ?_ hb4 | with_reducible refine Ext.trans ?_ hb3 | with_reducible refine Ext.trans ?_ hb2 | with_reducible refine Ext.trans ?_ hb1 | with_reducible refine Ext.trans ?_ hw))))) ?_
      rintro e w3 ⟨rfl, hb3⟩
      obtain ⟨hc3, hf3, hz3⟩ := bcell3 hb3
      try simp at hz3
      have hz3_0 : w.heap.size < w3.heap.size := by omega
      have hz3_1 : w.heap.size + 1 < w3.heap.size := by omega
      have hw3 : Ext w w3 := by ((repeat (first | with_reducible exact Ext.refl _ | with_reducible exact hw | with_reducible exact hb9 | with_reducible exact hb8 | with_reducible exact hb7 | with_reducible exact hb6 | with_reducible exact hb5 | with_reducible exact hb4 | with_reducible exact hb3 | with_reducible exact hb2 | with_reducible exact hb1 | with_reducible refine Ext.alloc ?_ _ | with_reducible refine Ext.drew ?_ | ((with_reducible refine Ext.set ?_ ?_ _); focus (dsimp only; omega)) | with_reducible refine Ext.trans ?_ hb9 | with_reducible refine Ext.trans ?_ hb8 | with_reducible refine Ext.trans ?_ hb7 | with_reducible refine Ext.trans ?_ hb6 | with_reducible refine Ext.trans ?_ hb5 | with_reducible refine Ext.trans ?_ hb4 | with_reducible refine Ext.trans ?_ hb3 | with_reducible refine Ext.trans ?_ hb2 | with_reducible refine Ext.trans ?_ hb1 | with_reducible refine Ext.trans ?_ hw)))
      have bC : BoxAt w3 w.heap.size #[.string c.nm, .int .u64 (lo c.m), .int .u64 (hi c.m)] 68 := ((((BoxAt.new' rfl).alloc _).ext hb1).ext hb2).ext hb3
      have bR : BoxAt w3 (w.heap.size + 1) #[.string ⟨#[]⟩, .int .u64 0, .int .u64 0] 68 := (((BoxAt.new' (by simp)).ext hb1).ext hb2).ext hb3
      have lR := bR.lt
      clear hc1 hf1 hb1 hz1 hz1_0 hz1_1 hc2 hf2 hb2 hz2 hz2_0 hz2_1 hc3 hf3 hb3 hz3 hz3_0 hz3_1
      go_wp2
      go_loopg [9, 38] cs.length (fun g v i wr => ∃ k : Nat, g = cs.length - k ∧ k ≤ cs.length ∧ i = .int .i64 k ∧ Ext w3 wr ∧ Ow encMask 33 wr w3.heap.size v ((cs.take k).map (·.m)))
      case atStart => exact ⟨0, by omega, by omega, rfl, (Ext.refl _).alloc _, Ow.made0 rfl (Nat.le_refl _)⟩
      case round =>
        obtain ⟨k, hg, hk, rfl, hw, hO⟩ := hrel
        by_cases hkl : k < cs.length
        · obtain ⟨b, off, hB, hlt, _⟩ := hS k hkl
          subst hB
          obtain ⟨m0, m1, m2, m3⟩ := (hS.ext (hw3.trans hw)).crd k hkl
          have hsu := hd (map_take_succ (fun x : Crd => x.m) cs k hkl)
          have hl : ((cs.take k).map (fun x : Crd => x.m)).length ≤ 1048576 := by rw [List.length_map, List.length_take]; omega
          generalize (cs.take k).map (fun x : Crd => x.m) = ys at hO hsu hl
          generalize cs[k].m = cm at m1 m2 hsu
          have hO5 := hO.ext ((Ext.refl wr).alloc (.cells #[.string cs[k].nm, .int .u64 (lo cm), .int .u64 (hi cm)] 68))
          have hW5 : Ext w3 (wr.alloc (.cells #[.string cs[k].nm, .int .u64 (lo cm), .int .u64 (hi cm)] 68)) := hw.alloc _
          go_wp2_with (at_builtin; refine wpList_push2 (w0 := w3) (base := w3.heap.size) (xs := ys) encMask (by rfl) _ _ 54 (.agg #[.int .u64 0, .int .u64 0]) 16 (by rfl) Tryd.underlying54 info_Mask (by rfl) (cm) (by rfl) (by rfl) (by simp) (hO5) ((hW5 : Ext w3 _).size) (Nat.le_refl _) (hW5) (by omega) (by omega) ?_)
          intro v6 w6 hO6 hb6 hg6 ho6
          go_wp2
          go_roundg (cs.length - (k + 1))
          case rel => exact ⟨k + 1, rfl, hkl, by simp, hb6, by rw [hsu.out]; exact hO6⟩
          case measure => omega
        · obtain rfl : k = cs.length := by omega
          rw [List.take_length] at hO
          have hml : (cs.map (fun x : Crd => x.m)).length ≤ 15 := by rw [List.length_map]; omega
          have hcl := fun k => cmTo_len xs (cs.map (fun x : Crd => x.m)) c.m k
          have hcz := cmTo_zero xs (cs.map (fun x : Crd => x.m)) c.m
          have hcs := fun k hk => cmTo_succ xs (cs.map (fun x : Crd => x.m)) c.m k hk
          generalize cs.map (fun x : Crd => x.m) = ms at hO hv hml hcl hcz hcs
          obtain ⟨Am, cm', hAm, hlem, hRm⟩ := hO.slice
          subst hAm
          have hfar : ∀ k, (Value.slice Am ms.length cm').ownBlock = some k → w3.heap.size ≤ k := fun k h => (hO.lt k h).1
          obtain ⟨wm, hwm⟩ : ∃ x, x = wr := ⟨_, rfl⟩
          subst hwm
          have bC := bC.ext hw
          have bR := bR.ext hw
          have hE0 : Ext w wm := hw3.trans hw
          have hne9 : (Value.slice Am ms.length cm').ownBlock ≠ some w.heap.size := fun h => by have := hfar _ h; omega
          have hOm := hd hO
          clear hRm
          go_wp2
          go_loopg [12, 51] xs.length (fun g v i wr => ∃ k : Nat, g = xs.length - k ∧ k ≤ xs.length ∧ i = .int .i64 k ∧ Ext w wr ∧ Ow encI64 2 wr wm.heap.size v (cmTo xs ms c.m k).2 ∧ Ow encMask 33 wr w3.heap.size (.slice Am ms.length cm') ms ∧ BoxAt wr w.heap.size #[.string c.nm, .int .u64 (lo (cmTo xs ms c.m k).1), .int .u64 (hi (cmTo xs ms c.m k).1)] 68 ∧ BoxAt wr (w.heap.size + 1) #[.string ⟨#[]⟩, .int .u64 0, .int .u64 0] 68 ∧ wm.heap.size ≤ wr.heap.size)
          case atStart => exact ⟨0, by omega, by omega, rfl, hE0.alloc _, by rw [hcz]; exact Ow.made0 rfl (Nat.le_refl _), hO.ext ((Ext.refl _).alloc _), by rw [hcz]; exact bC.alloc _, bR.alloc _, by simp⟩
          case round =>
            obtain ⟨k, hg2, hk2, rfl, hE, hOw, hOm2, hB, hRb, hsz⟩ := hrel
            have d0 := hB.cell 0
            have d1 := hB.cell 1
            have d2 := hB.cell 2
            have lB := hB.lt
            by_cases hkl : k < xs.length
            · obtain ⟨b, off, hA, hlt, _⟩ := hR k hkl
              subst hA
              obtain ⟨m0, m1, m2, m3, m4⟩ := (hR.ext hE).fld k hkl
              have hf := (sch_all hs).2 k hkl
              have hsu := hd (hcs k hkl)
              have hlk := hcl k
              generalize hcq : cmTo xs ms c.m k = q at hOw hB hsu hlk d1 d2
              obtain ⟨mk, ws⟩ := q
              dsimp only at hOw hB hsu hlk d1 d2
              have hre := impl_repaired xs[k].nm xs[k].kd xs[k].st xs[k].sz hf mk ms Am cm' (wr.alloc (.cells #[.string xs[k].nm, .int .i8 xs[k].kd, .int .i16 xs[k].st, .int .i16 xs[k].sz] 31)) (hOm2.rdA.ext ((Ext.refl _).alloc _)) hml
              change Calls _ _ _ _ fun e w' => e = .returned (.tuple #[.agg #[.int .u64 (lo (repF xs[k] mk ms).1), .int .u64 (hi (repF xs[k] mk ms).1)], .int .i64 (repF xs[k] mk ms).2]) ∧ Ext _ w' at hre
              generalize repF xs[k] mk ms = r at hre hsu
              obtain ⟨m', how⟩ := r
              dsimp only at hre hsu
              have hlk2 := hd hlk
              clear hlk
              have hwl : ws.length ≤ 12 := by have := hlk2.out; omega
              go_wp2_with fail
              refine Calls.mono hre ?_
              rintro e w5 ⟨rfl, hb5⟩
              have e5 : Ext wr w5 := ((Ext.refl wr).alloc _).trans hb5
              have hB5 := hB.ext e5
              have hRb5 := hRb.ext e5
              have hE5 : Ext w w5 := hE.trans e5
              have hOw5 := hOw.ext e5
              have hOm5 := hOm2.ext e5
              have f1w := hB5.frozen 1
              have f2w := hB5.frozen 2
              have u1 := hB5.cell 1
              have u2 := hB5.cell 2
              have lw5 := hB5.lt
              have ne5 : ¬ w.heap.size = w5.heap.size := by omega
              have hB6 := ((hB5.set 1 (.int .u64 (lo m'))).set 2 (.int .u64 (hi m'))).alloc (.cells #[.int .u64 (lo m'), .int .u64 (hi m')] 33)
              have hRb6 := ((hRb5.setOther (p := ⟨w.heap.size, 1, none⟩) (by first | omega | (simp; done) | (simp; omega) | (dsimp only; omega)) (.int .u64 (lo m'))).setOther (p := ⟨w.heap.size, 2, none⟩) (by first | omega | (simp; done) | (simp; omega) | (dsimp only; omega)) (.int .u64 (hi m'))).alloc (.cells #[.int .u64 (lo m'), .int .u64 (hi m')] 33)
              have hE6 := ((hE5.setCell (p := ⟨w.heap.size, 1, none⟩) (Nat.le_refl _) (.int .u64 (lo m'))).setCell (p := ⟨w.heap.size, 2, none⟩) (Nat.le_refl _) (.int .u64 (hi m'))).alloc (.cells #[.int .u64 (lo m'), .int .u64 (hi m')] 33)
              have hnew : ∀ kk, u12.ownBlock = some kk → wm.heap.size ≤ kk := fun kk h => (hOw.lt kk h).1
              have hwm0 : w.heap.size < wm.heap.size := by have := hw.size; omega
              have hne12 : u12.ownBlock ≠ some w.heap.size := fun h => by have := hnew _ h; omega
              have hOw6 := ((hOw5.far (p := ⟨w.heap.size, 1, none⟩) hne12 (.int .u64 (lo m'))).far (p := ⟨w.heap.size, 2, none⟩) hne12 (.int .u64 (hi m'))).ext ((Ext.refl _).alloc (.cells #[.int .u64 (lo m'), .int .u64 (hi m')] 33))
              have hOm6 := ((hOm5.far (p := ⟨w.heap.size, 1, none⟩) hne9 (.int .u64 (lo m'))).far (p := ⟨w.heap.size, 2, none⟩) hne9 (.int .u64 (hi m'))).ext ((Ext.refl _).alloc (.cells #[.int .u64 (lo m'), .int .u64 (hi m')] 33))
              have hsz6 : wm.heap.size ≤ (((w5.setCell ⟨w.heap.size, 1, none⟩ (.int .u64 (lo m'))).setCell ⟨w.heap.size, 2, none⟩ (.int .u64 (hi m'))).alloc (.cells #[.int .u64 (lo m'), .int .u64 (hi m')] 33)).heap.size := by have := e5.size; simp; omega
              have hap := Apart.of hOm.out hOw6 (Nat.le_refl _)
              clear hB hRb hOw hOm2 hb5 hB5 hRb5 hOw5 hOm5 d0 d1 d2 lB m0 m1 m2 m3 m4 hre
              go_wp2_with (at_builtin; refine wpList_push2 (w0 := w) (base := wm.heap.size) (xs := ws) encI64 (by rfl) _ _ 44 (.int .i64 0) 8 (by rfl) Tryd.underlying44 info_i64 (by rfl) how (by rfl) (by rfl) (by simp) hOw6 hsz6 (by omega) hE6 (by omega) (by omega) ?_)
              intro v7 w7 hO7 hb7 hg7 _
              have hB7 := (hg7.block w.heap.size hB6.lt (fun e => hne12 e.symm)).trans hB6
              have hRb7 := (hg7.block (w.heap.size + 1) hRb6.lt (fun e => by have := hnew _ e.symm; have := hw.size; omega)).trans hRb6
              have hOm7 := hOm6.apart hg7 hap
              have hsz7 : wm.heap.size ≤ w7.heap.size := Nat.le_trans hsz6 hg7.size
              go_wp2
              go_roundg (xs.length - (k + 1))
              case rel => exact ⟨k + 1, rfl, hkl, by simp, hb7, by rw [hsu.out]; exact hO7, hOm7, by rw [hsu.out]; exact hB7, hRb7, hsz7⟩
              case measure => omega
            · obtain rfl : k = xs.length := by omega
              have g0 := hRb.frozen 0
              have g1 := hRb.frozen 1
              have g2 := hRb.frozen 2
              have x0 : wr.cell? ⟨w.heap.size + 1, 0, none⟩ = some (.string ⟨#[]⟩) := hRb.cell 0
              have x1 : wr.cell? ⟨w.heap.size + 1, 1, none⟩ = some (.int .u64 0) := hRb.cell 1
              have x2 : wr.cell? ⟨w.heap.size + 1, 2, none⟩ = some (.int .u64 0) := hRb.cell 2
              have lRb := hRb.lt
              have hnew : ∀ kk, u12.ownBlock = some kk → wm.heap.size ≤ kk := fun kk h => (hOw.lt kk h).1
              have hne12 : u12.ownBlock ≠ some (w.heap.size + 1) := fun h => by have := hnew _ h; have := hw.size; omega
              have hOz := ((hOw.far (p := ⟨w.heap.size + 1, 0, none⟩) hne12 (.string c.nm)).far (p := ⟨w.heap.size + 1, 1, none⟩) hne12 (.int .u64 (lo (cmTo xs ms c.m xs.length).1))).far (p := ⟨w.heap.size + 1, 2, none⟩) hne12 (.int .u64 (hi (cmTo xs ms c.m xs.length).1))
              clear hOw hOm2 hB hRb
              generalize cmTo xs ms c.m xs.length = q at hv hOz d1 d2
              obtain ⟨mz, wz⟩ := q
              dsimp only at hv hOz d1 d2
              go_wp2
              refine bodyPost_ret (v := .tuple #[.agg #[.string c.nm, .int .u64 (lo mz), .int .u64 (hi mz)], _, .int .i64 0]) (by simp [results, Tryd.results52, go_sem, x0, x1, x2]; rfl) rfl ⟨_, by rw [hv.out], by rw [hv.out]; exact hOz.lower (by have := hw.size; omega), ?_⟩
              have hw := hE
              (repeat (first | with_reducible exact Ext.refl _ | with_reducible exact hw | with_reducible exact hb9 | with_reducible exact hb8 | with_reducible exact hb7 | with_reducible exact hb6 | with_reducible exact hb5 | with_reducible exact hb4 | with_reducible exact hb3 | with_reducible exact hb2 | with_reducible exact hb1 | with_reducible refine Ext.alloc ?_ _ | with_reducible refine Ext.drew ?_ | ((with_reducible refine Ext.set ?_ ?_ _); focus (dsimp only; omega)) | with_reducible refine Ext.trans ?_ hb9 | with_reducible refine Ext.trans ?_ hb8 | with_reducible refine Ext.trans ?_ hb7 | with_reducible refine Ext.trans ?_ hb6 | with_reducible refine Ext.trans ?_ hb5 | with_reducible refine Ext.trans ?_ hb4 | with_reducible refine Ext.trans ?_ hb3 | with_reducible refine Ext.trans ?_ hb2 | with_reducible refine Ext.trans ?_ hb1 | with_reducible refine Ext.trans ?_ hw))
  · have hall2 : (schB xs && (isCardB c && cs.all isCardB)) = false := by simpa using hall
    have hv := hd (repairC_bad hall2)
    clear hall
    cases hs : schB xs with
    | false =>
      rw [hs] at his
      go_enter Tryd.func52, Tryd.ntmps52
      go_wp2_with fail
      refine Calls.mono (his _ (by ((repeat (first | with_reducible exact Ext.refl _ | with_reducible exact hw | with_reducible exact hb9 | with_reducible exact hb8 | with_reducible exact hb7 | with_reducible exact hb6 | with_reducible exact hb5 | with_reducible exact hb4 | with_reducible exact hb3 | with_reducible exact hb2 | with_reducible exact hb1 | with_reducible refine Ext.alloc ?_ _ | with_reducible refine Ext.drew ?_ | ((with_reducible refine Ext.set ?_ ?_ _); focus (dsimp only; omega)) | with_reducible refine Ext.trans ?_ hb9 | with_reducible refine Ext.trans ?_ hb8 | with_reducible refine Ext.trans ?_ hb7 | with_reducible refine Ext.trans ?_ hb6 | with_reducible refine Ext.trans ?_ hb5 | with_reducible refine Ext.trans ?_ hb4 | with_reducible refine Ext.trans ?_ hb3 | with_reducible refine Ext.trans ?_ hb2 | with_reducible refine Ext.trans ?_ hb1 | with_reducible refine Ext.trans ?_ hw))))) ?_
      rintro e w1 ⟨rfl, hb1⟩
      obtain ⟨hc1, hf1, hz1⟩ := bcell3 hb1
      try simp at hz1
      have hz1_0 : w.heap.size < w1.heap.size := by omega
      have hz1_1 : w.heap.size + 1 < w1.heap.size := by omega
      have hw := (show Ext w w1 by ((repeat (first | with_reducible exact Ext.refl _ | with_reducible exact hw | with_reducible exact hb9 | with_reducible exact hb8 | with_reducible exact hb7 | with_reducible exact hb6 | with_reducible exact hb5 | with_reducible exact hb4 | with_reducible exact hb3 | with_reducible exact hb2 | with_reducible exact hb1 | with_reducible refine Ext.alloc ?_ _ | with_reducible refine Ext.drew ?_ | ((with_reducible refine Ext.set ?_ ?_ _); focus (dsimp only; omega)) | with_reducible refine Ext.trans ?_ hb9 | with_reducible refine Ext.trans ?_ hb8 | with_reducible refine Ext.trans ?_ hb7 | with_reducible refine Ext.trans ?_ hb6 | with_reducible refine Ext.trans ?_ hb5 | with_reducible refine Ext.trans ?_ hb4 | with_reducible refine Ext.trans ?_ hb3 | with_reducible refine Ext.trans ?_ hb2 | with_reducible refine Ext.trans ?_ hb1 | with_reducible refine Ext.trans ?_ hw))))
      have bR : BoxAt w1 (w.heap.size + 1) #[.string ⟨#[]⟩, .int .u64 0, .int .u64 0] 68 := ((BoxAt.new' (by simp)).ext hb1)
      have g0 := bR.frozen 0
      have g1 := bR.frozen 1
      have g2 := bR.frozen 2
      have x0 : w1.cell? ⟨w.heap.size + 1, 0, none⟩ = some (.string ⟨#[]⟩) := bR.cell 0
      have x1 : w1.cell? ⟨w.heap.size + 1, 1, none⟩ = some (.int .u64 0) := bR.cell 1
      have x2 : w1.cell? ⟨w.heap.size + 1, 2, none⟩ = some (.int .u64 0) := bR.cell 2
      have lR := bR.lt
      clear hc1 hf1 hb1 hz1 hz1_0 hz1_1
      go_wp2
      refine bodyPost_ret (v := .tuple #[.agg #[.string ⟨#[]⟩, .int .u64 0, .int .u64 0], .slice none 0 0, .int .i64 1]) (by simp [results, Tryd.results52, go_sem, x0, x1, x2]) rfl ⟨_, by rw [hv.out]; rfl, by rw [hv.out]; exact Ow.nil _ _ _ _, ?_⟩
      (repeat (first | with_reducible exact Ext.refl _ | with_reducible exact hw | with_reducible exact hb9 | with_reducible exact hb8 | with_reducible exact hb7 | with_reducible exact hb6 | with_reducible exact hb5 | with_reducible exact hb4 | with_reducible exact hb3 | with_reducible exact hb2 | with_reducible exact hb1 | with_reducible refine Ext.alloc ?_ _ | with_reducible refine Ext.drew ?_ | ((with_reducible refine Ext.set ?_ ?_ _); focus (dsimp only; omega)) | with_reducible refine Ext.trans ?_ hb9 | with_reducible refine Ext.trans ?_ hb8 | with_reducible refine Ext.trans ?_ hb7 | with_reducible refine Ext.trans ?_ hb6 | with_reducible refine Ext.trans ?_ hb5 | with_reducible refine Ext.trans ?_ hb4 | with_reducible refine Ext.trans ?_ hb3 | with_reducible refine Ext.trans ?_ hb2 | with_reducible refine Ext.trans ?_ hb1 | with_reducible refine Ext.trans ?_ hw))
    | true =>
      rw [hs] at his hall2
      cases hc : isCardB c with
      | false =>
        rw [hc] at hic
        go_enter Tryd.func52, Tryd.ntmps52
        go_wp2_with fail
        refine Calls.mono (his _ (by ((repeat (first | with_reducible exact Ext.refl _ | with_reducible exact hw | with_reducible exact hb9 | with_reducible exact hb8 | with_reducible exact hb7 | with_reducible exact hb6 | with_reducible exact hb5 | with_reducible exact hb4 | with_reducible exact hb3 | with_reducible exact hb2 | with_reducible exact hb1 | with_reducible refine Ext.alloc ?_ _ | with_reducible refine Ext.drew ?_ | ((with_reducible refine Ext.set ?_ ?_ _); focus (dsimp only; omega)) | with_reducible refine Ext.trans ?_ hb9 | with_reducible refine Ext.trans ?_ hb8 | with_reducible refine Ext.trans ?_ hb7 | with_reducible refine Ext.trans ?_ hb6 | with_reducible refine Ext.trans ?_ hb5 | with_reducible refine Ext.trans ?_ hb4 | with_reducible refine Ext.trans ?_ hb3 | with_reducible refine Ext.trans ?_ hb2 | with_reducible refine Ext.trans ?_ hb1 | with_reducible refine Ext.trans ?_ hw))))) ?_
        rintro e w1 ⟨rfl, hb1⟩
        obtain ⟨hc1, hf1, hz1⟩ := bcell3 hb1
        try simp at hz1
        have hz1_0 : w.heap.size < w1.heap.size := by omega
        have hz1_1 : w.heap.size + 1 < w1.heap.size := by omega
        go_wp2_with fail
        refine Calls.mono (hic _) ?_
        rintro e w2 ⟨rfl, hb2⟩
        obtain ⟨hc2, hf2, hz2⟩ := bcell3 hb2
        try simp at hz2
        have hz2_0 : w.heap.size < w2.heap.size := by omega
        have hz2_1 : w.heap.size + 1 < w2.heap.size := by omega
        have hw := (show Ext w w2 by ((repeat (first | with_reducible exact Ext.refl _ | with_reducible exact hw | with_reducible exact hb9 | with_reducible exact hb8 | with_reducible exact hb7 | with_reducible exact hb6 | with_reducible exact hb5 | with_reducible exact hb4 | with_reducible exact hb3 | with_reducible exact hb2 | with_reducible exact hb1 | with_reducible refine Ext.alloc ?_ _ | with_reducible refine Ext.drew ?_ | ((with_reducible refine Ext.set ?_ ?_ _); focus (dsimp only; omega)) | with_reducible refine Ext.trans ?_ hb9 | with_reducible refine Ext.trans ?_ hb8 | with_reducible refine Ext.trans ?_ hb7 | with_reducible refine Ext.trans ?_ hb6 | with_reducible refine Ext.trans ?_ hb5 | with_reducible refine Ext.trans ?_ hb4 | with_reducible refine Ext.trans ?_ hb3 | with_reducible refine Ext.trans ?_ hb2 | with_reducible refine Ext.trans ?_ hb1 | with_reducible refine Ext.trans ?_ hw))))
        have bR : BoxAt w2 (w.heap.size + 1) #[.string ⟨#[]⟩, .int .u64 0, .int .u64 0] 68 := (((BoxAt.new' (by simp)).ext hb1).ext hb2)
        have g0 := bR.frozen 0
        have g1 := bR.frozen 1
        have g2 := bR.frozen 2
        have x0 : w2.cell? ⟨w.heap.size + 1, 0, none⟩ = some (.string ⟨#[]⟩) := bR.cell 0
        have x1 : w2.cell? ⟨w.heap.size + 1, 1, none⟩ = some (.int .u64 0) := bR.cell 1
        have x2 : w2.cell? ⟨w.heap.size + 1, 2, none⟩ = some (.int .u64 0) := bR.cell 2
        have lR := bR.lt
        clear hc1 hf1 hb1 hz1 hz1_0 hz1_1 hc2 hf2 hb2 hz2 hz2_0 hz2_1
        go_wp2
        refine bodyPost_ret (v := .tuple #[.agg #[.string ⟨#[]⟩, .int .u64 0, .int .u64 0], .slice none 0 0, .int .i64 1]) (by simp [results, Tryd.results52, go_sem, x0, x1, x2]) rfl ⟨_, by rw [hv.out]; rfl, by rw [hv.out]; exact Ow.nil _ _ _ _, ?_⟩
        (repeat (first | with_reducible exact Ext.refl _ | with_reducible exact hw | with_reducible exact hb9 | with_reducible exact hb8 | with_reducible exact hb7 | with_reducible exact hb6 | with_reducible exact hb5 | with_reducible exact hb4 | with_reducible exact hb3 | with_reducible exact hb2 | with_reducible exact hb1 | with_reducible refine Ext.alloc ?_ _ | with_reducible refine Ext.drew ?_ | ((with_reducible refine Ext.set ?_ ?_ _); focus (dsimp only; omega)) | with_reducible refine Ext.trans ?_ hb9 | with_reducible refine Ext.trans ?_ hb8 | with_reducible refine Ext.trans ?_ hb7 | with_reducible refine Ext.trans ?_ hb6 | with_reducible refine Ext.trans ?_ hb5 | with_reducible refine Ext.trans ?_ hb4 | with_reducible refine Ext.trans ?_ hb3 | with_reducible refine Ext.trans ?_ hb2 | with_reducible refine Ext.trans ?_ hb1 | with_reducible refine Ext.trans ?_ hw))
      | true =>
        rw [hc] at hic hall2
        have ha : cs.all isCardB = false := by simpa using hall2
        rw [ha] at hia
        go_enter Tryd.func52, Tryd.ntmps52
        go_wp2_with fail
        refine Calls.mono (his _ (by ((repeat (first | with_reducible exact Ext.refl _ | with_reducible exact hw | with_reducible exact hb9 | with_reducible exact hb8 | with_reducible exact hb7 | with_reducible exact hb6 | with_reducible exact hb5 | with_reducible exact hb4 | with_reducible exact hb3 | with_reducible exact hb2 | with_reducible exact hb1 | with_reducible refine Ext.alloc ?_ _ | with_reducible refine Ext.drew ?_ | ((with_reducible refine Ext.set ?_ ?_ _); focus (dsimp only; omega)) | with_reducible refine Ext.trans ?_ hb9 | with_reducible refine Ext.trans ?_ hb8 | with_reducible refine Ext.trans ?_ hb7 | with_reducible refine Ext.trans ?_ hb6 | with_reducible refine Ext.trans ?_ hb5 | with_reducible refine Ext.trans ?_ hb4 | with_reducible refine Ext.trans ?_ hb3 | with_reducible refine Ext.trans ?_ hb2 | with_reducible refine Ext.trans ?_ hb1 | with_reducible refine Ext.trans ?_ hw))))) ?_
        rintro e w1 ⟨rfl, hb1⟩
        obtain ⟨hc1, hf1, hz1⟩ := bcell3 hb1
        try simp at hz1
        have hz1_0 : w.heap.size < w1.heap.size := by omega
        have hz1_1 : w.heap.size + 1 < w1.heap.size := by omega
        go_wp2_with fail
        refine Calls.mono (hic _) ?_
        rintro e w2 ⟨rfl, hb2⟩
        obtain ⟨hc2, hf2, hz2⟩ := bcell3 hb2
        try simp at hz2
        have hz2_0 : w.heap.size < w2.heap.size := by omega
        have hz2_1 : w.heap.size + 1 < w2.heap.size := by omega
        go_wp2_with fail
        refine Calls.mono (hia _ (by ((repeat (first | with_reducible exact Ext.refl _ | with_reducible exact hw | with_reducible exact hb9 | with_reducible exact hb8 | with_reducible exact hb7 | with_reducible exact hb6 | with_reducible exact hb5 | with_reducible exact hb4 | with_reducible exact hb3 | with_reducible exact hb2 | with_reducible exact hb1 | with_reducible refine Ext.alloc ?_ _ | with_reducible refine Ext.drew ?_ | ((with_reducible refine Ext.set ?_ ?_ _); focus (dsimp only; omega)) | with_reducible refine Ext.trans ?_ hb9 | with_reducible refine Ext.trans ?_ hb8 | with_reducible refine Ext.trans ?_ hb7 | with_reducible refine Ext.trans ?_ hb6 | with_reducible refine Ext.trans ?_ hb5 | with_reducible refine Ext.trans ?_ hb4 | with_reducible refine Ext.trans ?_ hb3 | with_reducible refine Ext.trans ?_ hb2 | with_reducible refine Ext.trans ?_ hb1 | with_reducible refine Ext.trans ?_ hw))))) ?_
        rintro e w3 ⟨rfl, hb3⟩
        obtain ⟨hc3, hf3, hz3⟩ := bcell3 hb3
        try simp at hz3
        have hz3_0 : w.heap.size < w3.heap.size := by omega
        have hz3_1 : w.heap.size + 1 < w3.heap.size := by omega
        have hw := (show Ext w w3 by ((repeat (first | with_reducible exact Ext.refl _ | with_reducible exact hw | with_reducible exact hb9 | with_reducible exact hb8 | with_reducible exact hb7 | with_reducible exact hb6 | with_reducible exact hb5 | with_reducible exact hb4 | with_reducible exact hb3 | with_reducible exact hb2 | with_reducible exact hb1 | with_reducible refine Ext.alloc ?_ _ | with_reducible refine Ext.drew ?_ | ((with_reducible refine Ext.set ?_ ?_ _); focus (dsimp only; omega)) | with_reducible refine Ext.trans ?_ hb9 | with_reducible refine Ext.trans ?_ hb8 | with_reducible refine Ext.trans ?_ hb7 | with_reducible refine Ext.trans ?_ hb6 | with_reducible refine Ext.trans ?_ hb5 | with_reducible refine Ext.trans ?_ hb4 | with_reducible refine Ext.trans ?_ hb3 | with_reducible refine Ext.trans ?_ hb2 | with_reducible refine Ext.trans ?_ hb1 | with_reducible refine Ext.trans ?_ hw))))
        have bR : BoxAt w3 (w.heap.size + 1) #[.string ⟨#[]⟩, .int .u64 0, .int .u64 0] 68 := ((((BoxAt.new' (by simp)).ext hb1).ext hb2).ext hb3)
        have g0 := bR.frozen 0
        have g1 := bR.frozen 1
        have g2 := bR.frozen 2
        have x0 : w3.cell? ⟨w.heap.size + 1, 0, none⟩ = some (.string ⟨#[]⟩) := bR.cell 0
        have x1 : w3.cell? ⟨w.heap.size + 1, 1, none⟩ = some (.int .u64 0) := bR.cell 1
        have x2 : w3.cell? ⟨w.heap.size + 1, 2, none⟩ = some (.int .u64 0) := bR.cell 2
        have lR := bR.lt
        clear hc1 hf1 hb1 hz1 hz1_0 hz1_1 hc2 hf2 hb2 hz2 hz2_0 hz2_1 hc3 hf3 hb3 hz3 hz3_0 hz3_1
        go_wp2
        refine bodyPost_ret (v := .tuple #[.agg #[.string ⟨#[]⟩, .int .u64 0, .int .u64 0], .slice none 0 0, .int .i64 1]) (by simp [results, Tryd.results52, go_sem, x0, x1, x2]) rfl ⟨_, by rw [hv.out]; rfl, by rw [hv.out]; exact Ow.nil _ _ _ _, ?_⟩
        (repeat (first | with_reducible exact Ext.refl _ | with_reducible exact hw | with_reducible exact hb9 | with_reducible exact hb8 | with_reducible exact hb7 | with_reducible exact hb6 | with_reducible exact hb5 | with_reducible exact hb4 | with_reducible exact hb3 | with_reducible exact hb2 | with_reducible exact hb1 | with_reducible refine Ext.alloc ?_ _ | with_reducible refine Ext.drew ?_ | ((with_reducible refine Ext.set ?_ ?_ _); focus (dsimp only; omega)) | with_reducible refine Ext.trans ?_ hb9 | with_reducible refine Ext.trans ?_ hb8 | with_reducible refine Ext.trans ?_ hb7 | with_reducible refine Ext.trans ?_ hb6 | with_reducible refine Ext.trans ?_ hb5 | with_reducible refine Ext.trans ?_ hb4 | with_reducible refine Ext.trans ?_ hb3 | with_reducible refine Ext.trans ?_ hb2 | with_reducible refine Ext.trans ?_ hb1 | with_reducible refine Ext.trans ?_ hw))
end Go.Proofs.YtknbebglabpegaaDoor
set_option linter.unusedVariables false
set_option linter.unusedSimpArgs false
set_option maxRecDepth 100000
namespace Go.Proofs.YtknbebglabpegaaDoor
open Go.RowKit
set_option maxHeartbeats 4000000 in
theorem spec_RepairCard (xs : List Fld) (A : Option Addr) (cap : Nat) (c : Crd) (cs : List Crd) (B : Option Addr) (cap' : Nat) (w : World) (hR : Rd encFld w A xs) (hn : xs.length ≤ 1048576) (hok : ∀ x ∈ xs, FldIn x) (hnm : c.nm.size ≤ 9223372036854775807)
    (hS : Rd encCrd w B cs) (hm : cs.length ≤ 1048576) (hok' : ∀ x ∈ cs, CrdIn x) :
    Calls Tryd.prog 51 #[.slice A xs.length cap, .agg #[.string c.nm, .int .u64 (lo c.m), .int .u64 (hi c.m)], .slice B cs.length cap'] w fun e w' => ∃ v, e = .returned (.tuple #[.agg #[.string (repairCF xs c cs).1.nm, .int .u64 (lo (repairCF xs c cs).1.m), .int .u64 (hi (repairCF xs c cs).1.m)], v, .int .i64 (repairCF xs c cs).2.2]) ∧ Ow encI64 2 w' w.heap.size v (repairCF xs c cs).2.1 ∧ Ext w w' := by
  have hx := @ExtOf.cell
  have his := fun (W : World) (h : Ext w W) => spec_l01Scheme xs A cap W (hR.ext h) hn hok
  have hia := fun (W : World) (h : Ext w W) => spec_l04Cards cs B cap' W (hS.ext h) hm hok'
  have hic := fun (W : World) (h0 : W.cell? ⟨w.heap.size, 0, none⟩ = some (.string c.nm)) (h1 : W.cell? ⟨w.heap.size, 0 + 1, none⟩ = some (.int .u64 (lo c.m))) (h2 : W.cell? ⟨w.heap.size, 0 + 1 + 1, none⟩ = some (.int .u64 (hi c.m))) => spec_l01Ok c hnm w.heap.size 0 W (World.block_lt_of_cell? _ _ h0) h0 h1 h2
  by_cases hall : (schB xs && (isCardB c && cs.all isCardB)) = true
  · have hparts := hall
    rw [Bool.and_eq_true, Bool.and_eq_true] at hparts
    obtain ⟨hs, hc, ha⟩ := hparts
    rw [hs] at his
    rw [hc] at hic
    rw [ha] at hia
    by_cases h15 : 15 < cs.length
    · have hv := hd (repairC_long hall h15)
      go_enter Tryd.func51, Tryd.ntmps51
      go_wp2_with fail
      refine Calls.mono (his _ (by ((repeat (first | with_reducible exact Ext.refl _ | with_reducible exact hw | with_reducible exact hb9 | with_reducible exact hb8 | with_reducible exact hb7 | with_reducible exact hb6 | with_reducible exact hb5 | with_reducible exact hb4 | with_reducible exact hb3 | with_reducible exact hb2 | with_reducible exact hb1 | with_reducible refine Ext.alloc ?_ _ | with_reducible refine Ext.drew ?_ | ((with_reducible refine Ext.set ?_ ?_ _); focus (dsimp only; omega)) | with_reducible refine Ext.trans ?_ hb9 | with_reducible refine Ext.trans ?_ hb8 | with_reducible refine Ext.trans ?_ hb7 | with_reducible refine Ext.trans ?_ hb6 | with_reducible refine Ext.trans ?_ hb5 | with_reducible refine Ext.trans ?_ hb4 | with_reducible refine Ext.trans ?_ hb3 | with_reducible refine Ext.trans ?_ hb2 | with_reducible refine Ext.trans ?_ hb1 | with_reducible refine Ext.trans ?_ hw))))) ?_
      rintro e w1 ⟨rfl, hb1⟩
      obtain ⟨hc1, hf1, hz1⟩ := bcell3 hb1
      try simp at hz1
      have hz1_0 : w.heap.size < w1.heap.size := by omega
      have hz1_1 : w.heap.size + 1 < w1.heap.size := by omega
      go_wp2_with fail
      refine Calls.mono (hic _ (hb1.cell (by go_simp)) (hb1.cell (by go_simp)) (hb1.cell (by go_simp))) ?_
      rintro e w2 ⟨rfl, hb2⟩
      obtain ⟨hc2, hf2, hz2⟩ := bcell3 hb2
      try simp at hz2
      have hz2_0 : w.heap.size < w2.heap.size := by omega
      have hz2_1 : w.heap.size + 1 < w2.heap.size := by omega
      go_wp2_with fail
      refine Calls.mono (hia _ (by ((repeat (first | with_reducible exact Ext.refl _ | with_reducible exact hw | with_reducible exact hb9 | with_reducible exact hb8 | with_reducible exact hb7 | with_reducible exact hb6 | with_reducible exact hb5 | with_reducible exact hb4 | with_reducible exact hb3 | with_reducible exact hb2 | with_reducible exact hb1 | with_reducible refine Ext.alloc ?_ _ | with_reducible refine Ext.drew ?_ | ((with_reducible refine Ext.set ?_ ?_ _); focus (dsimp only; omega)) | with_reducible refine Ext.trans ?_ hb9 | with_reducible refine Ext.trans ?_ hb8 | with_reducible refine Ext.trans ?_ hb7 | with_reducible refine Ext.trans ?_ hb6 | with_reducible refine Ext.trans ?_ hb5 | with_reducible refine Ext.trans ?_ hb4 | with_reducible refine Ext.trans ?_ hb3 | with_reducible refine Ext.trans ?_ hb2 | with_reducible refine Ext.trans ?_ hb1 | with_reducible refine Ext.trans ?_ hw))))) ?_
      rintro e w3 ⟨rfl, hb3⟩
      obtain ⟨hc3, hf3, hz3⟩ := bcell3 hb3
      try simp at hz3
      have hz3_0 : w.heap.size < w3.heap.size := by omega
      have hz3_1 : w.heap.size + 1 < w3.heap.size := by omega
      have hw := (show Ext w w3 by ((repeat (first | with_reducible exact Ext.refl _ | with_reducible exact hw | with_reducible exact hb9 | with_reducible exact hb8 | with_reducible exact hb7 | with_reducible exact hb6 | with_reducible exact hb5 | with_reducible exact hb4 | with_reducible exact hb3 | with_reducible exact hb2 | with_reducible exact hb1 | with_reducible refine Ext.alloc ?_ _ | with_reducible refine Ext.drew ?_ | ((with_reducible refine Ext.set ?_ ?_ _); focus (dsimp only; omega)) | with_reducible refine Ext.trans ?_ hb9 | with_reducible refine Ext.trans ?_ hb8 | with_reducible refine Ext.trans ?_ hb7 | with_reducible refine Ext.trans ?_ hb6 | with_reducible refine Ext.trans ?_ hb5 | with_reducible refine Ext.trans ?_ hb4 | with_reducible refine Ext.trans ?_ hb3 | with_reducible refine Ext.trans ?_ hb2 | with_reducible refine Ext.trans ?_ hb1 | with_reducible refine Ext.trans ?_ hw))))
      have bR0 : BoxAt w3 (w.heap.size + 1) #[.string ⟨#[]⟩, .int .u64 0, .int .u64 0] 68 := ((((BoxAt.new' (by simp)).ext hb1).ext hb2).ext hb3)
      have lR0 := bR0.lt
      have bR := bR0.alloc (.cells #[] 2)
      have g0 := bR0.frozen 0
      have g1 := bR0.frozen 1
      have g2 := bR0.frozen 2
      have x0 : w3.cell? ⟨w.heap.size + 1, 0, none⟩ = some (.string ⟨#[]⟩) := bR0.cell 0
      have x1 : w3.cell? ⟨w.heap.size + 1, 1, none⟩ = some (.int .u64 0) := bR0.cell 1
      have x2 : w3.cell? ⟨w.heap.size + 1, 2, none⟩ = some (.int .u64 0) := bR0.cell 2
      have ne1 : ¬ w.heap.size + 1 = w3.heap.size := by omega
      have ne2 : ¬ w3.heap.size = w.heap.size + 1 := by omega
      have lR := bR.lt
      clear hc1 hf1 hb1 hz1 hz1_0 hz1_1 hc2 hf2 hb2 hz2 hz2_0 hz2_1 hc3 hf3 hb3 hz3 hz3_0 hz3_1
      go_wp2
      refine bodyPost_ret (v := .tuple #[.agg #[.string ⟨#[]⟩, .int .u64 0, .int .u64 0], .slice (some ⟨w3.heap.size, 0, none⟩) 0 0, .int .i64 2]) (by simp [results, Tryd.results51, go_sem, x0, x1, x2, g0, g1, g2, ne1, ne2, lR0]) rfl ⟨_, by rw [hv.out]; rfl, by rw [hv.out]; first | exact Ow.made0 (by simp) hw.size | exact (((Ow.made0 rfl hw.size).far (p := ⟨w.heap.size + 1, 0, none⟩) (by simp only [Value.ownBlock]; intro h; have := Option.some.inj h; omega) _).far (p := ⟨w.heap.size + 1, 1, none⟩) (by simp only [Value.ownBlock]; intro h; have := Option.some.inj h; omega) _).far (p := ⟨w.heap.size + 1, 2, none⟩) (by simp only [Value.ownBlock]; intro h; have := Option.some.inj h; omega) _, ?_⟩
      (repeat (first | with_reducible exact Ext.refl _ | with_reducible exact hw | with_reducible exact hb9 | with_reducible exact hb8 | with_reducible exact hb7 | with_reducible exact hb6 | with_reducible exact hb5 | with_reducible exact hb4 | with_reducible exact hb3 | with_reducible exact hb2 | with_reducible exact hb1 | with_reducible refine Ext.alloc ?_ _ | with_reducible refine Ext.drew ?_ | ((with_reducible refine Ext.set ?_ ?_ _); focus (dsimp only; omega)) | with_reducible refine Ext.trans ?_ hb9 | with_reducible refine Ext.trans ?_ hb8 | with_reducible refine Ext.trans ?_ hb7 | with_reducible refine Ext.trans ?_ hb6 | with_reducible refine Ext.trans ?_ hb5 | with_reducible refine Ext.trans ?_ hb4 | with_reducible refine Ext.trans ?_ hb3 | with_reducible refine Ext.trans ?_ hb2 | with_reducible refine Ext.trans ?_ hb1 | with_reducible refine Ext.trans ?_ hw))
    · have hv := hd (repairC_good hall h15)
      have hsl := (sch_all hs).1
      go_enter Tryd.func51, Tryd.ntmps51
      go_wp2_with fail
      refine Calls.mono (his _ (by ((repeat (first | with_reducible exact Ext.refl _ | with_reducible exact hw | with_reducible exact hb9 | with_reducible exact hb8 | with_reducible exact hb7 | with_reducible exact hb6 | with_reducible exact hb5 | with_reducible exact hb4 | with_reducible exact hb3 | with_reducible exact hb2 | with_reducible exact hb1 | with_reducible refine Ext.alloc ?_ _ | with_reducible refine Ext.drew ?_ | ((with_reducible refine Ext.set ?_ ?_ _); focus (dsimp only; omega)) | with_reducible refine Ext.trans ?_ hb9 | with_reducible refine Ext.trans ?_ hb8 | with_reducible refine Ext.trans ?_ hb7 | with_reducible refine Ext.trans ?_ hb6 | with_reducible refine Ext.trans ?_ hb5 | with_reducible refine Ext.trans ?_ hb4 | with_reducible refine Ext.trans ?_ hb3 | with_reducible refine Ext.trans ?_ hb2 | with_reducible refine Ext.trans ?_ hb1 | with_reducible refine Ext.trans ?_ hw))))) ?_
      rintro e w1 ⟨rfl, hb1⟩
      obtain ⟨hc1, hf1, hz1⟩ := bcell3 hb1
      try simp at hz1
      have hz1_0 : w.heap.size < w1.heap.size := by omega
      have hz1_1 : w.heap.size + 1 < w1.heap.size := by omega
      go_wp2_with fail
      refine Calls.mono (hic _ (hb1.cell (by go_simp)) (hb1.cell (by go_simp)) (hb1.cell (by go_simp))) ?_
      rintro e w2 ⟨rfl, hb2⟩
      obtain ⟨hc2, hf2, hz2⟩ := bcell3 hb2
      try simp at hz2
      have hz2_0 : w.heap.size < w2.heap.size := by omega
      have hz2_1 : w.heap.size + 1 < w2.heap.size := by omega
      go_wp2_with fail
      refine Calls.mono (hia _ (by ((repeat (first | with_reducible exact Ext.refl _ | with_reducible exact hw | with_reducible exact hb9 | with_reducible exact hb8 | with_reducible exact hb7 | with_reducible exact hb6 | with_reducible exact hb5 | with_reducible exact hb4 | with_reducible exact hb3 | with_reducible exact hb2 | with_reducible exact hb1 | with_reducible refine Ext.alloc ?_ _ | with_reducible refine Ext.drew ?_ | ((with_reducible refine Ext.set ?_ ?_ _); focus (dsimp only; omega)) | with_reducible refine Ext.trans ?_ hb9 | with_reducible refine Ext.trans ?_ hb8 | with_reducible refine Ext.trans ?_ hb7 | with_reducible refine Ext.trans ?_ hb6 | with_reducible refine Ext.trans ?_ hb5 | with_reducible refine Ext.trans ?_ hb4 | with_reducible refine Ext.trans ?_ hb3 | with_reducible refine Ext.trans ?_ hb2 | with_reducible refine Ext.trans ?_ hb1 | with_reducible refine Ext.trans ?_ hw))))) ?_
      rintro e w3 ⟨rfl, hb3⟩
      obtain ⟨hc3, hf3, hz3⟩ := bcell3 hb3
      try simp at hz3
      have hz3_0 : w.heap.size < w3.heap.size := by omega
      have hz3_1 : w.heap.size + 1 < w3.heap.size := by omega
      have hw3 : Ext w w3 := by ((repeat (first | with_reducible exact Ext.refl _ | with_reducible exact hw | with_reducible exact hb9 | with_reducible exact hb8 | with_reducible exact hb7 | with_reducible exact hb6 | with_reducible exact hb5 | with_reducible exact hb4 | with_reducible exact hb3 | with_reducible exact hb2 | with_reducible exact hb1 | with_reducible refine Ext.alloc ?_ _ | with_reducible refine Ext.drew ?_ | ((with_reducible refine Ext.set ?_ ?_ _); focus (dsimp only; omega)) | with_reducible refine Ext.trans ?_ hb9 | with_reducible refine Ext.trans ?_ hb8 | with_reducible refine Ext.trans ?_ hb7 | with_reducible refine Ext.trans ?_ hb6 | with_reducible refine Ext.trans ?_ hb5 | with_reducible refine Ext.trans ?_ hb4 | with_reducible refine Ext.trans ?_ hb3 | with_reducible refine Ext.trans ?_ hb2 | with_reducible refine Ext.trans ?_ hb1 | with_reducible refine Ext.trans ?_ hw)))
      have bC : BoxAt w3 w.heap.size #[.string c.nm, .int .u64 (lo c.m), .int .u64 (hi c.m)] 68 := ((((BoxAt.new' rfl).alloc _).ext hb1).ext hb2).ext hb3
      have bR : BoxAt w3 (w.heap.size + 1) #[.string ⟨#[]⟩, .int .u64 0, .int .u64 0] 68 := (((BoxAt.new' (by simp)).ext hb1).ext hb2).ext hb3
      have lR := bR.lt
      clear hc1 hf1 hb1 hz1 hz1_0 hz1_1 hc2 hf2 hb2 hz2 hz2_0 hz2_1 hc3 hf3 hb3 hz3 hz3_0 hz3_1
      go_wp2
      go_loopg [9, 10] cs.length (fun g v i wr => ∃ k : Nat, g = cs.length - k ∧ k ≤ cs.length ∧ i = .int .i64 k ∧ Ext w3 wr ∧ Ow encMask 33 wr w3.heap.size v ((cs.take k).map (·.m)))
      case atStart => exact ⟨0, by omega, by omega, rfl, (Ext.refl _).alloc _, Ow.made0 rfl (Nat.le_refl _)⟩
      case round =>
        obtain ⟨k, hg, hk, rfl, hw, hO⟩ := hrel
        by_cases hkl : k < cs.length
        · obtain ⟨b, off, hB, hlt, _⟩ := hS k hkl
          subst hB
          obtain ⟨m0, m1, m2, m3⟩ := (hS.ext (hw3.trans hw)).crd k hkl
          have hsu := hd (map_take_succ (fun x : Crd => x.m) cs k hkl)
          have hl : ((cs.take k).map (fun x : Crd => x.m)).length ≤ 1048576 := by rw [List.length_map, List.length_take]; omega
          generalize (cs.take k).map (fun x : Crd => x.m) = ys at hO hsu hl
          generalize cs[k].m = cm at m1 m2 hsu
          go_wp2_with (at_builtin; refine wpList_push2 (w0 := w3) (base := w3.heap.size) (xs := ys) encMask (by rfl) _ _ 54 (.agg #[.int .u64 0, .int .u64 0]) 16 (by rfl) Tryd.underlying54 info_Mask (by rfl) (cm) (by rfl) (by rfl) (by simp) (hO) ((hw : Ext w3 _).size) (Nat.le_refl _) (hw) (by omega) (by omega) ?_)
          intro v6 w6 hO6 hb6 hg6 ho6
          go_wp2
          go_roundg (cs.length - (k + 1))
          case rel => exact ⟨k + 1, rfl, hkl, by simp, hb6, by rw [hsu.out]; exact hO6⟩
          case measure => omega
        · obtain rfl : k = cs.length := by omega
          rw [List.take_length] at hO
          have hml : (cs.map (fun x : Crd => x.m)).length ≤ 15 := by rw [List.length_map]; omega
          have hcl := fun k => cmTo_len xs (cs.map (fun x : Crd => x.m)) c.m k
          have hcz := cmTo_zero xs (cs.map (fun x : Crd => x.m)) c.m
          have hcs := fun k hk => cmTo_succ xs (cs.map (fun x : Crd => x.m)) c.m k hk
          generalize cs.map (fun x : Crd => x.m) = ms at hO hv hml hcl hcz hcs
          obtain ⟨Am, cm', hAm, hlem, hRm⟩ := hO.slice
          subst hAm
          have hfar : ∀ k, (Value.slice Am ms.length cm').ownBlock = some k → w3.heap.size ≤ k := fun k h => (hO.lt k h).1
          obtain ⟨wm, hwm⟩ : ∃ x, x = wr := ⟨_, rfl⟩
          subst hwm
          have bC := bC.ext hw
          have bR := bR.ext hw
          have hE0 : Ext w wm := hw3.trans hw
          have hne9 : (Value.slice Am ms.length cm').ownBlock ≠ some w.heap.size := fun h => by have := hfar _ h; omega
          have hOm := hd hO
          clear hRm
          go_wp2
          go_loopg [11, 12] xs.length (fun g v i wr => ∃ k : Nat, g = xs.length - k ∧ k ≤ xs.length ∧ i = .int .i64 k ∧ Ext w wr ∧ Ow encI64 2 wr wm.heap.size v (cmTo xs ms c.m k).2 ∧ Ow encMask 33 wr w3.heap.size (.slice Am ms.length cm') ms ∧ BoxAt wr w.heap.size #[.string c.nm, .int .u64 (lo (cmTo xs ms c.m k).1), .int .u64 (hi (cmTo xs ms c.m k).1)] 68 ∧ BoxAt wr (w.heap.size + 1) #[.string ⟨#[]⟩, .int .u64 0, .int .u64 0] 68 ∧ wm.heap.size ≤ wr.heap.size)
          case atStart => exact ⟨0, by omega, by omega, rfl, hE0.alloc _, by rw [hcz]; exact Ow.made0 rfl (Nat.le_refl _), hO.ext ((Ext.refl _).alloc _), by rw [hcz]; exact bC.alloc _, bR.alloc _, by simp⟩
          case round =>
            obtain ⟨k, hg2, hk2, rfl, hE, hOw, hOm2, hB, hRb, hsz⟩ := hrel
            have d0 := hB.cell 0
            have d1 := hB.cell 1
            have d2 := hB.cell 2
            have lB := hB.lt
            by_cases hkl : k < xs.length
            · obtain ⟨b, off, hA, hlt, _⟩ := hR k hkl
              subst hA
              obtain ⟨m0, m1, m2, m3, m4⟩ := (hR.ext hE).fld k hkl
              have hf := (sch_all hs).2 k hkl
              have hsu := hd (hcs k hkl)
              have hlk := hcl k
              generalize hcq : cmTo xs ms c.m k = q at hOw hB hsu hlk d1 d2
              obtain ⟨mk, ws⟩ := q
              dsimp only at hOw hB hsu hlk d1 d2
              have hF := (hR.ext hE).fldAt k hkl
              have hre := fun (W : World) (h : Ext wr W) => spec_l04Repair xs[k] hf mk ms Am cm' b (off + k * 4) W (hF.ext h) (hOm2.rdA.ext h) hml
              generalize repF xs[k] mk ms = r at hre hsu
              obtain ⟨m', how⟩ := r
              dsimp only at hre hsu
              have hlk2 := hd hlk
              clear hlk
              have hwl : ws.length ≤ 12 := by have := hlk2.out; omega
              go_wp2
              refine wp_region_float 7 10 13 _ #[.int .u64 0, .int .u64 0] 33 (by kernel_rfl) (by kernel_rfl) rfl rfl rfl rfl (fun _ _ => by go_simp) (by intro d _ _ _ _ h; cases d <;> exact h) ?_
              simp only [List.take_succ_cons, List.take_zero, List.drop_succ_cons, List.drop_zero]
              repeat (refine wpX_step (fun K hK => ?_); go_simp; first | (refine hK _ ?_; clear hK K) | (apply Exists.intro; refine ⟨fun x => ?_, hK _ ?_⟩; (((go_at_call 77; with_reducible exact hre _ (ExtOf.prop _)))); clear hK K))
              refine wpX_nil ?_
              intro b5 w5 hb5 hbb5 hcb5
              obtain ⟨hc5, hf5, hz5⟩ := bcell3 hb5
              try simp at hz5
              try simp at hbb5
              have hbl5 := blk_lt hcb5
              have hbf5 := blk_free hcb5
              have hbc5_0 : w5.cell? ⟨b5, 0, none⟩ = some (.int .u64 0) := blk_cell hcb5 0 rfl
              have hbc5_1 : w5.cell? ⟨b5, 1, none⟩ = some (.int .u64 0) := blk_cell hcb5 1 rfl
              clear hcb5
              have e5 : Ext wr ((w5.setCell ⟨b5, 0, none⟩ (.int .u64 (lo m'))).setCell ⟨b5, 1, none⟩ (.int .u64 (hi m'))) := Ext.set (by dsimp only; omega) (Ext.set (by dsimp only; omega) hb5 _) _
              have hB5 := hB.ext e5
              have hRb5 := hRb.ext e5
              have hE5 : Ext w ((w5.setCell ⟨b5, 0, none⟩ (.int .u64 (lo m'))).setCell ⟨b5, 1, none⟩ (.int .u64 (hi m'))) := hE.trans e5
              have eA := e5
              have hOw5 := hOw.ext eA
              have hOm5 := hOm2.ext eA
              have nb1 : ¬ w.heap.size = b5 := by omega
              have nb2 : ¬ b5 = w.heap.size := by omega
              have f1 := hB5.frozen 1
              have f2 := hB5.frozen 2
              have f1w := (hB.ext hb5).frozen 1
              have f2w := (hB.ext hb5).frozen 2
              have u1 := (hB.ext hb5).cell 1
              have u2 := (hB.ext hb5).cell 2
              have lw5 := (hB.ext hb5).lt
              have hB6 := (hB5.set 1 (.int .u64 (lo m'))).set 2 (.int .u64 (hi m'))
              have hRb6 := (hRb5.setOther (p := ⟨w.heap.size, 1, none⟩) (by first | omega | (simp; done) | (simp; omega) | (dsimp only; omega)) (.int .u64 (lo m'))).setOther (p := ⟨w.heap.size, 2, none⟩) (by first | omega | (simp; done) | (simp; omega) | (dsimp only; omega)) (.int .u64 (hi m'))
              have hE6 := (hE5.setCell (p := ⟨w.heap.size, 1, none⟩) (Nat.le_refl _) (.int .u64 (lo m'))).setCell (p := ⟨w.heap.size, 2, none⟩) (Nat.le_refl _) (.int .u64 (hi m'))
              have hnew : ∀ kk, u11.ownBlock = some kk → wm.heap.size ≤ kk := fun kk h => (hOw.lt kk h).1
              have hwm0 : w.heap.size < wm.heap.size := by have := hw.size; omega
              have hne12 : u11.ownBlock ≠ some w.heap.size := fun h => by have := hnew _ h; omega
              have hOw6 := (hOw5.far (p := ⟨w.heap.size, 1, none⟩) hne12 (.int .u64 (lo m'))).far (p := ⟨w.heap.size, 2, none⟩) hne12 (.int .u64 (hi m'))
              have hOm6 := (hOm5.far (p := ⟨w.heap.size, 1, none⟩) hne9 (.int .u64 (lo m'))).far (p := ⟨w.heap.size, 2, none⟩) hne9 (.int .u64 (hi m'))
              have hsz6 : wm.heap.size ≤ ((((w5.setCell ⟨b5, 0, none⟩ (.int .u64 (lo m'))).setCell ⟨b5, 1, none⟩ (.int .u64 (hi m'))).setCell ⟨w.heap.size, 1, none⟩ (.int .u64 (lo m'))).setCell ⟨w.heap.size, 2, none⟩ (.int .u64 (hi m'))).heap.size := by have := e5.size; simp at this ⊢; omega
              have hap := Apart.of hOm.out hOw6 (Nat.le_refl _)
              clear hB hRb hOw hOm2 hb5 hB5 hRb5 hOw5 hOm5 d0 d1 d2 lB m0 m1 m2 m3 m4 hre hc5 hf5 hF
              go_wp2_with (at_builtin; refine wpList_push2 (w0 := w) (base := wm.heap.size) (xs := ws) encI64 (by rfl) _ _ 44 (.int .i64 0) 8 (by rfl) Tryd.underlying44 info_i64 (by rfl) how (by rfl) (by rfl) (by simp) hOw6 hsz6 (by omega) hE6 (by omega) (by omega) ?_)
              intro v7 w7 hO7 hb7 hg7 _
              have hB7 := (hg7.block w.heap.size hB6.lt (fun e => hne12 e.symm)).trans hB6
              have hRb7 := (hg7.block (w.heap.size + 1) hRb6.lt (fun e => by have := hnew _ e.symm; have := hw.size; omega)).trans hRb6
              have hOm7 := hOm6.apart hg7 hap
              have hsz7 : wm.heap.size ≤ w7.heap.size := Nat.le_trans hsz6 hg7.size
              go_wp2
              go_roundg (xs.length - (k + 1))
              case rel => exact ⟨k + 1, rfl, hkl, by simp, hb7, by rw [hsu.out]; exact hO7, hOm7, by rw [hsu.out]; exact hB7, hRb7, hsz7⟩
              case measure => omega
            · obtain rfl : k = xs.length := by omega
              have g0 := hRb.frozen 0
              have g1 := hRb.frozen 1
              have g2 := hRb.frozen 2
              have x0 : wr.cell? ⟨w.heap.size + 1, 0, none⟩ = some (.string ⟨#[]⟩) := hRb.cell 0
              have x1 : wr.cell? ⟨w.heap.size + 1, 1, none⟩ = some (.int .u64 0) := hRb.cell 1
              have x2 : wr.cell? ⟨w.heap.size + 1, 2, none⟩ = some (.int .u64 0) := hRb.cell 2
              have lRb := hRb.lt
              have hnew : ∀ kk, u11.ownBlock = some kk → wm.heap.size ≤ kk := fun kk h => (hOw.lt kk h).1
              have hne12 : u11.ownBlock ≠ some (w.heap.size + 1) := fun h => by have := hnew _ h; have := hw.size; omega
              have hOz := ((hOw.far (p := ⟨w.heap.size + 1, 0, none⟩) hne12 (.string c.nm)).far (p := ⟨w.heap.size + 1, 1, none⟩) hne12 (.int .u64 (lo (cmTo xs ms c.m xs.length).1))).far (p := ⟨w.heap.size + 1, 2, none⟩) hne12 (.int .u64 (hi (cmTo xs ms c.m xs.length).1))
              clear hOw hOm2 hB hRb
              generalize cmTo xs ms c.m xs.length = q at hv hOz d1 d2
              obtain ⟨mz, wz⟩ := q
              dsimp only at hv hOz d1 d2
              go_wp2
              refine bodyPost_ret (v := .tuple #[.agg #[.string c.nm, .int .u64 (lo mz), .int .u64 (hi mz)], _, .int .i64 0]) (by simp [results, Tryd.results51, go_sem, x0, x1, x2]; rfl) rfl ⟨_, by rw [hv.out], by rw [hv.out]; exact hOz.lower (by have := hw.size; omega), ?_⟩
              have hw := hE
              (repeat (first | with_reducible exact Ext.refl _ | with_reducible exact hw | with_reducible exact hb9 | with_reducible exact hb8 | with_reducible exact hb7 | with_reducible exact hb6 | with_reducible exact hb5 | with_reducible exact hb4 | with_reducible exact hb3 | with_reducible exact hb2 | with_reducible exact hb1 | with_reducible refine Ext.alloc ?_ _ | with_reducible refine Ext.drew ?_ | ((with_reducible refine Ext.set ?_ ?_ _); focus (dsimp only; omega)) | with_reducible refine Ext.trans ?_ hb9 | with_reducible refine Ext.trans ?_ hb8 | with_reducible refine Ext.trans ?_ hb7 | with_reducible refine Ext.trans ?_ hb6 | with_reducible refine Ext.trans ?_ hb5 | with_reducible refine Ext.trans ?_ hb4 | with_reducible refine Ext.trans ?_ hb3 | with_reducible refine Ext.trans ?_ hb2 | with_reducible refine Ext.trans ?_ hb1 | with_reducible refine Ext.trans ?_ hw))
  · have hall2 : (schB xs && (isCardB c && cs.all isCardB)) = false := by simpa using hall
    have hv := hd (repairC_bad hall2)
    clear hall
    cases hs : schB xs with
    | false =>
      rw [hs] at his
      go_enter Tryd.func51, Tryd.ntmps51
      go_wp2_with fail
      refine Calls.mono (his _ (by ((repeat (first | with_reducible exact Ext.refl _ | with_reducible exact hw | with_reducible exact hb9 | with_reducible exact hb8 | with_reducible exact hb7 | with_reducible exact hb6 | with_reducible exact hb5 | with_reducible exact hb4 | with_reducible exact hb3 | with_reducible exact hb2 | with_reducible exact hb1 | with_reducible refine Ext.alloc ?_ _ | with_reducible refine Ext.drew ?_ | ((with_reducible refine Ext.set ?_ ?_ _); focus (dsimp only; omega)) | with_reducible refine Ext.trans ?_ hb9 | with_reducible refine Ext.trans ?_ hb8 | with_reducible refine Ext.trans ?_ hb7 | with_reducible refine Ext.trans ?_ hb6 | with_reducible refine Ext.trans ?_ hb5 | with_reducible refine Ext.trans ?_ hb4 | with_reducible refine Ext.trans ?_ hb3 | with_reducible refine Ext.trans ?_ hb2 | with_reducible refine Ext.trans ?_ hb1 | with_reducible refine Ext.trans ?_ hw))))) ?_
      rintro e w1 ⟨rfl, hb1⟩
      obtain ⟨hc1, hf1, hz1⟩ := bcell3 hb1
      try simp at hz1
      have hz1_0 : w.heap.size < w1.heap.size := by omega
      have hz1_1 : w.heap.size + 1 < w1.heap.size := by omega
      have hw := (show Ext w w1 by ((repeat (first | with_reducible exact Ext.refl _ | with_reducible exact hw | with_reducible exact hb9 | with_reducible exact hb8 | with_reducible exact hb7 | with_reducible exact hb6 | with_reducible exact hb5 | with_reducible exact hb4 | with_reducible exact hb3 | with_reducible exact hb2 | with_reducible exact hb1 | with_reducible refine Ext.alloc ?_ _ | with_reducible refine Ext.drew ?_ | ((with_reducible refine Ext.set ?_ ?_ _); focus (dsimp only; omega)) | with_reducible refine Ext.trans ?_ hb9 | with_reducible refine Ext.trans ?_ hb8 | with_reducible refine Ext.trans ?_ hb7 | with_reducible refine Ext.trans ?_ hb6 | with_reducible refine Ext.trans ?_ hb5 | with_reducible refine Ext.trans ?_ hb4 | with_reducible refine Ext.trans ?_ hb3 | with_reducible refine Ext.trans ?_ hb2 | with_reducible refine Ext.trans ?_ hb1 | with_reducible refine Ext.trans ?_ hw))))
      have bR0 : BoxAt w1 (w.heap.size + 1) #[.string ⟨#[]⟩, .int .u64 0, .int .u64 0] 68 := ((BoxAt.new' (by simp)).ext hb1)
      have lR0 := bR0.lt
      have bR := bR0.alloc (.cells #[] 2)
      have g0 := bR0.frozen 0
      have g1 := bR0.frozen 1
      have g2 := bR0.frozen 2
      have x0 : w1.cell? ⟨w.heap.size + 1, 0, none⟩ = some (.string ⟨#[]⟩) := bR0.cell 0
      have x1 : w1.cell? ⟨w.heap.size + 1, 1, none⟩ = some (.int .u64 0) := bR0.cell 1
      have x2 : w1.cell? ⟨w.heap.size + 1, 2, none⟩ = some (.int .u64 0) := bR0.cell 2
      have ne1 : ¬ w.heap.size + 1 = w1.heap.size := by omega
      have ne2 : ¬ w1.heap.size = w.heap.size + 1 := by omega
      have lR := bR.lt
      clear hc1 hf1 hb1 hz1 hz1_0 hz1_1
      go_wp2
      refine bodyPost_ret (v := .tuple #[.agg #[.string ⟨#[]⟩, .int .u64 0, .int .u64 0], .slice (some ⟨w1.heap.size, 0, none⟩) 0 0, .int .i64 1]) (by simp [results, Tryd.results51, go_sem, x0, x1, x2, g0, g1, g2, ne1, ne2, lR0]) rfl ⟨_, by rw [hv.out]; rfl, by rw [hv.out]; first | exact Ow.made0 (by simp) hw.size | exact (((Ow.made0 rfl hw.size).far (p := ⟨w.heap.size + 1, 0, none⟩) (by simp only [Value.ownBlock]; intro h; have := Option.some.inj h; omega) _).far (p := ⟨w.heap.size + 1, 1, none⟩) (by simp only [Value.ownBlock]; intro h; have := Option.some.inj h; omega) _).far (p := ⟨w.heap.size + 1, 2, none⟩) (by simp only [Value.ownBlock]; intro h; have := Option.some.inj h; omega) _, ?_⟩
      (repeat (first | with_reducible exact Ext.refl _ | with_reducible exact hw | with_reducible exact hb9 | with_reducible exact hb8 | with_reducible exact hb7 | with_reducible exact hb6 | with_reducible exact hb5 | with_reducible exact hb4 | with_reducible exact hb3 | with_reducible exact hb2 | with_reducible exact hb1 | with_reducible refine Ext.alloc ?_ _ | with_reducible refine Ext.drew ?_ | ((with_reducible refine Ext.set ?_ ?_ _); focus (dsimp only; omega)) | with_reducible refine Ext.trans ?_ hb9 | with_reducible refine Ext.trans ?_ hb8 | with_reducible refine Ext.trans ?_ hb7 | with_reducible refine Ext.trans ?_ hb6 | with_reducible refine Ext.trans ?_ hb5 | with_reducible refine Ext.trans ?_ hb4 | with_reducible refine Ext.trans ?_ hb3 | with_reducible refine Ext.trans ?_ hb2 | with_reducible refine Ext.trans ?_ hb1 | with_reducible refine Ext.trans ?_ hw))
    | true =>
      rw [hs] at his hall2
      cases hc : isCardB c with
      | false =>
        rw [hc] at hic
        go_enter Tryd.func51, Tryd.ntmps51
        go_wp2_with fail
        refine Calls.mono (his _ (by ((repeat (first | with_reducible exact Ext.refl _ | with_reducible exact hw | with_reducible exact hb9 | with_reducible exact hb8 | with_reducible exact hb7 | with_reducible exact hb6 | with_reducible exact hb5 | with_reducible exact hb4 | with_reducible exact hb3 | with_reducible exact hb2 | with_reducible exact hb1 | with_reducible refine Ext.alloc ?_ _ | with_reducible refine Ext.drew ?_ | ((with_reducible refine Ext.set ?_ ?_ _); focus (dsimp only; omega)) | with_reducible refine Ext.trans ?_ hb9 | with_reducible refine Ext.trans ?_ hb8 | with_reducible refine Ext.trans ?_ hb7 | with_reducible refine Ext.trans ?_ hb6 | with_reducible refine Ext.trans ?_ hb5 | with_reducible refine Ext.trans ?_ hb4 | with_reducible refine Ext.trans ?_ hb3 | with_reducible refine Ext.trans ?_ hb2 | with_reducible refine Ext.trans ?_ hb1 | with_reducible refine Ext.trans ?_ hw))))) ?_
        rintro e w1 ⟨rfl, hb1⟩
        obtain ⟨hc1, hf1, hz1⟩ := bcell3 hb1
        try simp at hz1
        have hz1_0 : w.heap.size < w1.heap.size := by omega
        have hz1_1 : w.heap.size + 1 < w1.heap.size := by omega
        go_wp2_with fail
        refine Calls.mono (hic _ (hb1.cell (by go_simp)) (hb1.cell (by go_simp)) (hb1.cell (by go_simp))) ?_
        rintro e w2 ⟨rfl, hb2⟩
        obtain ⟨hc2, hf2, hz2⟩ := bcell3 hb2
        try simp at hz2
        have hz2_0 : w.heap.size < w2.heap.size := by omega
        have hz2_1 : w.heap.size + 1 < w2.heap.size := by omega
        have hw := (show Ext w w2 by ((repeat (first | with_reducible exact Ext.refl _ | with_reducible exact hw | with_reducible exact hb9 | with_reducible exact hb8 | with_reducible exact hb7 | with_reducible exact hb6 | with_reducible exact hb5 | with_reducible exact hb4 | with_reducible exact hb3 | with_reducible exact hb2 | with_reducible exact hb1 | with_reducible refine Ext.alloc ?_ _ | with_reducible refine Ext.drew ?_ | ((with_reducible refine Ext.set ?_ ?_ _); focus (dsimp only; omega)) | with_reducible refine Ext.trans ?_ hb9 | with_reducible refine Ext.trans ?_ hb8 | with_reducible refine Ext.trans ?_ hb7 | with_reducible refine Ext.trans ?_ hb6 | with_reducible refine Ext.trans ?_ hb5 | with_reducible refine Ext.trans ?_ hb4 | with_reducible refine Ext.trans ?_ hb3 | with_reducible refine Ext.trans ?_ hb2 | with_reducible refine Ext.trans ?_ hb1 | with_reducible refine Ext.trans ?_ hw))))
        have bR0 : BoxAt w2 (w.heap.size + 1) #[.string ⟨#[]⟩, .int .u64 0, .int .u64 0] 68 := (((BoxAt.new' (by simp)).ext hb1).ext hb2)
        have lR0 := bR0.lt
        have bR := bR0.alloc (.cells #[] 2)
        have g0 := bR0.frozen 0
        have g1 := bR0.frozen 1
        have g2 := bR0.frozen 2
        have x0 : w2.cell? ⟨w.heap.size + 1, 0, none⟩ = some (.string ⟨#[]⟩) := bR0.cell 0
        have x1 : w2.cell? ⟨w.heap.size + 1, 1, none⟩ = some (.int .u64 0) := bR0.cell 1
        have x2 : w2.cell? ⟨w.heap.size + 1, 2, none⟩ = some (.int .u64 0) := bR0.cell 2
        have ne1 : ¬ w.heap.size + 1 = w2.heap.size := by omega
        have ne2 : ¬ w2.heap.size = w.heap.size + 1 := by omega
        have lR := bR.lt
        clear hc1 hf1 hb1 hz1 hz1_0 hz1_1 hc2 hf2 hb2 hz2 hz2_0 hz2_1
        go_wp2
        refine bodyPost_ret (v := .tuple #[.agg #[.string ⟨#[]⟩, .int .u64 0, .int .u64 0], .slice (some ⟨w2.heap.size, 0, none⟩) 0 0, .int .i64 1]) (by simp [results, Tryd.results51, go_sem, x0, x1, x2, g0, g1, g2, ne1, ne2, lR0]) rfl ⟨_, by rw [hv.out]; rfl, by rw [hv.out]; first | exact Ow.made0 (by simp) hw.size | exact (((Ow.made0 rfl hw.size).far (p := ⟨w.heap.size + 1, 0, none⟩) (by simp only [Value.ownBlock]; intro h; have := Option.some.inj h; omega) _).far (p := ⟨w.heap.size + 1, 1, none⟩) (by simp only [Value.ownBlock]; intro h; have := Option.some.inj h; omega) _).far (p := ⟨w.heap.size + 1, 2, none⟩) (by simp only [Value.ownBlock]; intro h; have := Option.some.inj h; omega) _, ?_⟩
        (repeat (first | with_reducible exact Ext.refl _ | with_reducible exact hw | with_reducible exact hb9 | with_reducible exact hb8 | with_reducible exact hb7 | with_reducible exact hb6 | with_reducible exact hb5 | with_reducible exact hb4 | with_reducible exact hb3 | with_reducible exact hb2 | with_reducible exact hb1 | with_reducible refine Ext.alloc ?_ _ | with_reducible refine Ext.drew ?_ | ((with_reducible refine Ext.set ?_ ?_ _); focus (dsimp only; omega)) | with_reducible refine Ext.trans ?_ hb9 | with_reducible refine Ext.trans ?_ hb8 | with_reducible refine Ext.trans ?_ hb7 | with_reducible refine Ext.trans ?_ hb6 | with_reducible refine Ext.trans ?_ hb5 | with_reducible refine Ext.trans ?_ hb4 | with_reducible refine Ext.trans ?_ hb3 | with_reducible refine Ext.trans ?_ hb2 | with_reducible refine Ext.trans ?_ hb1 | with_reducible refine Ext.trans ?_ hw))
      | true =>
        rw [hc] at hic hall2
        have ha : cs.all isCardB = false := by simpa using hall2
        rw [ha] at hia
        go_enter Tryd.func51, Tryd.ntmps51
        go_wp2_with fail
        refine Calls.mono (his _ (by ((repeat (first | with_reducible exact Ext.refl _ | with_reducible exact hw | with_reducible exact hb9 | with_reducible exact hb8 | with_reducible exact hb7 | with_reducible exact hb6 | with_reducible exact hb5 | with_reducible exact hb4 | with_reducible exact hb3 | with_reducible exact hb2 | with_reducible exact hb1 | with_reducible refine Ext.alloc ?_ _ | with_reducible refine Ext.drew ?_ | ((with_reducible refine Ext.set ?_ ?_ _); focus (dsimp only; omega)) | with_reducible refine Ext.trans ?_ hb9 | with_reducible refine Ext.trans ?_ hb8 | with_reducible refine Ext.trans ?_ hb7 | with_reducible refine Ext.trans ?_ hb6 | with_reducible refine Ext.trans ?_ hb5 | with_reducible refine Ext.trans ?_ hb4 | with_reducible refine Ext.trans ?_ hb3 | with_reducible refine Ext.trans ?_ hb2 | with_reducible refine Ext.trans ?_ hb1 | with_reducible refine Ext.trans ?_ hw))))) ?_
        rintro e w1 ⟨rfl, hb1⟩
        obtain ⟨hc1, hf1, hz1⟩ := bcell3 hb1
        try simp at hz1
        have hz1_0 : w.heap.size < w1.heap.size := by omega
        have hz1_1 : w.heap.size + 1 < w1.heap.size := by omega
        go_wp2_with fail
        refine Calls.mono (hic _ (hb1.cell (by go_simp)) (hb1.cell (by go_simp)) (hb1.cell (by go_simp))) ?_
        rintro e w2 ⟨rfl, hb2⟩
        obtain ⟨hc2, hf2, hz2⟩ := bcell3 hb2
        try simp at hz2
        have hz2_0 : w.heap.size < w2.heap.size := by omega
        have hz2_1 : w.heap.size + 1 < w2.heap.size := by omega
        go_wp2_with fail
        refine Calls.mono (hia _ (by ((repeat (first | with_reducible exact Ext.refl _ | with_reducible exact hw | with_reducible exact hb9 | with_reducible exact hb8 | with_reducible exact hb7 | with_reducible exact hb6 | with_reducible exact hb5 | with_reducible exact hb4 | with_reducible exact hb3 | with_reducible exact hb2 | with_reducible exact hb1 | with_reducible refine Ext.alloc ?_ _ | with_reducible refine Ext.drew ?_ | ((with_reducible refine Ext.set ?_ ?_ _); focus (dsimp only; omega)) | with_reducible refine Ext.trans ?_ hb9 | with_reducible refine Ext.trans ?_ hb8 | with_reducible refine Ext.trans ?_ hb7 | with_reducible refine Ext.trans ?_ hb6 | with_reducible refine Ext.trans ?_ hb5 | with_reducible refine Ext.trans ?_ hb4 | with_reducible refine Ext.trans ?_ hb3 | with_reducible refine Ext.trans ?_ hb2 | with_reducible refine Ext.trans ?_ hb1 | with_reducible refine Ext.trans ?_ hw))))) ?_
        rintro e w3 ⟨rfl, hb3⟩
        obtain ⟨hc3, hf3, hz3⟩ := bcell3 hb3
        try simp at hz3
        have hz3_0 : w.heap.size < w3.heap.size := by omega
        have hz3_1 : w.heap.size + 1 < w3.heap.size := by omega
        have hw := (show Ext w w3 by ((repeat (first | with_reducible exact Ext.refl _ | with_reducible exact hw | with_reducible exact hb9 | with_reducible exact hb8 | with_reducible exact hb7 | with_reducible exact hb6 | with_reducible exact hb5 | with_reducible exact hb4 | with_reducible exact hb3 | with_reducible exact hb2 | with_reducible exact hb1 | with_reducible refine Ext.alloc ?_ _ | with_reducible refine Ext.drew ?_ | ((with_reducible refine Ext.set ?_ ?_ _); focus (dsimp only; omega)) | with_reducible refine Ext.trans ?_ hb9 | with_reducible refine Ext.trans ?_ hb8 | with_reducible refine Ext.trans ?_ hb7 | with_reducible refine Ext.trans ?_ hb6 | with_reducible refine Ext.trans ?_ hb5 | with_reducible refine Ext.trans ?_ hb4 | with_reducible refine Ext.trans ?_ hb3 | with_reducible refine Ext.trans ?_ hb2 | with_reducible refine Ext.trans ?_ hb1 | with_reducible refine Ext.trans ?_ hw))))
        have bR0 : BoxAt w3 (w.heap.size + 1) #[.string ⟨#[]⟩, .int .u64 0, .int .u64 0] 68 := ((((BoxAt.new' (by simp)).ext hb1).ext hb2).ext hb3)
        have lR0 := bR0.lt
        have bR := bR0.alloc (.cells #[] 2)
        have g0 := bR0.frozen 0
        have g1 := bR0.frozen 1
        have g2 := bR0.frozen 2
        have x0 : w3.cell? ⟨w.heap.size + 1, 0, none⟩ = some (.string ⟨#[]⟩) := bR0.cell 0
        have x1 : w3.cell? ⟨w.heap.size + 1, 1, none⟩ = some (.int .u64 0) := bR0.cell 1
        have x2 : w3.cell? ⟨w.heap.size + 1, 2, none⟩ = some (.int .u64 0) := bR0.cell 2
        have ne1 : ¬ w.heap.size + 1 = w3.heap.size := by omega
        have ne2 : ¬ w3.heap.size = w.heap.size + 1 := by omega
        have lR := bR.lt
        clear hc1 hf1 hb1 hz1 hz1_0 hz1_1 hc2 hf2 hb2 hz2 hz2_0 hz2_1 hc3 hf3 hb3 hz3 hz3_0 hz3_1
        go_wp2
        refine bodyPost_ret (v := .tuple #[.agg #[.string ⟨#[]⟩, .int .u64 0, .int .u64 0], .slice (some ⟨w3.heap.size, 0, none⟩) 0 0, .int .i64 1]) (by simp [results, Tryd.results51, go_sem, x0, x1, x2, g0, g1, g2, ne1, ne2, lR0]) rfl ⟨_, by rw [hv.out]; rfl, by rw [hv.out]; first | exact Ow.made0 (by simp) hw.size | exact (((Ow.made0 rfl hw.size).far (p := ⟨w.heap.size + 1, 0, none⟩) (by simp only [Value.ownBlock]; intro h; have := Option.some.inj h; omega) _).far (p := ⟨w.heap.size + 1, 1, none⟩) (by simp only [Value.ownBlock]; intro h; have := Option.some.inj h; omega) _).far (p := ⟨w.heap.size + 1, 2, none⟩) (by simp only [Value.ownBlock]; intro h; have := Option.some.inj h; omega) _, ?_⟩
        (repeat (first | with_reducible exact Ext.refl _ | with_reducible exact hw | with_reducible exact hb9 | with_reducible exact hb8 | with_reducible exact hb7 | with_reducible exact hb6 | with_reducible exact hb5 | with_reducible exact hb4 | with_reducible exact hb3 | with_reducible exact hb2 | with_reducible exact hb1 | with_reducible refine Ext.alloc ?_ _ | with_reducible refine Ext.drew ?_ | ((with_reducible refine Ext.set ?_ ?_ _); focus (dsimp only; omega)) | with_reducible refine Ext.trans ?_ hb9 | with_reducible refine Ext.trans ?_ hb8 | with_reducible refine Ext.trans ?_ hb7 | with_reducible refine Ext.trans ?_ hb6 | with_reducible refine Ext.trans ?_ hb5 | with_reducible refine Ext.trans ?_ hb4 | with_reducible refine Ext.trans ?_ hb3 | with_reducible refine Ext.trans ?_ hb2 | with_reducible refine Ext.trans ?_ hb1 | with_reducible refine Ext.trans ?_ hw))
end Go.Proofs.YtknbebglabpegaaDoor
