/-
  PK4: the texts C1 E4 O1 O2 L7 E5 in one (written by pack.py).
-/
import Derived.Test.YtdiblmlcapommaaGreatDoorRows
import Derived.Test.YtdiblmlcapommaaGreatDoorPK1
import Derived.Test.YtdiblmlcapommaaGreatDoorPK3
import Derived.ProofKit
import Derived.OpenShut
import Derived.SizedLaws
import Derived.Test.YtdiblmlcapommaaGreatDoorPK2
import Derived.Deep.Slices
set_option linter.unusedVariables false
set_option linter.unusedSimpArgs false
namespace Go.Proofs.YtdiblmlcapommaaGreatDoor
open Go.RowKit

theorem eqA_Mask (d : Nat) (a b c f : Int) (w : World) :
    (Op.equalIn (d + 2) 49 (.agg #[.int .u64 a, .int .u64 b]) (.agg #[.int .u64 c, .int .u64 f])).run Tryz.prog w = .ok (a == c && b == f) w := by
  rw [Op.equalIn]
  simp only [Sem.run_bind, run_underlying Tryz.underlying49, Result.andThen_ok, Std.Legacy.Range.forIn_eq_forIn_range', Std.Legacy.Range.size]
  go_simp
  rw [show List.range' 0 2 = [0, 1] from rfl]
  cases h1 : (a == c) <;> cases h2 : (b == f) <;> go_simp

set_option maxHeartbeats 400000 in
theorem impl_MeetMasks (m n : Mask) (w : World) :
    Calls Tryz.prog 30 #[.agg #[.int .u64 (lo m), .int .u64 (hi m)], .agg #[.int .u64 (lo n), .int .u64 (hi n)]] w fun e w' => e = .returned (.agg #[.int .u64 (lo (mmeet m n)), .int .u64 (hi (mmeet m n))]) ∧ Ext w w' := by
  have e1 := lo_and m n
  have e2 := hi_and m n
  go_enter Tryz.func30, Tryz.ntmps30
  go_wp2
  refine bodyPost_ret (v := .agg #[.int .u64 (lo (mmeet m n)), .int .u64 (hi (mmeet m n))]) (by simp [results, Tryz.results30, go_sem]) rfl ⟨rfl, ?_⟩
  exact (((Ext.refl _).alloc _).alloc _).alloc _

set_option maxHeartbeats 400000 in
theorem impl_JoinMasks (m n : Mask) (w : World) :
    Calls Tryz.prog 32 #[.agg #[.int .u64 (lo m), .int .u64 (hi m)], .agg #[.int .u64 (lo n), .int .u64 (hi n)]] w fun e w' => e = .returned (.agg #[.int .u64 (lo (mjoin m n)), .int .u64 (hi (mjoin m n))]) ∧ Ext w w' := by
  have e1 := lo_or m n
  have e2 := hi_or m n
  go_enter Tryz.func32, Tryz.ntmps32
  go_wp2
  refine bodyPost_ret (v := .agg #[.int .u64 (lo (mjoin m n)), .int .u64 (hi (mjoin m n))]) (by simp [results, Tryz.results32, go_sem]) rfl ⟨rfl, ?_⟩
  exact (((Ext.refl _).alloc _).alloc _).alloc _

set_option maxHeartbeats 400000 in
theorem spec_l01Meet (m n : Mask) (w : World) :
    Calls Tryz.prog 23 #[.agg #[.int .u64 (lo m), .int .u64 (hi m)], .agg #[.int .u64 (lo n), .int .u64 (hi n)]] w fun e w' => e = .returned (.agg #[.int .u64 (lo (mmeet m n)), .int .u64 (hi (mmeet m n))]) ∧ Ext w w' := by
  have e1 := lo_and m n
  have e2 := hi_and m n
  go_enter Tryz.func23, Tryz.ntmps23
  go_wp2
  refine bodyPost_ret (v := .agg #[.int .u64 (lo (mmeet m n)), .int .u64 (hi (mmeet m n))]) (by simp [results, Tryz.results23, go_sem]) rfl ⟨rfl, ?_⟩
  exact (((Ext.refl _).alloc _).alloc _).alloc _

set_option maxHeartbeats 400000 in
theorem spec_l01Join (m n : Mask) (w : World) :
    Calls Tryz.prog 24 #[.agg #[.int .u64 (lo m), .int .u64 (hi m)], .agg #[.int .u64 (lo n), .int .u64 (hi n)]] w fun e w' => e = .returned (.agg #[.int .u64 (lo (mjoin m n)), .int .u64 (hi (mjoin m n))]) ∧ Ext w w' := by
  have e1 := lo_or m n
  have e2 := hi_or m n
  go_enter Tryz.func24, Tryz.ntmps24
  go_wp2
  refine bodyPost_ret (v := .agg #[.int .u64 (lo (mjoin m n)), .int .u64 (hi (mjoin m n))]) (by simp [results, Tryz.results24, go_sem]) rfl ⟨rfl, ?_⟩
  exact (((Ext.refl _).alloc _).alloc _).alloc _

set_option maxHeartbeats 400000 in
theorem spec_l01Bit (h : Int) (h0 : 0 ≤ h) (h1 : h < 128) (w : World) :
    Calls Tryz.prog 38 #[.int .i64 h] w fun e w' => e = .returned (.agg #[.int .u64 (lo (mbit h)), .int .u64 (hi (mbit h))]) ∧ Ext w w' := by
  by_cases hh : h < 64
  · have e0 : h / 64 = 0 := by omega
    have e1 := bit_lo_w h h0 hh
    have e2 := bit_lo_z h h0 hh
    go_enter Tryz.func38, Tryz.ntmps38
    go_wp2
    refine bodyPost_ret (v := .agg #[.int .u64 (lo (mbit h)), .int .u64 0]) (by simp [results, Tryz.results38, go_sem]) rfl ⟨by first | rfl | rw [e2], ?_⟩
    exact (((Ext.refl _).alloc _).alloc _)
  · have e0 : h / 64 = 1 := by omega
    have e1 := bit_hi_w h (by omega) h1
    have e2 := bit_hi_z h (by omega) h1
    go_enter Tryz.func38, Tryz.ntmps38
    go_wp2
    refine bodyPost_ret (v := .agg #[.int .u64 0, .int .u64 (hi (mbit h))]) (by simp [results, Tryz.results38, go_sem]) rfl ⟨by first | rfl | rw [e2], ?_⟩
    exact (((Ext.refl _).alloc _).alloc _)

set_option maxHeartbeats 400000 in
theorem spec_l00In (n a b : Int) (w : World) :
    Calls Tryz.prog 36 #[.int .i64 n, .int .i64 a, .int .i64 b] w fun e w' => e = .returned (.bool (inB n a b)) ∧ Ext w w' := by
  by_cases h0 : a ≤ n
  · have e1 : inB n a b = decide (n ≤ b) := by simp [inB, h0]
    rw [e1]
    clear e1
    go_enter Tryz.func36, Tryz.ntmps36
    go_wp2
    go_ret
    exact ⟨rfl, Ext.refl _⟩
  · have e1 : inB n a b = false := by simp [inB, h0]
    rw [e1]
    clear e1
    go_enter Tryz.func36, Tryz.ntmps36
    go_wp2
    go_ret
    exact ⟨rfl, Ext.refl _⟩
end Go.Proofs.YtdiblmlcapommaaGreatDoor
set_option linter.unusedVariables false
set_option linter.unusedSimpArgs false
set_option maxRecDepth 100000
namespace Go.Proofs.YtdiblmlcapommaaGreatDoor
open Go.RowKit
abbrev plainSet : ByteArray := ⟨#[97, 98, 99, 100, 101, 102, 103, 104, 105, 106, 107, 108, 109, 110, 111, 112, 113, 114, 115, 116, 117, 118, 119, 120, 121, 122, 48, 49, 50, 51, 52, 53, 54, 55, 56, 57]⟩
theorem inS_plain (c : UInt8) : inS plainSet.data.toList c = isPlain c := by
  have h : ∀ n : Fin 256, inS plainSet.data.toList (UInt8.ofNat n.val) = isPlain (UInt8.ofNat n.val) := by decide +kernel
  have := h ⟨c.toNat, c.toNat_lt⟩
  simpa using this
theorem splitC_sizes (s : ByteArray) (h : s.size ≤ 24) (x : ByteArray) (hx : x ∈ splitC 32 s) : x.size ≤ 24 := by
  have key : ∀ (k : Nat) (s : ByteArray), s.size ≤ 24 → ∀ x ∈ Lib.splitB ⟨#[32]⟩ 0 k s, x.size ≤ 24 := by
    intro k
    induction k with
    | zero => intro s hs x hx; simp [Lib.splitB] at hx; subst hx; exact hs
    | succ k ih =>
      intro s hs x hx
      unfold Lib.splitB at hx
      split at hx
      · simp at hx; subst hx; exact hs
      · rcases List.mem_cons.1 hx with rfl | hx
        · have : (s.extract 0 ((Lib.indexB s ⟨#[32]⟩).toNat + 0)).size ≤ s.size := by simp [ByteArray.size_extract]; omega
          omega
        · refine ih _ ?_ x hx
          simp [ByteArray.size_extract]
          omega
  exact key _ s h x hx
end Go.Proofs.YtdiblmlcapommaaGreatDoor
set_option linter.unusedVariables false
set_option maxRecDepth 100000
namespace Go.Proofs.YtdiblmlcapommaaGreatDoor
open Go.ChangeShapes Go.WideShapes Go.ChangeAt Go.RowKit

theorem own : ownKnob Tryz.prog.godebug = none := by kernel_rfl
theorem laidOut : laidOutB Tryz.prog = true := by kernel_rfl
section
variable {H : Type} {enc : TypeId × Value → H} {w : World} {base : Nat} {spare : Nat → Bool} {held : Bool} {fuel : Nat} {cs : List Value} {x : DataW H × List MemPlace}
theorem wf_u64 {n : Int} (h : (Lit.int .u64 n).wf = true) : 0 ≤ n ∧ n < 18446744073709551616 := by
  simp [Lit.wf, IntKind.min, IntKind.max, IntKind.signed, IntKind.bits] at h; omega
theorem cells_arr2 (h : DataW.trod enc Tryz.prog w base spare held fuel 48 cs = some x) : ∃ m : Mask, cs = [.int .u64 (lo m), .int .u64 (hi m)] := by
  obtain ⟨xs, m, rfl, rfl, hl, hx, hi'⟩ := DataW.trod_array Tryz.underlying48 h
  have hc : Tryz.prog.cellsOf 48 = 2 := by kernel_rfl
  have hc1 : Tryz.prog.cellsOf 47 = 1 := by kernel_rfl
  rw [hc] at hl
  rw [hc1] at hi'
  match cs, hl, xs, hx with
  | [c0, c1], _, [x0, x1], _ =>
    have h0 := hi' 0 (by omega)
    have h1 := hi' 1 (by omega)
    simp at h0 h1
    obtain ⟨a, ha, _, wa⟩ := DataW.trod_int Tryz.underlying47 h0
    obtain ⟨b, hb, _, wb⟩ := DataW.trod_int Tryz.underlying47 h1
    simp at ha hb
    subst ha hb
    have w0 := wf_u64 wa
    have w1 := wf_u64 wb
    exact ⟨mof a b, by rw [lo_mof w0.1 w0.2 w1.1 w1.2, hi_mof w0.1 w0.2 w1.1 w1.2]⟩
end
section
variable {H : Type} {enc : TypeId × Value → H} {w : World} {base : Nat} {spare : Nat → Bool} {held : Bool} {r : Reach} {b0 : Nat} {v : Value} {d : DataW H} {p : List MemPlace}
theorem open_arr2 (hv : Value.okWide Tryz.prog w r b0 48 v) (h : DataW.Trod enc Tryz.prog w base spare held 48 v d p) : ∃ m : Mask, v = .agg #[.int .u64 (lo m), .int .u64 (hi m)] := by
  obtain ⟨cs, rfl, hsz⟩ : ∃ cs, v = .agg cs ∧ cs.size = Tryz.prog.cellsOf 48 := by
    simp only [Value.okWide, Tryz.underlying48] at hv
    obtain ⟨cs, h1, h2, _⟩ := hv
    exact ⟨cs, h1, h2⟩
  obtain ⟨fuel, hf⟩ := h
  obtain ⟨m, hm⟩ := cells_arr2 (cs := cs.toList) (by simpa [Value.cells] using hf)
  exact ⟨m, by obtain ⟨l⟩ := cs; simp at hm; rw [hm]⟩
end
end Go.Proofs.YtdiblmlcapommaaGreatDoor
set_option linter.unusedVariables false
set_option maxRecDepth 100000
namespace Go.Proofs.YtdiblmlcapommaaGreatDoor
open Go.ChangeShapes Go.WideShapes Go.ChangeAt Go.RowKit
theorem cell_block {w : World} {a : Addr} {v : Value} (h : w.cell? a = some v) : a.block < w.heap.size := by
  cases h2 : w.heap[a.block]? with
  | none => simp [World.cell?, h2] at h
  | some o => exact (Array.getElem?_eq_some_iff.1 h2).1
theorem open_sliceOk {α : Type} [Inhabited α] (e : Enc α) (ok : α → Prop) {H : Type} {enc : TypeId × Value → H} {P : Program} {w : World} {base : Nat} {spare : Nat → Bool} {held : Bool} {r : Reach} {b0 : Nat} {v : Value} {d : DataW H} {p : List MemPlace} {t E : TypeId}
    (ht : P.underlying t = some (.slice E)) (hsz : P.cellsOf E = e.sz) (hel : ∀ n cs x, DataW.trod enc P w base spare held n E cs = some x → ∃ m : α, cs = e.enc m ∧ ok m)
    (hv : Value.okWide P w r b0 t v) (h : DataW.Trod enc P w base spare held t v d p) : ∃ (A : Option Addr) (xs : List α) (cap : Nat), v = .slice A xs.length cap ∧ xs.length ≤ cap ∧ xs.length ≤ 9223372036854775807 ∧ Rd e w A xs ∧ ∀ x ∈ xs, ok x := by
  obtain ⟨a0, l0, c0, rfl⟩ := okWide_slice ht hv
  obtain ⟨fuel, hf⟩ := h
  rcases Go.Deep.open_slice ht hf with ⟨h1, _⟩ | ⟨a, len, cap, m, n, D, Pl, h1, hb, hl, hm, hmm, _, hx⟩
  · simp [Value.cells] at h1
    obtain ⟨rfl, rfl, rfl⟩ := h1
    exact ⟨none, [], 0, rfl, Nat.le_refl _, by simp, Rd.nil _ _ _, by simp⟩
  · simp [Value.cells] at h1
    obtain ⟨rfl, rfl, rfl⟩ := h1
    have hlm : l0 ≤ m := by rw [hmm]; split <;> omega
    obtain ⟨f, hfx⟩ := Go.Deep.choose_lt (n := l0) (p := fun i (y : α) => w.cells? base (a.add (i * P.cellsOf E)) (P.cellsOf E) = some (e.enc y) ∧ ok y) (fun i hi => by
      obtain ⟨cs', g1, g2⟩ := hx i (by omega)
      obtain ⟨y, rfl, hy⟩ := hel _ _ _ g2
      exact ⟨y, g1, hy⟩)
    have hspot : 0 < l0 → a.spot = none := fun h0 => by
      obtain ⟨_, hlen, hc⟩ := World.cells?_some (hfx 0 h0).1
      have c0' := hc 0 (by rw [hsz]; exact e.pos)
      have hp : 0 < (e.enc (f 0)).length := by rw [e.len]; exact e.pos
      rw [List.getElem?_eq_getElem hp, Nat.zero_mul, show (a.add 0).add 0 = a from rfl] at c0'
      exact World.cell?_spot c0'
    refine ⟨some a, (List.range l0).map f, c0, by simp, by simpa using hl, by unfold maxLen at hm; simp; omega, fun k hk => ?_, fun x hx => by
      obtain ⟨i, hi, rfl⟩ := List.mem_map.1 hx
      exact (hfx i (List.mem_range.1 hi)).2⟩
    have hk' : k < l0 := by simpa using hk
    obtain ⟨_, hlen, hc⟩ := World.cells?_some (hfx k hk').1
    have hxk : ((List.range l0).map f)[k] = f k := by simp
    have c0' := hc 0 (by rw [hsz]; exact e.pos)
    have h0 : 0 < (e.enc (f k)).length := by rw [e.len]; exact e.pos
    rw [List.getElem?_eq_getElem h0] at c0'
    have hsp := hspot (by omega)
    obtain ⟨b, off, spot⟩ := a
    simp only at hsp
    subst hsp
    simp only [Addr.add_lit] at hc c0'
    refine ⟨b, off, rfl, cell_block c0', fun j u hu => ?_⟩
    rw [hxk] at hu
    have hj : j < P.cellsOf E := by rw [hsz, ← e.len (f k)]; exact (List.getElem?_eq_some_iff.1 hu).1
    have := hc j hj
    rw [hu, hsz] at this
    exact this
theorem open_sliceE {α : Type} [Inhabited α] (e : Enc α) {H : Type} {enc : TypeId × Value → H} {P : Program} {w : World} {base : Nat} {spare : Nat → Bool} {held : Bool} {r : Reach} {b0 : Nat} {v : Value} {d : DataW H} {p : List MemPlace} {t E : TypeId}
    (ht : P.underlying t = some (.slice E)) (hsz : P.cellsOf E = e.sz) (hel : ∀ n cs x, DataW.trod enc P w base spare held n E cs = some x → ∃ m : α, cs = e.enc m)
    (hv : Value.okWide P w r b0 t v) (h : DataW.Trod enc P w base spare held t v d p) : ∃ (A : Option Addr) (xs : List α) (cap : Nat), v = .slice A xs.length cap ∧ xs.length ≤ cap ∧ xs.length ≤ 9223372036854775807 ∧ Rd e w A xs := by
  obtain ⟨A, xs, cap, h1, h2, h3, h4, _⟩ := open_sliceOk e (fun _ => True) ht hsz (fun n cs x hx => by obtain ⟨m, hm⟩ := hel n cs x hx; exact ⟨m, hm, trivial⟩) hv h
  exact ⟨A, xs, cap, h1, h2, h3, h4⟩
section
variable {H : Type} {enc : TypeId × Value → H} {P : Program} {w : World} {base : Nat} {spare : Nat → Bool} {held : Bool} {fuel : Nat} {cs : List Value} {x : DataW H × List MemPlace} {t : TypeId}
theorem trod_i64 (ht : P.underlying t = some (.int .i64)) (h : DataW.trod enc P w base spare held fuel t cs = some x) : ∃ n : Int, cs = [.int .i64 n] ∧ -9223372036854775808 ≤ n ∧ n < 9223372036854775808 := by
  obtain ⟨a, ha, _, wa⟩ := DataW.trod_int ht h
  simp [Lit.wf, IntKind.min, IntKind.max, IntKind.signed, IntKind.bits] at wa
  exact ⟨a, ha, by omega, by omega⟩
theorem trod_str (ht : P.underlying t = some .string) (h : DataW.trod enc P w base spare held fuel t cs = some x) : ∃ s : ByteArray, cs = [.string s] ∧ s.size ≤ 9223372036854775807 := by
  obtain ⟨s, hs, _, hm⟩ := DataW.trod_string ht h
  exact ⟨s, hs, by unfold maxLen at hm; omega⟩
end
theorem open_int64 {w : World} {r : Reach} {b0 : Nat} {v : Value} {H : Type} {enc : TypeId × Value → H} {base : Nat} {spare : Nat → Bool} {held : Bool} {d : DataW H} {p : List MemPlace}
    (hv : Value.okWide Tryz.prog w r b0 2 v) (h : DataW.Trod enc Tryz.prog w base spare held 2 v d p) : ∃ n : Int, v = .int .i64 n ∧ -9223372036854775808 ≤ n ∧ n < 9223372036854775808 := by
  obtain ⟨n, rfl⟩ := okWide_int Tryz.underlying2 hv
  obtain ⟨fuel, hf⟩ := h
  obtain ⟨a, ha, _, wa⟩ := DataW.trod_int Tryz.underlying2 hf
  simp [Value.cells] at ha
  subst ha
  simp [Lit.wf, IntKind.min, IntKind.max, IntKind.signed, IntKind.bits] at wa
  exact ⟨n, rfl, by omega, by omega⟩
end Go.Proofs.YtdiblmlcapommaaGreatDoor
set_option linter.unusedVariables false
namespace Go.Proofs.YtdiblmlcapommaaGreatDoor
open Go.RowKit
theorem Rd.take {α : Type} {e : Enc α} {w : World} {A : Option Addr} {xs : List α} (h : Rd e w A xs) (n : Nat) : Rd e w A (xs.take n) := fun k hk => by
  have hk2 : k < xs.length := by rw [List.length_take] at hk; omega
  obtain ⟨b, off, hA, hlt, hc⟩ := h k hk2
  refine ⟨b, off, hA, hlt, fun j u hu => hc j u ?_⟩
  rwa [List.getElem_take] at hu
end Go.Proofs.YtdiblmlcapommaaGreatDoor
set_option linter.unusedVariables false
set_option linter.unusedSimpArgs false
set_option maxRecDepth 100000
namespace Go.Proofs.YtdiblmlcapommaaGreatDoor
open Go.RowKit
theorem Rd.lit2 {W : World} {a b : Int} {t : TypeId} : Rd encI64 (W.alloc (.cells #[.int .i64 a, .int .i64 b] t)) (some ⟨W.heap.size, 0, none⟩) [a, b] := Rd.lit encI64 W [a, b] _ t (by simp) rfl
/-- The first n entries stand well. -/
def standsTo (xs : List Ent) (n : Nat) : Bool := (List.range n).all (standB xs)
theorem standsTo_succ (xs : List Ent) (n : Nat) : standsTo xs (n + 1) = (standsTo xs n && standB xs n) := by
  unfold standsTo
  rw [List.range_succ, List.all_append]
  simp
theorem stands_miss {xs : List Ent} (i : Nat) (hi : i < xs.length) (h : standB xs i = false) : standsB xs = false := by
  unfold standsB
  rw [List.all_eq_false]
  exact ⟨i, List.mem_range.2 hi, by simp [h]⟩
/-- The ways up from the first n entries end. -/
def topsTo (xs : List Ent) (n : Nat) : Bool := (List.range n).all fun i => decide (climb xs xs.length i < 0)
theorem topsTo_succ (xs : List Ent) (n : Nat) (h : topsTo xs n = true) (h2 : climb xs xs.length n < 0) : topsTo xs (n + 1) = true := by
  unfold topsTo at *
  rw [List.range_succ, List.all_append, h]
  simp [h2]
theorem tops_miss {xs : List Ent} (i : Nat) (hi : i < xs.length) (h : 0 ≤ climb xs xs.length i) : topsB xs = false := by
  unfold topsB
  rw [List.all_eq_false]
  exact ⟨i, List.mem_range.2 hi, by simp; omega⟩
end Go.Proofs.YtdiblmlcapommaaGreatDoor
