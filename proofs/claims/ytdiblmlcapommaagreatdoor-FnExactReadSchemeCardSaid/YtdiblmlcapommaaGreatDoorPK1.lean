/-
  PK1: the texts L0 L1 in one (written by pack.py).
-/
import Derived.WalkKit
import Derived.WalkSpells
import Derived.WalkLawsBesides
import Derived.Below
import Derived.BigQuiet
import Derived.StillTail
import Derived.Deep.LoopGhost
import Derived.Laws.BitsAllLaws
set_option linter.unusedVariables false
namespace Go.Proofs.YtdiblmlcapommaaGreatDoor
open Go.RowKit

/-! ### 1. Masks -/
abbrev Mask := BitVec 128
def lo (m : Mask) : Int := ((m.toNat % 18446744073709551616 : Nat) : Int)
def hi (m : Mask) : Int := ((m.toNat / 18446744073709551616 : Nat) : Int)
theorem lo_ge (m : Mask) : 0 ≤ lo m := by unfold lo; omega
theorem hi_ge (m : Mask) : 0 ≤ hi m := by unfold hi; omega
theorem lo_lt (m : Mask) : lo m < 18446744073709551616 := by unfold lo; omega
theorem hi_lt (m : Mask) : hi m < 18446744073709551616 := by unfold hi; have := m.isLt; omega
theorem lohi_inj {m n : Mask} (h : lo m = lo n) (k : hi m = hi n) : m = n := by
  unfold lo at h; unfold hi at k
  apply BitVec.eq_of_toNat_eq
  omega
theorem lohi_eq (m n : Mask) : (lo m == lo n && hi m == hi n) = (m == n) := by
  rw [Bool.eq_iff_iff]; simp only [Bool.and_eq_true, beq_iff_eq]
  exact ⟨fun h => lohi_inj h.1 h.2, fun h => by rw [h]; exact ⟨rfl, rfl⟩⟩
theorem lo_zero : lo 0 = 0 := rfl
theorem hi_zero : hi 0 = 0 := rfl
/-- The mask of two words. -/
def mof (a b : Int) : Mask := BitVec.ofNat 128 (a.toNat + 18446744073709551616 * b.toNat)
theorem lo_mof {a b : Int} (h0 : 0 ≤ a) (h1 : a < 18446744073709551616) (h2 : 0 ≤ b) (h3 : b < 18446744073709551616) : lo (mof a b) = a := by
  have : a.toNat + 18446744073709551616 * b.toNat < 2 ^ 128 := by omega
  unfold lo mof; rw [BitVec.toNat_ofNat, Nat.mod_eq_of_lt this]; omega
theorem hi_mof {a b : Int} (h0 : 0 ≤ a) (h1 : a < 18446744073709551616) (h2 : 0 ≤ b) (h3 : b < 18446744073709551616) : hi (mof a b) = b := by
  have : a.toNat + 18446744073709551616 * b.toNat < 2 ^ 128 := by omega
  unfold hi mof; rw [BitVec.toNat_ofNat, Nat.mod_eq_of_lt this]; omega
/-- Is it the empty one? -/
def mzero (m : Mask) : Bool := m == 0
theorem lohi_zero (m : Mask) : (lo m == 0 && hi m == 0) = mzero m := by
  have := lohi_eq m 0; rw [lo_zero, hi_zero] at this; exact this
def meqB (m n : Mask) : Bool := m == n
theorem lohi_meq (m n : Mask) : (lo m == lo n && hi m == hi n) = meqB m n := lohi_eq m n
def mmeet (m n : Mask) : Mask := m &&& n
def mjoin (m n : Mask) : Mask := m ||| n
def mless (m n : Mask) : Mask := m &&& ~~~n
def mhas (m : Mask) (h : Int) : Bool := m.getLsbD h.toNat
def mbit (h : Int) : Mask := 1#128 <<< h.toNat
def isMaskB (m : Mask) : Bool := decide (m.toNat < 79228162514264337593543950336)
theorem isMask_eq (m : Mask) : (hi m / 4294967296 == 0) = isMaskB m := by
  unfold isMaskB hi; rw [Bool.eq_iff_iff]; simp; omega

def inB (n a b : Int) : Bool := decide (a ≤ n) && decide (n ≤ b)
def isHoleB (h : Int) : Bool := decide (0 ≤ h) && decide (h < 96)
theorem inB_hole (h : Int) : inB h 0 95 = isHoleB h := by unfold inB isHoleB; congr 1; rw [decide_eq_decide]; omega
def isWearB (t f : Mask) : Bool := isMaskB t && isMaskB f && mzero (mmeet t f)
theorem lo_tb (m : Mask) (i : Nat) : (m.toNat % 18446744073709551616).testBit i = (decide (i < 64) && m.getLsbD i) := by
  rw [show 18446744073709551616 = 2 ^ 64 from rfl, Nat.testBit_mod_two_pow]; rfl
theorem hi_tb (m : Mask) (i : Nat) : (m.toNat / 18446744073709551616).testBit i = m.getLsbD (64 + i) := by
  rw [show 18446744073709551616 = 2 ^ 64 from rfl, Nat.testBit_div_two_pow]
  rw [Nat.add_comm]; rfl
theorem lo_and (m n : Mask) : bits .and .u64 (lo m) (lo n) = lo (mmeet m n) := by
  unfold lo mmeet
  rw [u64_and_nat _ _ (by omega) (by omega)]
  congr 1
  apply Nat.eq_of_testBit_eq
  intro i
  rw [Nat.testBit_and, lo_tb, lo_tb, lo_tb, BitVec.getLsbD_and]
  cases decide (i < 64) <;> simp
theorem hi_and (m n : Mask) : bits .and .u64 (hi m) (hi n) = hi (mmeet m n) := by
  have := m.isLt; have := n.isLt
  unfold hi mmeet
  rw [u64_and_nat _ _ (by omega) (by omega)]
  congr 1
  apply Nat.eq_of_testBit_eq
  intro i
  rw [Nat.testBit_and, hi_tb, hi_tb, hi_tb, BitVec.getLsbD_and]
theorem lo_or (m n : Mask) : bits .or .u64 (lo m) (lo n) = lo (mjoin m n) := by
  unfold lo mjoin
  rw [u64_or_nat _ _ (by omega) (by omega)]
  congr 1
  apply Nat.eq_of_testBit_eq
  intro i
  rw [Nat.testBit_or, lo_tb, lo_tb, lo_tb, BitVec.getLsbD_or]
  cases decide (i < 64) <;> simp
theorem hi_or (m n : Mask) : bits .or .u64 (hi m) (hi n) = hi (mjoin m n) := by
  have := m.isLt; have := n.isLt
  unfold hi mjoin
  rw [u64_or_nat _ _ (by omega) (by omega)]
  congr 1
  apply Nat.eq_of_testBit_eq
  intro i
  rw [Nat.testBit_or, hi_tb, hi_tb, hi_tb, BitVec.getLsbD_or]
theorem lo_andNot (m n : Mask) : bits .andNot .u64 (lo m) (lo n) = lo (mless m n) := by
  unfold lo mless
  rw [u64_andNot_nat _ _ (by omega) (by omega)]
  congr 1
  apply Nat.eq_of_testBit_eq
  intro i
  rw [Nat.testBit_and, lo_tb, lo_tb, show 18446744073709551615 - n.toNat % 18446744073709551616 = 2 ^ 64 - (n.toNat % 18446744073709551616 + 1) by omega, Nat.testBit_two_pow_sub_succ (by omega), lo_tb, BitVec.getLsbD_and, BitVec.getLsbD_not]
  by_cases h : i < 64
  · simp [h, show i < 128 by omega]
  · simp [h]
theorem hi_andNot (m n : Mask) : bits .andNot .u64 (hi m) (hi n) = hi (mless m n) := by
  have := m.isLt; have := n.isLt
  unfold hi mless
  rw [u64_andNot_nat _ _ (by omega) (by omega)]
  congr 1
  apply Nat.eq_of_testBit_eq
  intro i
  rw [Nat.testBit_and, hi_tb, hi_tb, show 18446744073709551615 - n.toNat / 18446744073709551616 = 2 ^ 64 - (n.toNat / 18446744073709551616 + 1) by omega, Nat.testBit_two_pow_sub_succ (by omega), hi_tb, BitVec.getLsbD_and, BitVec.getLsbD_not]
  by_cases h : i < 64
  · simp [h, show 64 + i < 128 by omega]
  · simp [h, show ¬ (64 + i < 128) by omega]
theorem nat_bit1 (a i : Nat) : (a / 2 ^ i) % 2 = (a.testBit i).toNat := by
  rw [Nat.testBit_eq_decide_div_mod_eq]
  rcases Nat.mod_two_eq_zero_or_one (a / 2 ^ i) with h | h <;> simp [h]
theorem int_bit1 (a i : Nat) : ((a : Int) / 2 ^ i) % 2 = ((a.testBit i).toNat : Int) := by
  have := nat_bit1 a i
  have e : ((a : Int) / 2 ^ i) = ((a / 2 ^ i : Nat) : Int) := by simp
  rw [e]; omega
theorem bit_lo (m : Mask) (h : Int) (h0 : 0 ≤ h) (h1 : h < 64) : (lo m / 2 ^ (h % 64).toNat) % 2 = ((mhas m h).toNat : Int) := by
  unfold lo
  rw [show (h % 64).toNat = h.toNat by omega, int_bit1, lo_tb]
  unfold mhas
  simp [show h.toNat < 64 by omega]
theorem bit_hi (m : Mask) (h : Int) (h0 : 64 ≤ h) (h1 : h < 128) : (hi m / 2 ^ (h % 64).toNat) % 2 = ((mhas m h).toNat : Int) := by
  unfold hi
  rw [int_bit1, hi_tb]
  unfold mhas
  rw [show 64 + (h % 64).toNat = h.toNat by omega]
theorem div_pow_ge (a : Int) (n : Nat) (h : 0 ≤ a) : 0 ≤ a / 2 ^ n := Int.ediv_nonneg h (Int.le_of_lt (Int.pow_pos (by omega)))
theorem div_pow_le (a : Int) (n : Nat) (h : 0 ≤ a) : a / 2 ^ n ≤ a := Int.ediv_le_self _ h
theorem and_one (x : Int) (h0 : 0 ≤ x) (h1 : x < 18446744073709551616) : bits .and .u64 x 1 = x % 2 := by
  obtain ⟨n, rfl⟩ := Int.eq_ofNat_of_zero_le h0
  rw [show (1 : Int) = ((1 : Nat) : Int) from rfl, u64_and_nat _ _ (by omega) (by omega), Nat.and_one_is_mod]
  omega
theorem b1 (b : Bool) : (((b.toNat : Nat) : Int) == 1) = b := by cases b <;> rfl
theorem has_lo (m : Mask) (h : Int) (h0 : 0 ≤ h) (h1 : h < 64) : (bits .and .u64 (lo m / 2 ^ (h % 64).toNat) 1 == 1) = mhas m h := by
  have := div_pow_le (lo m) (h % 64).toNat (lo_ge m)
  rw [and_one _ (div_pow_ge _ _ (lo_ge m)) (by have := lo_lt m; omega), bit_lo m h h0 h1, b1]
theorem has_hi (m : Mask) (h : Int) (h0 : 64 ≤ h) (h1 : h < 128) : (bits .and .u64 (hi m / 2 ^ (h % 64).toNat) 1 == 1) = mhas m h := by
  have := div_pow_le (hi m) (h % 64).toNat (hi_ge m)
  rw [and_one _ (div_pow_ge _ _ (hi_ge m)) (by have := hi_lt m; omega), bit_hi m h h0 h1, b1]
theorem lhas_lo (m : Mask) (h : Int) (h0 : 0 ≤ h) (h1 : h < 64) : ((lo m / 2 ^ (h % 64).toNat).tmod 2 == 1) = mhas m h := by
  rw [Int.tmod_eq_emod_of_nonneg (div_pow_ge _ _ (lo_ge m)), bit_lo m h h0 h1, b1]
theorem lhas_hi (m : Mask) (h : Int) (h0 : 64 ≤ h) (h1 : h < 128) : ((hi m / 2 ^ (h % 64).toNat).tmod 2 == 1) = mhas m h := by
  rw [Int.tmod_eq_emod_of_nonneg (div_pow_ge _ _ (hi_ge m)), bit_hi m h h0 h1, b1]
theorem mbit_toNat (h : Int) (h0 : 0 ≤ h) (h1 : h < 128) : (mbit h).toNat = 2 ^ h.toNat := by
  unfold mbit
  rw [BitVec.toNat_shiftLeft, BitVec.toNat_ofNat, Nat.one_mod_eq_one.2 (by decide), Nat.shiftLeft_eq, Nat.one_mul, Nat.mod_eq_of_lt]
  exact Nat.pow_lt_pow_right (by omega) (by omega)
theorem two64 (n : Nat) (h : n < 64) : (2 : Nat) ^ n < 18446744073709551616 := by
  rw [show 18446744073709551616 = 2 ^ 64 from rfl]; exact Nat.pow_lt_pow_right (by omega) h
theorem wrap_bit (h : Int) : IntKind.u64.wrap (2 ^ (h % 64).toNat) = ((2 ^ (h % 64).toNat : Nat) : Int) := by
  have := two64 (h % 64).toNat (by omega)
  have e : ((2 : Int) ^ (h % 64).toNat) = ((2 ^ (h % 64).toNat : Nat) : Int) := by simp
  rw [e]
  generalize (2 ^ (h % 64).toNat : Nat) = q at *
  rw [IntKind.wrap_u64]
  omega
theorem bit_lo_w (h : Int) (h0 : 0 ≤ h) (h1 : h < 64) : IntKind.u64.wrap (2 ^ (h % 64).toNat) = lo (mbit h) := by
  rw [wrap_bit]; unfold lo; rw [mbit_toNat h h0 (by omega), show (h % 64).toNat = h.toNat by omega, Nat.mod_eq_of_lt (two64 _ (by omega))]
theorem bit_lo_z (h : Int) (h0 : 0 ≤ h) (h1 : h < 64) : hi (mbit h) = 0 := by
  unfold hi; rw [mbit_toNat h h0 (by omega), Nat.div_eq_of_lt (two64 _ (by omega))]; rfl
theorem bit_hi_w (h : Int) (h0 : 64 ≤ h) (h1 : h < 128) : IntKind.u64.wrap (2 ^ (h % 64).toNat) = hi (mbit h) := by
  rw [wrap_bit]; unfold hi; rw [mbit_toNat h (by omega) (by omega), show h.toNat = (h % 64).toNat + 64 by omega, Nat.pow_add, Nat.mul_div_cancel _ (by decide)]
theorem bit_hi_z (h : Int) (h0 : 64 ≤ h) (h1 : h < 128) : lo (mbit h) = 0 := by
  unfold lo; rw [mbit_toNat h (by omega) (by omega), show h.toNat = (h % 64).toNat + 64 by omega, Nat.pow_add, show 2 ^ 64 = 18446744073709551616 from rfl, Nat.mul_mod_left]; rfl
theorem or_zero (x : Int) (h0 : 0 ≤ x) (h1 : x < 18446744073709551616) : bits .or .u64 x 0 = x := by
  obtain ⟨n, rfl⟩ := Int.eq_ofNat_of_zero_le h0
  rw [show (0 : Int) = ((0 : Nat) : Int) from rfl, u64_or_nat _ _ (by omega) (by omega), Nat.or_zero]
theorem with_lo (m : Mask) (h : Int) (h0 : 0 ≤ h) (h1 : h < 64) : bits .or .u64 (lo m) (IntKind.u64.wrap (2 ^ (h % 64).toNat)) = lo (mjoin m (mbit h)) := by
  rw [bit_lo_w h h0 h1, lo_or]
theorem with_lo_z (m : Mask) (h : Int) (h0 : 0 ≤ h) (h1 : h < 64) : hi (mjoin m (mbit h)) = hi m := by
  rw [← hi_or, bit_lo_z h h0 h1, or_zero _ (hi_ge m) (hi_lt m)]
theorem with_hi (m : Mask) (h : Int) (h0 : 64 ≤ h) (h1 : h < 128) : bits .or .u64 (hi m) (IntKind.u64.wrap (2 ^ (h % 64).toNat)) = hi (mjoin m (mbit h)) := by
  rw [bit_hi_w h h0 h1, hi_or]
theorem with_hi_z (m : Mask) (h : Int) (h0 : 64 ≤ h) (h1 : h < 128) : lo (mjoin m (mbit h)) = lo m := by
  rw [← lo_or, bit_hi_z h h0 h1, or_zero _ (lo_ge m) (lo_lt m)]

theorem ret_int {k : IntKind} {a b : Int} (h : a = b) : Ending.returned (.int k a) = .returned (.int k b) := by rw [h]
theorem ret_bool {a b : Bool} (h : a = b) : Ending.returned (.bool a) = .returned (.bool b) := by rw [h]
def Hd (p : Prop) : Prop := p
theorem Hd.out {p : Prop} (h : Hd p) : p := h
theorem hd {p : Prop} (h : p) : Hd p := h
/-! ### 2. Worlds that only grow -/
def Ext (w w' : World) : Prop := Below w.heap.size w w'
theorem Ext.refl (w : World) : Ext w w := Below.refl _ _
theorem Ext.trans {a b c : World} (h : Ext a b) (k : Ext b c) : Ext a c := Below.trans h (Below.mono k h.size)
theorem Ext.trans' {a b c : World} (h : Ext a b) {row : Option Nat} (hg : b.grownBy c row) (hr : ∀ k, row = some k → a.heap.size ≤ k) : Ext a c := Below.grown h hg h.size hr
theorem Ext.alloc {a b : World} (h : Ext a b) (o : Obj) : Ext a (b.alloc o) := Below.alloc h h.size o
theorem Ext.drew {a b : World} (h : Ext a b) : Ext a b.drew := Below.drew h
theorem Ext.setCell {a b : World} (h : Ext a b) {p : Addr} (hp : a.heap.size ≤ p.block) (u : Value) : Ext a (b.setCell p u) := Below.setCell h hp u
theorem Ext.set {a b : World} {p : Addr} (hp : a.heap.size ≤ p.block) (h : Ext a b) (u : Value) : Ext a (b.setCell p u) := Below.setCell h hp u
theorem Ext.cell {w w' : World} (h : Ext w w') {a : Addr} {v : Value} (hc : w.cell? a = some v) : w'.cell? a = some v := (Below.cell h (World.block_lt_of_cell? w a hc)).trans hc
theorem bcell {W w1 : World} (hb : Ext W w1) : (∀ b o, b < W.heap.size → w1.cell? ⟨b, o, none⟩ = W.cell? ⟨b, o, none⟩) ∧ (∀ b o, b < W.heap.size → w1.frozen? ⟨b, o, none⟩ = W.frozen? ⟨b, o, none⟩) :=
  ⟨fun b o h => Below.cell hb (p := ⟨b, o, none⟩) h, fun b o h => Below.frozen hb (p := ⟨b, o, none⟩) h⟩
theorem bcell3 {W w1 : World} (hb : Ext W w1) : (∀ b o, b < W.heap.size → w1.cell? ⟨b, o, none⟩ = W.cell? ⟨b, o, none⟩) ∧ (∀ b o, b < W.heap.size → w1.frozen? ⟨b, o, none⟩ = W.frozen? ⟨b, o, none⟩) ∧ W.heap.size ≤ w1.heap.size :=
  ⟨(bcell hb).1, (bcell hb).2, Below.size hb⟩
/-- The worlds that have grown out of one: the class in which a region's operations are told. -/
def ExtOf (w : World) : Type := { w' : World // Ext w w' }
instance (w : World) : Nonempty (ExtOf w) := ⟨⟨w, Ext.refl w⟩⟩
theorem ext_of_class {w w' : World} (h : ∃ x : ExtOf w, w' = x.val) : Ext w w' := by obtain ⟨x, rfl⟩ := h; exact x.2
theorem ExtOf.cell {w : World} (x : ExtOf w) (b o : Nat) (h : b < w.heap.size) : x.val.cell? ⟨b, o, none⟩ = w.cell? ⟨b, o, none⟩ := Below.cell x.2 (p := ⟨b, o, none⟩) h
theorem ExtOf.frozen {w : World} (x : ExtOf w) (b o : Nat) (h : b < w.heap.size) : x.val.frozen? ⟨b, o, none⟩ = w.frozen? ⟨b, o, none⟩ := Below.frozen x.2 (p := ⟨b, o, none⟩) h
theorem Calls.ext_of {P : Program} {f : FuncId} {args : Array Value} {w : World} {x : ExtOf w} {v : Value}
    (h : Calls P f args x.val fun e w' => e = .returned v ∧ Ext x.val w') : Calls P f args x.val fun e w'' => e = .returned v ∧ ∃ y : ExtOf w, w'' = y.val :=
  h.mono fun _ w' ⟨he, hm⟩ => ⟨he, ⟨w', x.2.trans hm⟩, rfl⟩
theorem wp_region_ext {P : Program} {id : Nat} {Q : Exit → Act → World → Prop} {a : Act} {w : World} {l : List Oper} (hm : P.follows .mixedOrders = true) (hB : Region.lexB .any l.toArray = true)
    (h : wpQuiet P l.toArray (fun w' => ∃ x : ExtOf w, w' = x.val) (fun a' => ∀ w', (∃ x : ExtOf w, w' = x.val) → Q .normal a' w') l a) : (Code.region id l.toArray true).wp P Q a w :=
  wp_region_quiet (C := fun w' => ∃ x : ExtOf w, w' = x.val) hm hB ⟨⟨_, (Ext.refl w).drew⟩, rfl⟩ (by simpa using h)

/-! ### 3. A region that draws its order: a quiet head in a class of worlds, then a tail whose order is forced -/
section
variable {P : Program} {ops : Array Oper} {md : Region.Mode} {C : World → Prop}
/-- Whatever order the head's operations come up in: each is quiet, and at the head's end L holds. -/
def HeadQ (P : Program) (md : Region.Mode) (ops : Array Oper) (C : World → Prop) (n : Nat) (L : Array Bool → Act → Prop) : Nat → Array Bool → Act → Prop
  | 0, listed, a => L listed a
  | f + 1, listed, a => Region.ready md ops listed ≠ [] ∧ ∀ i ∈ Region.ready md ops listed, i < n ∧ qOp P ops C i (HeadQ P md ops C n L f (listed.setIfInBounds i true)) a
theorem wpAny_of_headQ {n g : Nat} {L : Array Bool → Act → Prop} {Q' : Exit → Act → World → Prop} (hL : ∀ listed a w, C w → L listed a → wpAny P md ops Q' g listed a w) :
    ∀ (f : Nat) (listed : Array Bool) (a : Act) (w : World), C w → HeadQ P md ops C n L f listed a → wpAny P md ops Q' (f + g) listed a w
  | 0, listed, a, w, hw, h => by rw [Nat.zero_add]; exact hL _ _ _ hw h
  | f + 1, listed, a, w, hw, h => by
    rw [show f + 1 + g = (f + g) + 1 by omega]
    exact ⟨fun h0 => absurd h0 h.1, fun i hi => wpOp_of_qOp hw (fun a' w' hw' h' => wpAny_of_headQ hL f _ a' w' hw' h') (h.2 i hi).2⟩
/-- Each of the first n operations but the last is waited for by a later one of them; each one behind waits for the last of them, or for one behind. -/
def headB (md : Region.Mode) (ops : Array Oper) (n : Nat) : Bool :=
  (List.range (n - 1)).all (fun i => (List.range n).any fun j => decide (i < j) && Region.waitsFor md ops j i) &&
  (List.range ops.size).all fun t => decide (t < n) || Region.waitsFor md ops t (n - 1) || (List.range ops.size).any fun u => decide (n ≤ u) && Region.waitsFor md ops t u
theorem head_last {n : Nat} {listed : Array Bool} (hs : headB md ops n = true) (hn : n < ops.size) (inv : HeadInv md ops n listed) :
    ∀ (d i : Nat), n - i = d → i < n → listed.getD i true = false → listed.getD (n - 1) true = false := by
  intro d
  induction d using Nat.strongRecOn with
  | _ d ih =>
    intro i hd hi hun
    by_cases h1 : i = n - 1
    · rw [← h1]; exact hun
    · simp only [headB, Bool.and_eq_true] at hs
      obtain ⟨j, hj, hj2⟩ := List.any_eq_true.1 (List.all_eq_true.1 hs.1 i (List.mem_range.2 (by omega)))
      have hjn := List.mem_range.1 hj
      simp only [Bool.and_eq_true, decide_eq_true_eq] at hj2
      obtain ⟨oj, hoj, e, he, hb, hon⟩ := Region.waitsFor_spec hj2.2
      cases hl : listed.getD j false with
      | true =>
        have h2 := inv.closed j oj hoj hl e he hb
        rw [hon, getD_both hun] at h2
        cases h2
      | false => exact ih (n - j) (by omega) j rfl hjn (getD_in (by rw [inv.size]; omega) hl)
theorem head_waits {n : Nat} {listed : Array Bool} (hs : headB md ops n = true) (hn : n < ops.size) (inv : HeadInv md ops n listed) (i : Nat) (hi : i < n) (hun : listed.getD i true = false) :
    ∀ t, n ≤ t → t ∉ Region.ready md ops listed := by
  intro t ht hr
  have hlast := head_last hs hn inv _ i rfl hi hun
  obtain ⟨_, ot, hot, hall⟩ := mem_ready.1 hr
  have htl : t < ops.size := (Array.getElem?_eq_some_iff.1 hot).1
  simp only [headB, Bool.and_eq_true] at hs
  have h1 := List.all_eq_true.1 hs.2 t (List.mem_range.2 htl)
  simp only [Bool.or_eq_true, decide_eq_true_eq] at h1
  rcases h1 with (h1 | h1) | h1
  · omega
  · obtain ⟨o', ho', e, he, hb, hon⟩ := Region.waitsFor_spec h1
    obtain rfl : o' = ot := Option.some.inj (ho'.symm.trans hot)
    have h2 := hall e he hb
    rw [hon, getD_both hlast] at h2
    cases h2
  · obtain ⟨u, hu, hu2⟩ := List.any_eq_true.1 h1
    simp only [Bool.and_eq_true, decide_eq_true_eq] at hu2
    obtain ⟨o', ho', e, he, hb, hon⟩ := Region.waitsFor_spec hu2.2
    obtain rfl : o' = ot := Option.some.inj (ho'.symm.trans hot)
    have h2 := hall e he hb
    rw [hon, getD_both (inv.tail u hu2.1 (List.mem_range.1 hu))] at h2
    cases h2
theorem headQ_first {n i : Nat} {oi : Oper} {v : Value} {L : Array Bool → Act → Prop} (hi : ops[i]? = some oi) (hsel : ∀ (j : Nat) (o : Oper) cs b, ops[j]? = some o → o.op ≠ .select cs b)
    (hs : headB md ops n = true) (hn : n < ops.size) (hin : i < n) (hdone : ∀ listed a, L listed a → ∀ j ∈ Region.ready md ops listed, n ≤ j) :
    ∀ (f : Nat) (listed : Array Bool) (a : Act), HeadInv md ops n listed →
      (∀ j oj, ops[j]? = some oj → j ≠ i → listed.getD j true = false → (∀ e ∈ oj.after, Region.binds md e = true → e.on ≠ i) → oi.apart ops oj = true) →
      i ∈ Region.ready md ops listed → YieldsIn P ops C oi v a → HeadQ P md ops C n L f (listed.setIfInBounds i true) (a.put oi.dst v) → HeadQ P md ops C n L (f + 1) listed a := by
  intro f
  induction f with
  | zero =>
    intro listed a inv _ hr hy H
    refine ⟨(fun h => by rw [h] at hr; cases hr), fun j hj => ?_⟩
    have hjn : j < n := Nat.lt_of_not_le fun h => head_waits hs hn inv i hin (mem_ready.1 hr).1 j h hj
    refine ⟨hjn, ?_⟩
    by_cases hji : j = i
    · subst hji; exact hy.qOp hi H
    · have := hdone _ _ H j (ready_mono hj hji); omega
  | succ f ih =>
    intro listed a inv hfree hr hy H
    refine ⟨(fun h => by rw [h] at hr; cases hr), fun j hj => ?_⟩
    have hun := (mem_ready.1 hr).1
    have hjn : j < n := Nat.lt_of_not_le fun h => head_waits hs hn inv i hin hun j h hj
    refine ⟨hjn, ?_⟩
    by_cases hji : j = i
    · subst hji; exact hy.qOp hi H
    · obtain ⟨hjun, oj, hoj, hall⟩ := mem_ready.1 hj
      have hnot : ∀ e ∈ oj.after, Region.binds md e = true → e.on ≠ i := fun e he hb heq => by
        have h1 := hall e he hb
        rw [heq, getD_both hun] at h1
        cases h1
      refine qOp_mono (fun a' h3 => ih _ a' (inv.set hj hjn) (fun k ok hk hki hu hno => hfree k ok hk hki ?_ hno) (ready_mono hr (Ne.symm hji)) h3.1 ?_)
        (qOp_put hoj (hfree j oj hoj hji hjun hnot) (fun cs b => hsel i oi cs b hi) (fun cs b => hsel j oj cs b hoj) hy (H.2 j (ready_mono hj hji)).2)
      · by_cases hjk : j = k
        · subst hjk; exact hjun
        · rwa [getD_set_ne true hjk] at hu
      · rw [Array.setIfInBounds_comm _ _ hji]; exact h3.2
/-- So many operations from number k on may be taken in their order; then g. -/
def lexQ (md : Region.Mode) (ops : Array Oper) (g : Array Bool → Bool) : Nat → Nat → Array Bool → Bool
  | 0, _, listed => g listed
  | f + 1, k, listed => (Region.ready md ops listed).contains k && Region.free md ops listed k && lexQ md ops g f (k + 1) (listed.setIfInBounds k true)
theorem headQ_lex {n : Nat} {g : Array Bool → Bool} {Lq : Act → Prop} (hsel : Region.noSelect ops = true) (hs : headB md ops n = true) (hn : n < ops.size)
    (hg : ∀ listed, g listed = true → ∀ j ∈ Region.ready md ops listed, n ≤ j) :
    ∀ (l : List Oper) (k : Nat) (listed : Array Bool) (a : Act), (∀ j, j < l.length → l[j]? = ops[k + j]?) → k + l.length = n → HeadInv md ops n listed →
    lexQ md ops g l.length k listed = true → wpQuiet P ops C Lq l a → HeadQ P md ops C n (fun listed' a' => g listed' = true ∧ Lq a') l.length listed a
  | [], k, listed, a, _, hk, _, hB, h => ⟨hB, h⟩
  | o :: l, k, listed, a, hl, hk, inv, hB, h => by
    have h0 : ops[k]? = some o := by simpa using (hl 0 (by simp)).symm
    simp only [List.length_cons, lexQ, Bool.and_eq_true] at hB
    obtain ⟨⟨hr, hf⟩, hB'⟩ := hB
    have hkn : k < n := by simp only [List.length_cons] at hk; omega
    have hr' : k ∈ Region.ready md ops listed := by simpa using hr
    obtain ⟨v, hy, hK⟩ := yieldsIn_of_qOp h0 (show qOp P ops C k (wpQuiet P ops C Lq l) a by unfold qOp; simp only [h0]; exact h)
    exact headQ_first h0 (Region.noSelect_spec hsel) hs hn hkn (fun _ _ hL => hg _ hL.1) l.length listed a inv (Region.free_spec h0 hf) hr' hy
      (headQ_lex hsel hs hn hg l (k + 1) _ _ (fun j hj => by have := hl (j + 1) (by simp; omega); simpa [Nat.add_assoc, Nat.add_comm 1 j] using this) (by simp only [List.length_cons] at hk; omega) (inv.set hr' hkn) hB' hK)
/-- Operations that look at no world. -/
def pureOp (o : Oper) : Bool :=
  match o.op with
  | .move _ | .assign _ | .extract _ _ => true
  | _ => false
theorem extract_any {x : Value} {ix : Nat} {w w' : World} {u : Value} (h : (Instr.extract x ix).run P w = .ok u w') : w' = w ∧ ∀ w2, (Instr.extract x ix).run P w2 = .ok u w2 := by
  unfold Instr.extract at *
  cases x with
  | tuple vs =>
    simp only at *
    cases hv : vs[ix]? with
    | none => simp [hv] at h
    | some v =>
      simp only [hv, Sem.run_pure, Result.ok.injEq] at h
      obtain ⟨rfl, rfl⟩ := h
      exact ⟨rfl, fun _ => by simp⟩
  | _ => simp at h
theorem pure_yields {o : Oper} (hp : pureOp o = true) {v : Value} {a : Act} (hC : ∃ w, C w) (h : YieldsIn P ops C o v a) : Yields P ops o v a := by
  obtain ⟨w, hw⟩ := hC
  rcases h with ⟨hq, h⟩ | h
  · refine .inl ⟨hq, fun w2 => ?_⟩
    have h1 := h w hw
    unfold Oper.quietAt at h1
    unfold pureOp at hp
    cases ho : o.op with
    | move x => rw [BigFrame.run_move x ho] at h1 ⊢; simp only [Oper.quietUpon] at h1; rw [h1.2]
    | assign x => rw [BigFrame.run_assign x ho] at h1 ⊢; simp only [Oper.quietUpon] at h1; rw [h1.2]
    | extract t ix =>
      have e : ∀ w3, (execOp a.eval o).run P w3 = ((Instr.extract (a.eval t) ix).run P w3).andThen fun u w' => .ok (.value u) w' := fun w3 => by unfold execOp; rw [ho]; simp
      rw [e] at h1 ⊢
      cases hx : (Instr.extract (a.eval t) ix).run P w with
      | ok u w' =>
        obtain ⟨rfl, hall⟩ := extract_any hx
        rw [hx] at h1
        simp only [Result.andThen_ok, Oper.quietUpon] at h1
        rw [hall w2, Result.andThen_ok, h1.2]
      | halt y w' => rw [hx] at h1; simp [Oper.quietUpon] at h1
    | _ => simp [ho] at hp
  · exact .inr h
theorem pure_lex {Q' : Exit → Act → World → Prop} {g : Array Bool → Bool} {Lq : Act → Prop} {f0 : Nat} (hsel : Region.noSelect ops = true) (hQ : ∀ d v c a w, Q' (.panic c) (Act.put a d v) w → Q' (.panic c) a w)
    (hg : ∀ listed a w, C w → g listed = true → Lq a → wpAny P md ops Q' f0 listed a w) :
    ∀ (l : List Oper) (k : Nat) (listed : Array Bool) (a : Act) (w : World), C w → (∀ j, j < l.length → l[j]? = ops[k + j]?) → l.all pureOp = true →
    lexQ md ops g l.length k listed = true → wpQuiet P ops C Lq l a → wpAny P md ops Q' (l.length + f0) listed a w
  | [], k, listed, a, w, hw, _, _, hB, h => by rw [List.length_nil, Nat.zero_add]; exact hg _ _ _ hw hB h
  | o :: l, k, listed, a, w, hw, hl, hp, hB, h => by
    have h0 : ops[k]? = some o := by simpa using (hl 0 (by simp)).symm
    simp only [List.length_cons, lexQ, Bool.and_eq_true] at hB
    obtain ⟨⟨hr, hf⟩, hB'⟩ := hB
    simp only [List.all_cons, Bool.and_eq_true] at hp
    obtain ⟨v, hy, hK⟩ := yieldsIn_of_qOp h0 (show qOp P ops C k (wpQuiet P ops C Lq l) a by unfold qOp; simp only [h0]; exact h)
    rw [show (o :: l).length + f0 = (l.length + f0) + 1 by simp; omega]
    exact wpAny_first h0 (Region.noSelect_spec hsel) (fun c a w => hQ _ _ c a w) _ listed a w (Region.free_spec h0 hf) (by simpa using hr) (pure_yields hp.1 ⟨w, hw⟩ hy)
      (pure_lex hsel hQ hg l (k + 1) _ _ w hw (fun j hj => by have := hl (j + 1) (by simp; omega); simpa [Nat.add_assoc, Nat.add_comm 1 j] using this) hp.2 hB' hK)
theorem wpQuiet_split {Lq : Act → Prop} : ∀ (l l' : List Oper) (a : Act), wpQuiet P ops C Lq (l ++ l') a → wpQuiet P ops C (wpQuiet P ops C Lq l') l a
  | [], _, _, h => h
  | o :: l, l', a, h => by
    have h' : if Region.wanted o (yielded ops a.tmps) then o.quiet P a C (wpQuiet P ops C Lq (l ++ l')) else wpQuiet P ops C Lq (l ++ l') (a.put o.dst undef) := h
    show if Region.wanted o (yielded ops a.tmps) then o.quiet P a C (wpQuiet P ops C (wpQuiet P ops C Lq l') l) else wpQuiet P ops C (wpQuiet P ops C Lq l') l (a.put o.dst undef)
    split at h'
    · rename_i hw; rw [if_pos hw]; exact Oper.quiet_mono (fun a h => wpQuiet_split l l' a h) h'
    · rename_i hw; rw [if_neg hw]; exact wpQuiet_split l l' _ h'
/-- The first p operations quiet, whatever waits behind them; then up to n such as look at no world; then the rest, in its order. -/
def tailB (md : Region.Mode) (ops : Array Oper) (p n : Nat) : Bool :=
  Region.noSelect ops && decide (p ≤ n) && decide (n < ops.size) && headB md ops p && ((ops.toList.drop p).take (n - p)).all pureOp &&
  lexQ md ops (fun l1 => (Region.ready md ops l1).all (fun j => decide (p ≤ j)) && lexQ md ops (fun l2 => Region.seqB md ops (ops.size - n) n l2) (n - p) p l1) p 0 (Array.replicate ops.size false)
theorem wp_region_tail {id : Nat} {Q : Exit → Act → World → Prop} {a : Act} {w : World} {l : List Oper} (p n : Nat) (hm : P.follows .mixedOrders = true) (hB : tailB .any l.toArray p n = true) (hC : C { w with drawn := w.drawn + 1 })
    (hQ : ∀ d v c a w, Q (.panic c) (Act.put a d v) w → Q (.panic c) a w)
    (h : wpQuiet P l.toArray C (fun a' => ∀ w', C w' → wpList P l.toArray Q (l.drop n) a' w') (l.take n) a) : (Code.region id l.toArray true).wp P Q a w := by
  simp only [tailB, Bool.and_eq_true, decide_eq_true_eq] at hB
  obtain ⟨⟨⟨⟨⟨hsel, hpn⟩, hn⟩, hs⟩, hpure⟩, hlex⟩ := hB
  have hn' : n < l.length := by simpa using hn
  have htl : (l.take p).length = p := by simp; omega
  have hml : ((l.drop p).take (n - p)).length = n - p := by simp; omega
  have hdl : (l.drop n).length = l.toArray.size - n := by simp
  have inv0 : HeadInv .any l.toArray p (Array.replicate l.toArray.size false) :=
    ⟨by simp, (fun j oj _ hl => by rw [getD_replicate_false] at hl; cases hl), fun t _ ht => getD_in (by simpa using ht) (getD_replicate_false _ _)⟩
  have hsplit : l.take n = l.take p ++ (l.drop p).take (n - p) := by rw [← List.take_add]; congr 1; omega
  rw [hsplit] at h
  have H := headQ_lex (md := .any) (g := fun l1 => (Region.ready .any l.toArray l1).all (fun j => decide (p ≤ j)) && lexQ .any l.toArray (fun l2 => Region.seqB .any l.toArray (l.toArray.size - n) n l2) (n - p) p l1)
    hsel hs (by omega) (fun listed hg j hj => by
      simp only [Bool.and_eq_true] at hg
      simpa using List.all_eq_true.1 hg.1 j hj) (l.take p) 0 _ a (fun j hj => by
    have hj' : j < p := by rw [htl] at hj; exact hj
    simp [hj']) (by simpa using htl) inv0 (by rw [htl]; exact hlex) (wpQuiet_split _ _ _ h)
  have H2 := wpAny_of_headQ (Q' := Q) (g := (n - p) + (l.toArray.size - n)) (fun listed a' w' hw' hL => by
    simp only [Bool.and_eq_true] at hL
    have := pure_lex (md := .any) (Q' := Q) (f0 := l.toArray.size - n) (g := fun l2 => Region.seqB .any l.toArray (l.toArray.size - n) n l2) hsel hQ (fun listed2 a2 w2 hw2 hg2 hL2 => by
      have := wpAny_of_seq (md := .any) (Q' := Q) (l.drop n) n listed2 a2 w2 (fun j => by simp [List.getElem?_drop]) (by rw [hdl]; exact hg2) (hL2 w2 hw2)
      rwa [hdl] at this) ((l.drop p).take (n - p)) p listed a' w' hw' (fun j hj => by
        rw [hml] at hj
        simp [hj, List.getElem?_drop]) (by simpa using hpure) (by rw [hml]; exact hL.1.2) hL.2
    rwa [hml] at this) _ _ _ _ hC H
  rw [htl, show p + ((n - p) + (l.toArray.size - n)) = l.toArray.size by omega] at H2
  exact wp_region_any hm H2
end
theorem wp_region_ext_tail {P : Program} {id : Nat} {Q : Exit → Act → World → Prop} {a : Act} {w : World} {l : List Oper} (p n : Nat) (hm : P.follows .mixedOrders = true) (hB : tailB .any l.toArray p n = true)
    (hQ : ∀ d v c a w, Q (.panic c) (Act.put a d v) w → Q (.panic c) a w)
    (h : wpQuiet P l.toArray (fun w' => ∃ x : ExtOf w, w' = x.val) (fun a' => ∀ w', (∃ x : ExtOf w, w' = x.val) → wpList P l.toArray Q (l.drop n) a' w') (l.take n) a) : (Code.region id l.toArray true).wp P Q a w :=
  wp_region_tail p n hm hB ⟨⟨_, (Ext.refl w).drew⟩, rfl⟩ hQ h

end Go.Proofs.YtdiblmlcapommaaGreatDoor
set_option linter.unusedVariables false
namespace Go.Proofs.YtdiblmlcapommaaGreatDoor
open Go.RowKit
section
variable {P : Program} {ops : Array Oper} {md : Region.Mode} {w0 : World}
/-- In every world that has grown out of w0 the operation yields v and leaves a world that has grown out of the one that it got. -/
def YX (P : Program) (ops : Array Oper) (w0 : World) (o : Oper) (v : Value) (a : Act) : Prop :=
  (Region.wanted o (yielded ops a.tmps) = true ∧ ∀ w, Ext w0 w → o.quietAt P a (Ext w) w v) ∨ (Region.wanted o (yielded ops a.tmps) = false ∧ v = undef)
def quietX (P : Program) (w0 : World) (o : Oper) (a : Act) (next : Act → Prop) : Prop := ∃ v, (∀ w, (∃ x : ExtOf w0, w = x.val) → o.quietAt P a (fun w'' => Ext w w'') w v) ∧ next (a.put o.dst v)
def wpX (P : Program) (ops : Array Oper) (w0 : World) (Q : Act → Prop) : List Oper → Act → Prop
  | [], a => Q a
  | o :: rest, a => if Region.wanted o (yielded ops a.tmps) then quietX P w0 o a (wpX P ops w0 Q rest) else wpX P ops w0 Q rest (a.put o.dst undef)
theorem wpX_nil {Q : Act → Prop} {a : Act} (h : Q a) : wpX P ops w0 Q [] a := h
theorem wpX_step {Q : Act → Prop} {a : Act} {o : Oper} {rest : List Oper}
    (h : ∀ K : Act → Prop, (∀ a, wpX P ops w0 Q rest a → K a) → if Region.wanted o (yielded ops a.tmps) then quietX P w0 o a K else K (a.put o.dst undef)) : wpX P ops w0 Q (o :: rest) a :=
  h _ (fun _ h => h)
theorem wpX_cases {Q : Act → Prop} {a : Act} {o : Oper} {rest : List Oper} (h : wpX P ops w0 Q (o :: rest) a) : ∃ v, YX P ops w0 o v a ∧ wpX P ops w0 Q rest (a.put o.dst v) := by
  unfold wpX at h
  split at h
  · rename_i hw
    obtain ⟨v, h1, h2⟩ := h
    exact ⟨v, .inl ⟨hw, fun w hx => h1 w ⟨⟨w, hx⟩, rfl⟩⟩, h2⟩
  · rename_i hw; exact ⟨undef, .inr ⟨by simpa using hw, rfl⟩, h⟩
theorem YX.of_same {o : Oper} {v : Value} {a a' : Act} (hy : YX P ops w0 o v a) (he : execOp a'.eval o = execOp a.eval o) (hw : Region.wanted o (yielded ops a'.tmps) = Region.wanted o (yielded ops a.tmps)) : YX P ops w0 o v a' := by
  unfold YX Oper.quietAt at *
  rw [he, hw]
  exact hy
theorem YX.wpOp {i : Nat} {o : Oper} {v : Value} {a : Act} {w : World} {K : Act → World → Prop} {Q' : Exit → Act → World → Prop} (hi : ops[i]? = some o) (hy : YX P ops w0 o v a) (hw : Ext w0 w) (h : ∀ w', Ext w w' → K (a.put o.dst v) w') : wpOp P ops Q' i K a w := by
  unfold Go.wpOp
  simp only [hi]
  rcases hy with ⟨hq, hv⟩ | ⟨hq, rfl⟩
  · rw [if_pos hq]
    exact .inl (Oper.wp_of_quiet (C := fun w' => w' = w ∨ Ext w w') (K := fun a' => a' = a.put o.dst v) (.inl rfl) (fun a' w' hw' ha' => by
      subst ha'
      rcases hw' with rfl | hw'
      · exact h _ (Ext.refl _)
      · exact h _ hw') ⟨v, fun w2 hw2 => by
        have hx : Ext w0 w2 := by rcases hw2 with rfl | h2; exact hw; exact hw.trans h2
        have h3 := hv w2 hx
        unfold Oper.quietAt at h3 ⊢
        generalize (execOp a.eval o).run P w2 = r at h3 ⊢
        cases r with
        | ok n w3 =>
          cases n <;> simp only [Oper.quietUpon] at h3 ⊢
          case value u => exact h3
          case skip => exact h3
          case enter f args =>
            refine ⟨h3.1, h3.2.mono fun e w4 ⟨he, hw4⟩ => ⟨he, .inr ?_⟩⟩
            rcases hw2 with rfl | h2
            · exact hw4
            · exact h2.trans hw4
        | halt x w3 => simp only [Oper.quietUpon] at h3, rfl⟩)
  · rw [if_neg (by rw [hq]; exact Bool.false_ne_true)]
    exact h _ (Ext.refl _)
/-- What has come up: closed under what it waits for; of what stands behind p at the most number q. -/
structure HI (md : Region.Mode) (ops : Array Oper) (p q : Nat) (listed : Array Bool) : Prop where
  size : listed.size = ops.size
  closed : ∀ j oj, ops[j]? = some oj → listed.getD j false = true → ∀ e ∈ oj.after, Region.binds md e = true → listed.getD e.on false = true
  tail : ∀ t, p ≤ t → t < ops.size → t ≠ q → listed.getD t true = false
theorem HI.set {p q i : Nat} {listed : Array Bool} (inv : HI md ops p q listed) (hi : i ∈ Region.ready md ops listed) (hin : i < p ∨ i = q) : HI md ops p q (listed.setIfInBounds i true) := by
  obtain ⟨_, oi, hoi, hall⟩ := mem_ready.1 hi
  refine ⟨by simp [inv.size], fun j oj hj hl e he hb => ?_, fun t ht ht' hq => by rw [getD_set_ne true (by omega)]; exact inv.tail t ht ht' hq⟩
  by_cases hij : i = j
  · subst hij
    obtain rfl : oj = oi := Option.some.inj (hj.symm.trans hoi)
    exact getD_set_true (hall e he hb)
  · rw [getD_set_ne false hij] at hl
    exact getD_set_true (inv.closed j oj hj hl e he hb)
/-- Each of the first p operations but the last is waited for by a later one of them; each one behind but q waits for the last of them, or for one behind that is not q; none of them waits for q. -/
def floatB (md : Region.Mode) (ops : Array Oper) (p q : Nat) : Bool :=
  (List.range (p - 1)).all (fun i => (List.range p).any fun j => decide (i < j) && Region.waitsFor md ops j i) &&
  ((List.range ops.size).all fun t => decide (t < p) || decide (t = q) || Region.waitsFor md ops t (p - 1) || (List.range ops.size).any fun u => decide (p ≤ u) && decide (u ≠ q) && Region.waitsFor md ops t u) &&
  (List.range p).all fun i => !Region.waitsFor md ops i q
theorem float_last {p q : Nat} {listed : Array Bool} (hs : floatB md ops p q = true) (hn : p < ops.size) (inv : HI md ops p q listed) :
    ∀ (d i : Nat), p - i = d → i < p → listed.getD i true = false → listed.getD (p - 1) true = false := by
  intro d
  induction d using Nat.strongRecOn with
  | _ d ih =>
    intro i hd hi hun
    by_cases h1 : i = p - 1
    · rw [← h1]; exact hun
    · simp only [floatB, Bool.and_eq_true] at hs
      obtain ⟨j, hj, hj2⟩ := List.any_eq_true.1 (List.all_eq_true.1 hs.1.1 i (List.mem_range.2 (by omega)))
      have hjn := List.mem_range.1 hj
      simp only [Bool.and_eq_true, decide_eq_true_eq] at hj2
      obtain ⟨oj, hoj, e, he, hb, hon⟩ := Region.waitsFor_spec hj2.2
      cases hl : listed.getD j false with
      | true =>
        have h2 := inv.closed j oj hoj hl e he hb
        rw [hon, getD_both hun] at h2
        cases h2
      | false => exact ih (p - j) (by omega) j rfl hjn (getD_in (by rw [inv.size]; omega) hl)
theorem float_waits {p q : Nat} {listed : Array Bool} (hs : floatB md ops p q = true) (hn : p < ops.size) (inv : HI md ops p q listed) (i : Nat) (hi : i < p) (hun : listed.getD i true = false) :
    ∀ t, p ≤ t → t ≠ q → t ∉ Region.ready md ops listed := by
  intro t ht htq hr
  have hlast := float_last hs hn inv _ i rfl hi hun
  obtain ⟨_, ot, hot, hall⟩ := mem_ready.1 hr
  have htl : t < ops.size := (Array.getElem?_eq_some_iff.1 hot).1
  simp only [floatB, Bool.and_eq_true] at hs
  have h1 := List.all_eq_true.1 hs.1.2 t (List.mem_range.2 htl)
  simp only [Bool.or_eq_true, decide_eq_true_eq] at h1
  rcases h1 with ((h1 | h1) | h1) | h1
  · omega
  · exact htq h1
  · obtain ⟨o', ho', e, he, hb, hon⟩ := Region.waitsFor_spec h1
    obtain rfl : o' = ot := Option.some.inj (ho'.symm.trans hot)
    have h2 := hall e he hb
    rw [hon, getD_both hlast] at h2
    cases h2
  · obtain ⟨u, hu, hu2⟩ := List.any_eq_true.1 h1
    simp only [Bool.and_eq_true, decide_eq_true_eq] at hu2
    obtain ⟨o', ho', e, he, hb, hon⟩ := Region.waitsFor_spec hu2.2
    obtain rfl : o' = ot := Option.some.inj (ho'.symm.trans hot)
    have h2 := hall e he hb
    rw [hon, getD_both (inv.tail u hu2.1.1 (List.mem_range.1 hu) hu2.1.2)] at h2
    cases h2
def HX (P : Program) (md : Region.Mode) (ops : Array Oper) (w0 : World) (p q : Nat) (L : Array Bool → Act → Prop) : Nat → Array Bool → Act → Prop
  | 0, listed, a => L listed a
  | f + 1, listed, a => (∃ i ∈ Region.ready md ops listed, i < p) ∧ ∀ i ∈ Region.ready md ops listed, i ≠ q → i < p ∧ ∃ o v, ops[i]? = some o ∧ YX P ops w0 o v a ∧ HX P md ops w0 p q L f (listed.setIfInBounds i true) (a.put o.dst v)
theorem HX_first {p q i : Nat} {oi : Oper} {v : Value} {L : Array Bool → Act → Prop} (hi : ops[i]? = some oi) (hsel : ∀ (j : Nat) (o : Oper) cs b, ops[j]? = some o → o.op ≠ .select cs b)
    (hs : floatB md ops p q = true) (hn : p < ops.size) (hin : i < p) (hpq : p ≤ q) (hdone : ∀ listed a, L listed a → ∀ j ∈ Region.ready md ops listed, j = q ∨ p ≤ j) :
    ∀ (f : Nat) (listed : Array Bool) (a : Act), HI md ops p q listed →
      (∀ j oj, ops[j]? = some oj → j ≠ i → listed.getD j true = false → (∀ e ∈ oj.after, Region.binds md e = true → e.on ≠ i) → oi.apart ops oj = true) →
      i ∈ Region.ready md ops listed → YX P ops w0 oi v a → HX P md ops w0 p q L f (listed.setIfInBounds i true) (a.put oi.dst v) → HX P md ops w0 p q L (f + 1) listed a := by
  intro f
  induction f with
  | zero =>
    intro listed a inv _ hr hy H
    refine ⟨⟨i, hr, hin⟩, fun j hj hjq => ?_⟩
    have hjn : j < p := Nat.lt_of_not_le fun h => float_waits hs hn inv i hin (mem_ready.1 hr).1 j h hjq hj
    refine ⟨hjn, ?_⟩
    by_cases hji : j = i
    · subst hji; exact ⟨oi, v, hi, hy, H⟩
    · have := hdone _ _ H j (ready_mono hj hji); omega
  | succ f ih =>
    intro listed a inv hfree hr hy H
    refine ⟨⟨i, hr, hin⟩, fun j hj hjq => ?_⟩
    have hun := (mem_ready.1 hr).1
    have hjn : j < p := Nat.lt_of_not_le fun h => float_waits hs hn inv i hin hun j h hjq hj
    refine ⟨hjn, ?_⟩
    by_cases hji : j = i
    · subst hji; exact ⟨oi, v, hi, hy, H⟩
    · obtain ⟨hjun, oj, hoj, hall⟩ := mem_ready.1 hj
      have hnot : ∀ e ∈ oj.after, Region.binds md e = true → e.on ≠ i := fun e he hb heq => by
        have h1 := hall e he hb
        rw [heq, getD_both hun] at h1
        cases h1
      obtain ⟨h1, h2, h3⟩ := Oper.apart_spec (hfree j oj hoj hji hjun hnot)
      obtain ⟨_, oj', u, hoj', hyj, HJ⟩ := H.2 j (ready_mono hj hji) hjq
      obtain rfl : oj = oj' := Option.some.inj (hoj.symm.trans hoj')
      refine ⟨oj, u, hoj, hyj.of_same (execOp_put oj (fun cs b => hsel j oj cs b hoj) a oi.dst v h1).symm (wanted_put oj a oi.dst v h1).symm, ?_⟩
      refine ih _ _ (inv.set hj (.inl hjn)) (fun k ok hk hki hu hno => hfree k ok hk hki ?_ hno) (ready_mono hr (Ne.symm hji))
        (hy.of_same (execOp_put oi (fun cs b => hsel i oi cs b hi) a oj.dst u h3) (wanted_put oi a oj.dst u h3)) ?_
      · by_cases hjk : j = k
        · subst hjk; exact hjun
        · rwa [getD_set_ne true hjk] at hu
      · rw [Array.setIfInBounds_comm _ _ hji, ← Act.put_comm a v u h2]
        exact HJ
theorem HX_lex {p q : Nat} {g : Array Bool → Bool} {Lq : Act → Prop} (hsel : Region.noSelect ops = true) (hs : floatB md ops p q = true) (hn : p < ops.size) (hpq : p ≤ q)
    (hg : ∀ listed, g listed = true → ∀ j ∈ Region.ready md ops listed, j = q ∨ p ≤ j) :
    ∀ (l : List Oper) (k : Nat) (listed : Array Bool) (a : Act), (∀ j, j < l.length → l[j]? = ops[k + j]?) → k + l.length = p → HI md ops p q listed →
    lexQ md ops g l.length k listed = true → wpX P ops w0 Lq l a → HX P md ops w0 p q (fun listed' a' => g listed' = true ∧ Lq a') l.length listed a
  | [], k, listed, a, _, hk, _, hB, h => ⟨hB, h⟩
  | o :: l, k, listed, a, hl, hk, inv, hB, h => by
    have h0 : ops[k]? = some o := by simpa using (hl 0 (by simp)).symm
    simp only [List.length_cons, lexQ, Bool.and_eq_true] at hB
    obtain ⟨⟨hr, hf⟩, hB'⟩ := hB
    have hkn : k < p := by simp only [List.length_cons] at hk; omega
    have hr' : k ∈ Region.ready md ops listed := by simpa using hr
    obtain ⟨v, hy, hK⟩ := wpX_cases h
    exact HX_first h0 (Region.noSelect_spec hsel) hs hn hkn hpq (fun _ _ hL => hg _ hL.1) l.length listed a inv (Region.free_spec h0 hf) hr' hy
      (HX_lex hsel hs hn hpq hg l (k + 1) _ _ (fun j hj => by have := hl (j + 1) (by simp; omega); simpa [Nat.add_assoc, Nat.add_comm 1 j] using this) (by simp only [List.length_cons] at hk; omega) (inv.set hr' (.inl hkn)) hB' hK)
section
variable {p q d : Nat} {oq : Oper} {z : Array Value} {T : TypeId} {L : Array Bool → Act → Prop} {Q' : Exit → Act → World → Prop} {g : Nat}
/-- Behind the making: block b is there. -/
theorem float_done (hs : floatB md ops p q = true) (hn : p < ops.size) (hpq : p ≤ q) (hsel : Region.noSelect ops = true) (hd : oq.dst = some d)
    (hap : ∀ i oi, i < p → ops[i]? = some oi → oq.apart ops oi = true)
    (hL2 : ∀ listed a w b, Ext w0 w → w0.heap.size ≤ b → w.heap[b]? = some (.cells z T (0, 0)) → L listed a → wpAny P md ops Q' g (listed.setIfInBounds q true) (a.put (some d) (.pointer (some ⟨b, 0, none⟩))) w) :
    ∀ (f : Nat) (listed : Array Bool) (a : Act) (w : World) (b : Nat), Ext w0 w → w0.heap.size ≤ b → w.heap[b]? = some (.cells z T (0, 0)) → HI md ops p q (listed.setIfInBounds q true) → HX P md ops w0 p q L f listed a →
      wpAny P md ops Q' (f + g) (listed.setIfInBounds q true) (a.put (some d) (.pointer (some ⟨b, 0, none⟩))) w
  | 0, listed, a, w, b, hw, hb, hc, inv, h => by rw [Nat.zero_add]; exact hL2 _ _ _ _ hw hb hc h
  | f + 1, listed, a, w, b, hw, hb, hc, inv, h => by
    rw [show f + 1 + g = (f + g) + 1 by omega]
    obtain ⟨⟨i0, hi0, hi0p⟩, hall⟩ := h
    have hr0 : i0 ∈ Region.ready md ops (listed.setIfInBounds q true) := ready_mono hi0 (by omega)
    refine ⟨(fun h0 => by rw [h0] at hr0; cases hr0), fun i hi => ?_⟩
    obtain ⟨hun, oi, hoi, hdep⟩ := mem_ready.1 hi
    have hiq : i ≠ q := fun e => by
      subst e
      have hlt : i < listed.size := by have := inv.size; simp at this; rw [this]; exact (Array.getElem?_eq_some_iff.1 hoi).1
      simp [hlt] at hun
    have hip : i < p := Nat.lt_of_not_le fun hle => float_waits hs hn inv i0 hi0p (mem_ready.1 hr0).1 i hle hiq hi
    have hir : i ∈ Region.ready md ops listed := by
      refine mem_ready.2 ⟨by rwa [getD_set_ne true (Ne.symm hiq)] at hun, oi, hoi, fun e he hb' => ?_⟩
      have h1 := hdep e he hb'
      by_cases heq : e.on = q
      · exfalso
        simp only [floatB, Bool.and_eq_true] at hs
        have h2 := List.all_eq_true.1 hs.2 i (List.mem_range.2 hip)
        have h3 : Region.waitsFor md ops i q = true := by
          unfold Region.waitsFor
          simp only [hoi]
          exact Array.any_eq_true'.2 ⟨e, he, by simp [hb', heq]⟩
        rw [h3] at h2; cases h2
      · rwa [getD_set_ne false (Ne.symm heq)] at h1
    obtain ⟨_, oi', v, hoi', hy, HN⟩ := hall i hir hiq
    obtain rfl : oi = oi' := Option.some.inj (hoi.symm.trans hoi')
    obtain ⟨a1, a2, a3⟩ := Oper.apart_spec (hap i oi hip hoi)
    rw [hd] at a1 a2
    refine YX.wpOp hoi (hy.of_same (execOp_put oi (fun cs b => Region.noSelect_spec hsel i oi cs b hoi) a (some d) _ a1) (wanted_put oi a (some d) _ a1)) hw fun w' hw' => ?_
    have hc' : w'.heap[b]? = some (.cells z T (0, 0)) := (hw'.block b (Array.getElem?_eq_some_iff.1 hc).1).trans hc
    have inv' : HI md ops p q ((listed.setIfInBounds i true).setIfInBounds q true) := by
      rw [Array.setIfInBounds_comm _ _ hiq]; exact inv.set hi (.inl hip)
    have H := float_done hs hn hpq hsel hd hap hL2 f _ _ w' b (hw.trans hw') hb hc' inv' HN
    rw [Array.setIfInBounds_comm _ _ (Ne.symm hiq), Act.put_comm a _ v a2]
    exact H
/-- Ahead of the making. -/
theorem float_pending (hs : floatB md ops p q = true) (hn : p < ops.size) (hpq : p ≤ q) (hsel : Region.noSelect ops = true) (hd : oq.dst = some d) (hq : ops[q]? = some oq) (hqa : oq.after = #[]) (hqg : oq.guard = none)
    (hrun : ∀ (ρ : Operand → Value) (w : World), (execOp ρ oq).run P w = .ok (.value (.pointer (some ⟨w.heap.size, 0, none⟩))) (w.alloc (.cells z T (0, 0))))
    (hap : ∀ i oi, i < p → ops[i]? = some oi → oq.apart ops oi = true)
    (hL1 : ∀ listed a w, Ext w0 w → L listed a → wpAny P md ops Q' (g + 1) listed a w)
    (hL2 : ∀ listed a w b, Ext w0 w → w0.heap.size ≤ b → w.heap[b]? = some (.cells z T (0, 0)) → L listed a → wpAny P md ops Q' g (listed.setIfInBounds q true) (a.put (some d) (.pointer (some ⟨b, 0, none⟩))) w) :
    ∀ (f : Nat) (listed : Array Bool) (a : Act) (w : World), Ext w0 w → HI md ops p q listed → listed.getD q true = false → HX P md ops w0 p q L f listed a → wpAny P md ops Q' (f + (g + 1)) listed a w
  | 0, listed, a, w, hw, inv, hql, h => by rw [Nat.zero_add]; exact hL1 _ _ _ hw h
  | f + 1, listed, a, w, hw, inv, hql, h => by
    rw [show f + 1 + (g + 1) = (f + (g + 1)) + 1 by omega]
    have hqr : q ∈ Region.ready md ops listed := mem_ready.2 ⟨hql, oq, hq, fun e he => by rw [hqa] at he; simp at he⟩
    refine ⟨(fun h0 => by rw [h0] at hqr; cases hqr), fun i hi => ?_⟩
    by_cases hiq : i = q
    · subst hiq
      unfold Go.wpOp
      simp only [hq]
      rw [if_pos (by simp [Region.wanted, hqg])]
      refine .inl ?_
      unfold Oper.wp
      rw [hrun]
      show wpAny P md ops Q' (f + (g + 1)) (listed.setIfInBounds i true) (a.put oq.dst (.pointer (some ⟨w.heap.size, 0, none⟩))) (w.alloc (.cells z T (0, 0)))
      rw [hd]
      show wpAny P md ops Q' (f + (g + 1)) (listed.setIfInBounds i true) (a.put (some d) (.pointer (some ⟨w.heap.size, 0, none⟩))) (w.alloc (.cells z T (0, 0)))
      rw [show f + (g + 1) = (f + 1) + g by omega]
      exact float_done hs hn hpq hsel hd hap hL2 (f + 1) listed a _ _ (hw.alloc _) hw.size (heap_alloc_new w _) (inv.set hqr (.inr rfl)) h
    · obtain ⟨hip, oi, v, hoi, hy, HN⟩ := h.2 i hi hiq
      refine YX.wpOp hoi hy hw fun w' hw' => ?_
      exact float_pending hs hn hpq hsel hd hq hqa hqg hrun hap hL1 hL2 f _ _ w' (hw.trans hw') (inv.set hi (.inl hip)) (by rwa [getD_set_ne true hiq]) HN
end
theorem pureX_yields {o : Oper} (hp : pureOp o = true) {v : Value} {a : Act} (h : YX P ops w0 o v a) : Yields P ops o v a :=
  pure_yields (C := fun w => w = w0) hp ⟨w0, rfl⟩ (by
    rcases h with ⟨hq, h⟩ | h
    · refine .inl ⟨hq, fun w hw => ?_⟩
      subst hw
      have h1 := h w (Ext.refl w)
      unfold Oper.quietAt at h1 ⊢
      unfold pureOp at hp
      cases ho : o.op with
      | move x => rw [BigFrame.run_move x ho] at h1 ⊢; exact h1
      | assign x => rw [BigFrame.run_assign x ho] at h1 ⊢; exact h1
      | extract t ix =>
        have e : ∀ w3, (execOp a.eval o).run P w3 = ((Instr.extract (a.eval t) ix).run P w3).andThen fun u w' => .ok (.value u) w' := fun w3 => by unfold execOp; rw [ho]; simp
        rw [e] at h1 ⊢
        cases hx : (Instr.extract (a.eval t) ix).run P w with
        | ok u w' => rw [hx] at h1; simp only [Result.andThen_ok, Oper.quietUpon] at h1 ⊢; exact h1
        | halt y w' => rw [hx] at h1; simp [Oper.quietUpon] at h1
      | _ => simp [ho] at hp
    · exact .inr h)
theorem pureX_lex {Q' : Exit → Act → World → Prop} {g : Array Bool → Bool} {Lq : Act → Prop} {f0 : Nat} (hsel : Region.noSelect ops = true) (hQ : ∀ d v c a w, Q' (.panic c) (Act.put a d v) w → Q' (.panic c) a w) (d : Option Tmp) (pv : Value) (w : World)
    (hg : ∀ listed a, g listed = true → Lq a → wpAny P md ops Q' f0 listed (a.put d pv) w) :
    ∀ (l : List Oper) (k : Nat) (listed : Array Bool) (a : Act), (∀ j, j < l.length → l[j]? = ops[k + j]?) → l.all pureOp = true → (∀ o ∈ l, (∀ e, d = some e → e ∉ o.looksAt ops) ∧ ∀ e, d = some e → o.dst ≠ some e) →
    lexQ md ops g l.length k listed = true → wpX P ops w0 Lq l a → wpAny P md ops Q' (l.length + f0) listed (a.put d pv) w
  | [], k, listed, a, _, _, _, hB, h => by rw [List.length_nil, Nat.zero_add]; exact hg _ _ hB h
  | o :: l, k, listed, a, hl, hp, hd, hB, h => by
    have h0 : ops[k]? = some o := by simpa using (hl 0 (by simp)).symm
    simp only [List.length_cons, lexQ, Bool.and_eq_true] at hB
    obtain ⟨⟨hr, hf⟩, hB'⟩ := hB
    simp only [List.all_cons, Bool.and_eq_true] at hp
    obtain ⟨v, hy, hK⟩ := wpX_cases h
    obtain ⟨d1, d2⟩ := hd o (List.mem_cons_self ..)
    have hy2 : Yields P ops o v (a.put d pv) := by
      have h1 := pureX_yields hp.1 hy
      unfold Yields at h1 ⊢
      rw [wanted_put o a d pv d1, execOp_put o (fun cs b => Region.noSelect_spec hsel k o cs b h0) a d pv d1]
      exact h1
    rw [show (o :: l).length + f0 = (l.length + f0) + 1 by simp; omega]
    refine wpAny_first h0 (Region.noSelect_spec hsel) (fun c a w => hQ _ _ c a w) _ listed _ w (Region.free_spec h0 hf) (by simpa using hr) hy2 ?_
    rw [Act.put_comm a pv v d2]
    exact pureX_lex hsel hQ d pv w hg l (k + 1) _ _ (fun j hj => by have := hl (j + 1) (by simp; omega); simpa [Nat.add_assoc, Nat.add_comm 1 j] using this) hp.2 (fun o' ho' => hd o' (List.mem_cons_of_mem _ ho')) hB' hK
theorem wpX_split {Lq : Act → Prop} : ∀ (l l' : List Oper) (a : Act), wpX P ops w0 Lq (l ++ l') a → wpX P ops w0 (wpX P ops w0 Lq l') l a
  | [], _, _, h => h
  | o :: l, l', a, h => by
    have h' : if Region.wanted o (yielded ops a.tmps) then quietX P w0 o a (wpX P ops w0 Lq (l ++ l')) else wpX P ops w0 Lq (l ++ l') (a.put o.dst undef) := h
    show if Region.wanted o (yielded ops a.tmps) then quietX P w0 o a (wpX P ops w0 (wpX P ops w0 Lq l') l) else wpX P ops w0 (wpX P ops w0 Lq l') l (a.put o.dst undef)
    split at h'
    · rename_i hw; rw [if_pos hw]; obtain ⟨v, h1, h2⟩ := h'; exact ⟨v, h1, wpX_split l l' _ h2⟩
    · rename_i hw; rw [if_neg hw]; exact wpX_split l l' _ h'
def floatG (md : Region.Mode) (ops : Array Oper) (p q : Nat) (l1 : Array Bool) : Bool :=
  (Region.ready md ops l1).all (fun j => decide (j = q) || decide (p ≤ j)) && lexQ md ops (fun l2 => Region.seqB md ops (ops.size - q) q l2) (q - p) p l1 &&
    lexQ md ops (fun l2 => Region.seqB md ops (ops.size - (q + 1)) (q + 1) l2) (q - p) p (l1.setIfInBounds q true)
/-- Quiet operations up to p, such as look at no world up to q, number q the making of a variable, the rest in its order. -/
def floatTailB (md : Region.Mode) (ops : Array Oper) (p q : Nat) : Bool :=
  Region.noSelect ops && decide (p ≤ q) && decide (q < ops.size) && floatB md ops p q && ((ops.toList.drop p).take (q - p)).all pureOp &&
  ((List.range q).all fun i => match ops[q]?, ops[i]? with | some oq, some oi => oq.apart ops oi | _, _ => false) &&
  lexQ md ops (floatG md ops p q) p 0 (Array.replicate ops.size false)
end
theorem wp_region_float {P : Program} {id : Nat} {Q : Exit → Act → World → Prop} {a : Act} {w : World} {l : List Oper} (p q d : Nat) (oq : Oper) (z : Array Value) (T : TypeId) (hm : P.follows .mixedOrders = true) (hB : floatTailB .any l.toArray p q = true)
    (hq : l[q]? = some oq) (hd : oq.dst = some d) (hqa : oq.after = #[]) (hqg : oq.guard = none)
    (hrun : ∀ (ρ : Operand → Value) (w : World), (execOp ρ oq).run P w = .ok (.value (.pointer (some ⟨w.heap.size, 0, none⟩))) (w.alloc (.cells z T (0, 0))))
    (hQ : ∀ d v c a w, Q (.panic c) (Act.put a d v) w → Q (.panic c) a w)
    (h : wpX P l.toArray w (fun a' => ∀ b w', Ext w w' → w.heap.size ≤ b → w'.heap[b]? = some (.cells z T (0, 0)) → wpList P l.toArray Q (l.drop (q + 1)) (a'.put (some d) (.pointer (some ⟨b, 0, none⟩))) w') (l.take q) a) : (Code.region id l.toArray true).wp P Q a w := by
  simp only [floatTailB, Bool.and_eq_true, decide_eq_true_eq] at hB
  obtain ⟨⟨⟨⟨⟨⟨hsel, hpq⟩, hqs⟩, hs⟩, hpure⟩, hapB⟩, hlex⟩ := hB
  have hqs' : q < l.length := by simpa using hqs
  have hq' : l.toArray[q]? = some oq := by simpa using hq
  have hap : ∀ i oi, i < q → l.toArray[i]? = some oi → oq.apart l.toArray oi = true := fun i oi hi hoi => by
    have h1 := List.all_eq_true.1 hapB i (List.mem_range.2 hi)
    simpa [hq', hoi] using h1
  have htl : (l.take p).length = p := by simp; omega
  have hml : ((l.drop p).take (q - p)).length = q - p := by simp; omega
  have hsplit : l.take q = l.take p ++ (l.drop p).take (q - p) := by rw [← List.take_add]; congr 1; omega
  rw [hsplit] at h
  have inv0 : HI .any l.toArray p q (Array.replicate l.toArray.size false) :=
    ⟨by simp, (fun j oj _ hl => by rw [getD_replicate_false] at hl; cases hl), fun t _ ht _ => getD_in (by simpa using ht) (getD_replicate_false _ _)⟩
  have H := HX_lex (md := .any) (q := q) (g := floatG .any l.toArray p q)
    hsel hs (by omega) hpq (fun listed hg j hj => by
      simp only [floatG, Bool.and_eq_true] at hg
      simpa using List.all_eq_true.1 hg.1.1 j hj) (l.take p) 0 _ a (fun j hj => by
    have hj' : j < p := by rw [htl] at hj; exact hj
    simp [hj']) (by simpa using htl) inv0 (by rw [htl]; exact hlex) (wpX_split _ _ _ h)
  have hdrop : l.drop q = oq :: l.drop (q + 1) := by
    rw [List.drop_eq_getElem_cons hqs']
    congr 1
    exact Option.some.inj ((List.getElem?_eq_getElem hqs').symm.trans hq)
  have hmem : ∀ o ∈ (l.drop p).take (q - p), ∃ i, i < q ∧ l.toArray[i]? = some o := fun o ho => by
    obtain ⟨j, hj, rfl⟩ := List.mem_iff_getElem.1 ho
    rw [hml] at hj
    refine ⟨p + j, by omega, ?_⟩
    simp
  have H2 := float_pending (md := .any) (Q' := Q) (g := (q - p) + (l.toArray.size - (q + 1))) (w0 := w) (z := z) (T := T)
    (L := fun listed' a' => floatG .any l.toArray p q listed' = true ∧ wpX P l.toArray w (fun a' => ∀ b w', Ext w w' → w.heap.size ≤ b → w'.heap[b]? = some (.cells z T (0, 0)) → wpList P l.toArray Q (l.drop (q + 1)) (a'.put (some d) (.pointer (some ⟨b, 0, none⟩))) w') ((l.drop p).take (q - p)) a')
    hs (by omega) hpq hsel hd hq' hqa hqg hrun (fun i oi hi => hap i oi (by omega))
    (fun listed a' w' hw' hL => by
      have hL0 := hL.1
      simp only [floatG, Bool.and_eq_true] at hL0
      have := pureX_lex (md := .any) (Q' := Q) (f0 := l.toArray.size - q) (g := fun l2 => Region.seqB .any l.toArray (l.toArray.size - q) q l2) hsel hQ none undef w' (fun listed2 a2 hg2 hL2 => by
        have hdl : (l.drop q).length = l.toArray.size - q := by simp
        have := wpAny_of_seq (P := P) (ops := l.toArray) (md := .any) (Q' := Q) (l.drop q) q listed2 a2 w' (fun j => by simp [List.getElem?_drop]) (by rw [hdl]; exact hg2) (by
          rw [hdrop]
          unfold wpList
          rw [if_pos (by simp [Region.wanted, hqg])]
          refine .inl ?_
          unfold Oper.wp
          rw [hrun]
          show wpList P l.toArray Q (l.drop (q + 1)) (a2.put oq.dst (.pointer (some ⟨w'.heap.size, 0, none⟩))) (w'.alloc (.cells z T (0, 0)))
          rw [hd]
          exact hL2 _ _ (hw'.alloc _) hw'.size (heap_alloc_new w' _))
        rwa [hdl] at this) ((l.drop p).take (q - p)) p listed a' (fun j hj => by
          rw [hml] at hj
          simp [hj, List.getElem?_drop]) (by simpa using hpure) (fun o _ => ⟨(fun e he => by cases he), (fun e he => by cases he)⟩) (by rw [hml]; exact hL0.1.2) hL.2
      rw [hml] at this
      rw [show (q - p) + (l.toArray.size - (q + 1)) + 1 = (q - p) + (l.toArray.size - q) by omega]
      exact this)
    (fun listed a' w' b hw' hb hc hL => by
      have hL0 := hL.1
      simp only [floatG, Bool.and_eq_true] at hL0
      have := pureX_lex (md := .any) (Q' := Q) (f0 := l.toArray.size - (q + 1)) (g := fun l2 => Region.seqB .any l.toArray (l.toArray.size - (q + 1)) (q + 1) l2) hsel hQ (some d) (.pointer (some ⟨b, 0, none⟩)) w' (fun listed2 a2 hg2 hL2 => by
        have hdl : (l.drop (q + 1)).length = l.toArray.size - (q + 1) := by simp
        have := wpAny_of_seq (P := P) (ops := l.toArray) (md := .any) (Q' := Q) (l.drop (q + 1)) (q + 1) listed2 (a2.put (some d) (.pointer (some ⟨b, 0, none⟩))) w' (fun j => by simp [List.getElem?_drop]) (by rw [hdl]; exact hg2) (hL2 b w' hw' hb hc)
        rwa [hdl] at this) ((l.drop p).take (q - p)) p (listed.setIfInBounds q true) a' (fun j hj => by
          rw [hml] at hj
          simp [hj, List.getElem?_drop]) (by simpa using hpure) (fun o ho => by
          obtain ⟨i, hi, hoi⟩ := hmem o ho
          obtain ⟨a1, a2, _⟩ := Oper.apart_spec (hap i o hi hoi)
          rw [hd] at a1 a2
          exact ⟨a1, a2⟩) (by rw [hml]; exact hL0.2) hL.2
      rwa [hml] at this) p _ a _ (Ext.refl w).drew inv0 (getD_in (by simpa using hqs') (getD_replicate_false _ _)) (by rw [htl] at H; exact H)
  rw [show p + ((q - p) + (l.toArray.size - (q + 1)) + 1) = l.toArray.size by omega] at H2
  exact wp_region_any hm H2
theorem blk_lt {w : World} {b : Nat} {o : Obj} (h : w.heap[b]? = some o) : b < w.heap.size := (Array.getElem?_eq_some_iff.1 h).1
theorem blk_cell {w : World} {b : Nat} {z : Array Value} {T : TypeId} (h : w.heap[b]? = some (.cells z T (0, 0))) (i : Nat) {v : Value} (hv : z[i]? = some v) : w.cell? ⟨b, i, none⟩ = some v := by
  simp [World.cell?, h, hv]
theorem blk_free {w : World} {b : Nat} {z : Array Value} {T : TypeId} (h : w.heap[b]? = some (.cells z T (0, 0))) : ∀ i, w.frozen? ⟨b, i, none⟩ = false := fun i => by simp [World.frozen?, h]
attribute [go_sem] quietX
end Go.Proofs.YtdiblmlcapommaaGreatDoor
