/-
  Counting the bits of a word: what math/bits' parallel sum and a plain loop both come to.
-/
import Derived.Test.YtegopgpnjgikeaaGreatDoorL0
set_option linter.unusedVariables false
namespace Go.Proofs.YtegopgpnjgikeaaGreatDoor
open Go.RowKit

/-- How many of the first n bits are set. -/
def pcf : Nat → Nat → Nat
  | 0, _ => 0
  | n + 1, x => x % 2 + pcf n (x / 2)
theorem pcf_zero (n : Nat) : pcf n 0 = 0 := by induction n with
  | zero => rfl
  | succ n ih => simp [pcf, ih]
theorem pcf_le (n x : Nat) : pcf n x ≤ n := by
  induction n generalizing x with
  | zero => simp [pcf]
  | succ n ih => have := ih (x / 2); simp only [pcf]; omega
theorem pcf_add (a n x : Nat) : pcf (a + n) x = pcf a (x % 2 ^ a) + pcf n (x / 2 ^ a) := by
  induction a generalizing x with
  | zero => simp [pcf]
  | succ a ih =>
    rw [show a + 1 + n = (a + n) + 1 by omega]
    simp only [pcf]
    rw [ih, Nat.div_div_eq_div_mul, ← Nat.pow_succ', show x % 2 ^ (a + 1) % 2 = x % 2 by rw [Nat.pow_succ', Nat.mod_mul_right_mod], show x % 2 ^ (a + 1) / 2 = x / 2 % 2 ^ a by rw [Nat.pow_succ', Nat.mod_mul_right_div_self]]
    simp only [Nat.succ_eq_add_one]
    omega
def pat (d : Nat) : Nat → Nat
  | 0 => 0
  | k + 1 => 256 * pat d k + d
theorem and_byte (q p b d : Nat) (hb : b < 256) (hd : d < 256) : (256 * q + b) &&& (256 * p + d) = 256 * (q &&& p) + (b &&& d) := by
  have h1 : ((256 * q + b) &&& (256 * p + d)) / 2 ^ 8 = q &&& p := by
    rw [Nat.and_div_two_pow]; congr 1 <;> omega
  have h2 : ((256 * q + b) &&& (256 * p + d)) % 2 ^ 8 = b &&& d := by
    rw [Nat.and_mod_two_pow]; congr 1 <;> omega
  omega
def sw1 (k x : Nat) : Nat := (x / 2 &&& pat 85 k) + (x &&& pat 85 k)
def sw2 (k x : Nat) : Nat := (x / 4 &&& pat 51 k) + (x &&& pat 51 k)
def sw3 (k x : Nat) : Nat := (x / 16 + x) &&& pat 15 k
theorem t1 : ∀ b, b < 256 → ∀ c, c < 2 → ((c * 128 + b / 2) &&& 85) = (b / 2 &&& 85) ∧ (b / 2 &&& 85) + (b &&& 85) < 256 := by decide +kernel
theorem t2 : ∀ b, b < 256 → ∀ c, c < 4 → ((c * 64 + b / 4) &&& 51) = (b / 4 &&& 51) ∧ (b / 4 &&& 51) + (b &&& 51) ≤ 204 := by decide +kernel
theorem t4 : ∀ b, b < 256 → (sw1 1 b) < 256 ∧ (sw2 1 (sw1 1 b)) % 16 ≤ 4 ∧ (sw2 1 (sw1 1 b)) / 16 ≤ 4 ∧ sw3 1 (sw2 1 (sw1 1 b)) = pcf 8 b := by decide +kernel
theorem t3 : ∀ b, b < 256 → b % 16 ≤ 4 → b / 16 ≤ 4 → ∀ c, c < 5 → ((c * 16 + (b / 16 + b)) &&& 15) = (b / 16 + b) &&& 15 := by decide +kernel
theorem one_pat (d : Nat) : pat d 1 = d := by simp [pat]
theorem sw1_step (k q b : Nat) (hb : b < 256) : sw1 (k + 1) (256 * q + b) = 256 * sw1 k q + sw1 1 b := by
  unfold sw1
  have h := t1 b hb (q % 2) (by omega)
  rw [show (256 * q + b) / 2 = 256 * (q / 2) + (q % 2 * 128 + b / 2) by omega, one_pat]
  simp only [pat]
  rw [and_byte _ _ _ _ (by omega) (by omega), and_byte _ _ _ _ hb (by omega), h.1]
  omega
theorem sw2_step (k q b : Nat) (hb : b < 256) : sw2 (k + 1) (256 * q + b) = 256 * sw2 k q + sw2 1 b := by
  unfold sw2
  have h := t2 b hb (q % 4) (by omega)
  rw [show (256 * q + b) / 4 = 256 * (q / 4) + (q % 4 * 64 + b / 4) by omega, one_pat]
  simp only [pat]
  rw [and_byte _ _ _ _ (by omega) (by omega), and_byte _ _ _ _ hb (by omega), h.1]
  omega
theorem sw3_step (k q b : Nat) (hb : b < 256) (h1 : b % 16 ≤ 4) (h2 : b / 16 ≤ 4) (hq : q % 16 ≤ 4) : sw3 (k + 1) (256 * q + b) = 256 * sw3 k q + sw3 1 b := by
  unfold sw3
  have h := t3 b hb h1 h2 (q % 16) (by omega)
  rw [show (256 * q + b) / 16 + (256 * q + b) = 256 * (q / 16 + q) + (q % 16 * 16 + (b / 16 + b)) by omega, one_pat]
  simp only [pat]
  rw [and_byte _ _ _ _ (by omega) (by omega), h]
/-- The sums of the bytes' bits, byte by byte. -/
def bsum : Nat → Nat → Nat
  | 0, _ => 0
  | k + 1, x => 256 * bsum k (x / 256) + pcf 8 (x % 256)
theorem sw_zero (k : Nat) : sw1 0 0 = 0 ∧ sw2 0 0 = 0 ∧ sw3 0 0 = 0 := by decide
theorem sw_all (k x : Nat) (hx : x < 256 ^ k) : sw3 k (sw2 k (sw1 k x)) = bsum k x ∧ (sw2 k (sw1 k x)) % 16 ≤ 4 := by
  induction k generalizing x with
  | zero =>
    obtain rfl : x = 0 := by simpa using hx
    decide
  | succ k ih =>
    have hb : x % 256 < 256 := by omega
    have h4 := t4 _ hb
    have hq := ih (x / 256) (by rw [Nat.pow_succ] at hx; omega)
    have e : x = 256 * (x / 256) + x % 256 := by omega
    have e1 : sw1 (k + 1) x = 256 * sw1 k (x / 256) + sw1 1 (x % 256) := by rw [← sw1_step k _ _ hb, ← e]
    have e2 : sw2 (k + 1) (sw1 (k + 1) x) = 256 * sw2 k (sw1 k (x / 256)) + sw2 1 (sw1 1 (x % 256)) := by rw [e1, sw2_step k _ _ h4.1]
    have hlt : sw2 1 (sw1 1 (x % 256)) < 256 := by omega
    rw [e2]
    refine ⟨?_, by omega⟩
    rw [sw3_step k _ _ hlt h4.2.1 h4.2.2.1 hq.2, hq.1, h4.2.2.2]
    rfl
theorem pcf64 (x : Nat) : pcf 64 x = pcf 8 (x % 256) + pcf 8 (x / 256 % 256) + pcf 8 (x / 65536 % 256) + pcf 8 (x / 16777216 % 256) + pcf 8 (x / 4294967296 % 256) + pcf 8 (x / 1099511627776 % 256) + pcf 8 (x / 281474976710656 % 256) + pcf 8 (x / 72057594037927936 % 256) := by
  rw [show (64 : Nat) = 8 + (8 + (8 + (8 + (8 + (8 + (8 + (8 + 0))))))) from rfl]
  simp only [pcf_add, Nat.div_div_eq_div_mul, Nat.reducePow, Nat.reduceMul]
  simp only [pcf, Nat.add_zero]
  omega
theorem bsum8 (x : Nat) : bsum 8 x = pcf 8 (x % 256) + 256 * pcf 8 (x / 256 % 256) + 65536 * pcf 8 (x / 65536 % 256) + 16777216 * pcf 8 (x / 16777216 % 256) + 4294967296 * pcf 8 (x / 4294967296 % 256) + 1099511627776 * pcf 8 (x / 1099511627776 % 256) + 281474976710656 * pcf 8 (x / 281474976710656 % 256) + 72057594037927936 * pcf 8 (x / 72057594037927936 % 256) := by
  simp only [bsum, Nat.div_div_eq_div_mul, Nat.reduceMul]
  omega
theorem fin8 (d0 d1 d2 d3 d4 d5 d6 d7 : Nat) (h0 : d0 ≤ 8) (h1 : d1 ≤ 8) (h2 : d2 ≤ 8) (h3 : d3 ≤ 8) (h4 : d4 ≤ 8) (h5 : d5 ≤ 8) (h6 : d6 ≤ 8) (h7 : d7 ≤ 8) (y y1 y2 y3 : Nat)
    (hy : y = d0 + 256 * d1 + 65536 * d2 + 16777216 * d3 + 4294967296 * d4 + 1099511627776 * d5 + 281474976710656 * d6 + 72057594037927936 * d7)
    (hy1 : y1 = (y / 256 + y) % 18446744073709551616) (hy2 : y2 = (y1 / 65536 + y1) % 18446744073709551616) (hy3 : y3 = (y2 / 4294967296 + y2) % 18446744073709551616) :
    y3 % 128 = d0 + d1 + d2 + d3 + d4 + d5 + d6 + d7 := by
  have e1 : y / 256 = d1 + 256 * d2 + 65536 * d3 + 16777216 * d4 + 4294967296 * d5 + 1099511627776 * d6 + 281474976710656 * d7 := by omega
  rw [e1] at hy1
  have e2 : y1 = (d0 + d1) + 256 * (d1 + d2) + 65536 * (d2 + d3) + 16777216 * (d3 + d4) + 4294967296 * (d4 + d5) + 1099511627776 * (d5 + d6) + 281474976710656 * (d6 + d7) + 72057594037927936 * d7 := by omega
  clear hy1 e1 hy
  have e3 : y1 / 65536 = (d2 + d3) + 256 * (d3 + d4) + 65536 * (d4 + d5) + 16777216 * (d5 + d6) + 4294967296 * (d6 + d7) + 1099511627776 * d7 := by omega
  rw [e3] at hy2
  have e4 : y2 = (d0 + d1 + d2 + d3) + 256 * (d1 + d2 + d3 + d4) + 65536 * (d2 + d3 + d4 + d5) + 16777216 * (d3 + d4 + d5 + d6) + 4294967296 * (d4 + d5 + d6 + d7) + 1099511627776 * (d5 + d6 + d7) + 281474976710656 * (d6 + d7) + 72057594037927936 * d7 := by omega
  clear hy2 e3 e2
  have e5 : y2 / 4294967296 = (d4 + d5 + d6 + d7) + 256 * (d5 + d6 + d7) + 65536 * (d6 + d7) + 16777216 * d7 := by omega
  rw [e5] at hy3
  omega
theorem pat85 : pat 85 8 = 6148914691236517205 := by decide
theorem pat51 : pat 51 8 = 3689348814741910323 := by decide
theorem pat15 : pat 15 8 = 1085102592571150095 := by decide
theorem wrapN (n : Nat) : IntKind.u64.wrap (n : Int) = ((n % 18446744073709551616 : Nat) : Int) := by rw [IntKind.wrap_u64]; omega
/-- What the parallel sum's steps come to, each under a name of its own. -/
theorem ones_facts (X : Nat) (h : X < 18446744073709551616) : ∃ A B Y C D Z E V V1 V2 V3 : Int,
    bits .and .u64 ((X : Int) / 2) 6148914691236517205 = A ∧ bits .and .u64 (X : Int) 6148914691236517205 = B ∧ IntKind.u64.wrap (A + B) = Y ∧ 0 ≤ Y ∧
    bits .and .u64 (Y / 4) 3689348814741910323 = C ∧ bits .and .u64 Y 3689348814741910323 = D ∧ IntKind.u64.wrap (C + D) = Z ∧ 0 ≤ Z ∧
    IntKind.u64.wrap (Z / 16 + Z) = E ∧ bits .and .u64 E 1085102592571150095 = V ∧ 0 ≤ V ∧
    IntKind.u64.wrap (V + V / 256) = V1 ∧ 0 ≤ V1 ∧ IntKind.u64.wrap (V1 + V1 / 65536) = V2 ∧ 0 ≤ V2 ∧ IntKind.u64.wrap (V2 + V2 / 4294967296) = V3 ∧ 0 ≤ V3 ∧ V3 % 128 = (pcf 64 X : Nat) := by
  have ha := (sw_all 8 X (by simpa using h)).1
  have l1 : sw1 8 X < 18446744073709551616 := by
    have h1 : X / 2 &&& pat 85 8 ≤ pat 85 8 := Nat.and_le_right
    have h2 : X &&& pat 85 8 ≤ pat 85 8 := Nat.and_le_right
    rw [pat85] at h1 h2
    unfold sw1; rw [pat85]; omega
  have l2 : sw2 8 (sw1 8 X) ≤ 7378697629483820646 := by
    have h1 : sw1 8 X / 4 &&& pat 51 8 ≤ pat 51 8 := Nat.and_le_right
    have h2 : sw1 8 X &&& pat 51 8 ≤ pat 51 8 := Nat.and_le_right
    rw [pat51] at h1 h2
    unfold sw2; rw [pat51]; omega
  have l3 : bsum 8 X ≤ 1085102592571150095 := by
    rw [← ha]
    have h1 : (sw2 8 (sw1 8 X) / 16 + sw2 8 (sw1 8 X)) &&& pat 15 8 ≤ pat 15 8 := Nat.and_le_right
    rw [pat15] at h1
    unfold sw3; rw [pat15]; exact h1
  refine ⟨((X / 2 &&& pat 85 8 : Nat) : Int), ((X &&& pat 85 8 : Nat) : Int), ((sw1 8 X : Nat) : Int), ((sw1 8 X / 4 &&& pat 51 8 : Nat) : Int), ((sw1 8 X &&& pat 51 8 : Nat) : Int), ((sw2 8 (sw1 8 X) : Nat) : Int),
    ((sw2 8 (sw1 8 X) / 16 + sw2 8 (sw1 8 X) : Nat) : Int), ((bsum 8 X : Nat) : Int), (((bsum 8 X / 256 + bsum 8 X) % 18446744073709551616 : Nat) : Int), _, _, ?_, ?_, ?_, by omega, ?_, ?_, ?_, by omega, ?_, ?_, by omega, ?_, by omega, rfl, ?_, rfl, ?_, ?_⟩
  · rw [pat85]; rw [show (X : Int) / 2 = ((X / 2 : Nat) : Int) by omega, show (6148914691236517205 : Int) = ((6148914691236517205 : Nat) : Int) from rfl]; exact u64_and_nat (X / 2) 6148914691236517205 (by omega) (by omega)
  · rw [pat85]; rw [show (6148914691236517205 : Int) = ((6148914691236517205 : Nat) : Int) from rfl]; exact u64_and_nat X 6148914691236517205 (by omega) (by omega)
  · have e : ((X / 2 &&& pat 85 8 : Nat) : Int) + ((X &&& pat 85 8 : Nat) : Int) = ((sw1 8 X : Nat) : Int) := by unfold sw1; omega
    rw [e, wrapN, Nat.mod_eq_of_lt l1]
  · rw [pat51]; rw [show ((sw1 8 X : Nat) : Int) / 4 = ((sw1 8 X / 4 : Nat) : Int) by omega, show (3689348814741910323 : Int) = ((3689348814741910323 : Nat) : Int) from rfl]; exact u64_and_nat (sw1 8 X / 4) 3689348814741910323 (by omega) (by omega)
  · rw [pat51]; rw [show (3689348814741910323 : Int) = ((3689348814741910323 : Nat) : Int) from rfl]; exact u64_and_nat (sw1 8 X) 3689348814741910323 (by omega) (by omega)
  · have e : ((sw1 8 X / 4 &&& pat 51 8 : Nat) : Int) + ((sw1 8 X &&& pat 51 8 : Nat) : Int) = ((sw2 8 (sw1 8 X) : Nat) : Int) := by unfold sw2; omega
    rw [e, wrapN, Nat.mod_eq_of_lt (by omega)]
  · have e : ((sw2 8 (sw1 8 X) : Nat) : Int) / 16 + ((sw2 8 (sw1 8 X) : Nat) : Int) = ((sw2 8 (sw1 8 X) / 16 + sw2 8 (sw1 8 X) : Nat) : Int) := by omega
    rw [e, wrapN, Nat.mod_eq_of_lt (by omega)]
  · rw [← ha]; unfold sw3; rw [pat15]; rw [show (1085102592571150095 : Int) = ((1085102592571150095 : Nat) : Int) from rfl]; exact u64_and_nat (sw2 8 (sw1 8 X) / 16 + sw2 8 (sw1 8 X)) 1085102592571150095 (by omega) (by omega)
  · have e : ((bsum 8 X : Nat) : Int) + ((bsum 8 X : Nat) : Int) / 256 = ((bsum 8 X / 256 + bsum 8 X : Nat) : Int) := by omega
    rw [e, wrapN]
  · rw [IntKind.wrap_u64]; omega
  · rw [IntKind.wrap_u64]; omega
  · have b := fun i => pcf_le 8 i
    have := fin8 _ _ _ _ _ _ _ _ (b (X % 256)) (b (X / 256 % 256)) (b (X / 65536 % 256)) (b (X / 16777216 % 256)) (b (X / 4294967296 % 256)) (b (X / 1099511627776 % 256)) (b (X / 281474976710656 % 256)) (b (X / 72057594037927936 % 256)) (bsum 8 X) _ _ _ (bsum8 X) rfl rfl rfl
    rw [← pcf64] at this
    rw [← this]
    simp only [IntKind.wrap_u64]
    omega
/-- How many bits of a mask are set. -/
def mcount (m : Mask) : Int := ((pcf 64 (m.toNat % 18446744073709551616) + pcf 64 (m.toNat / 18446744073709551616) : Nat) : Int)
theorem mcount_ge (m : Mask) : 0 ≤ mcount m := by unfold mcount; omega
theorem mcount_le (m : Mask) : mcount m ≤ 128 := by
  unfold mcount
  have := pcf_le 64 (m.toNat % 18446744073709551616)
  have := pcf_le 64 (m.toNat / 18446744073709551616)
  omega
/-- The bits of a word. -/
def wcount (x : Int) : Int := (pcf 64 x.toNat : Nat)
theorem wcount_ge (x : Int) : 0 ≤ wcount x := by unfold wcount; omega
theorem wcount_le (x : Int) : wcount x ≤ 64 := by unfold wcount; have := pcf_le 64 x.toNat; omega
theorem wcount_lohi (m : Mask) : wcount (lo m) + wcount (hi m) = mcount m := by
  unfold wcount mcount lo hi
  rw [Int.toNat_natCast, Int.toNat_natCast, Int.natCast_add]
/-- A loop that counts bits: g bits at most are left in y, c have been counted, T is the whole. -/
structure CountRel (g : Nat) (y c T : Int) : Prop where
  lt : y.toNat < 2 ^ g
  le : g ≤ 64
  sum : c + (pcf g y.toNat : Nat) = T
theorem CountRel.start {x : Int} (c : Int) (h : x.toNat < 18446744073709551616) : CountRel 64 x c (c + wcount x) := ⟨by simpa using h, by omega, by unfold wcount; omega⟩
theorem CountRel.cle {g : Nat} {y c T : Int} (h : CountRel g y c T) : c ≤ T := by have := h.sum; omega
theorem CountRel.done {g : Nat} {c T : Int} (h : CountRel g 0 c T) : c = T := by have := h.sum; rw [show (0 : Int).toNat = 0 from rfl, pcf_zero] at this; omega
theorem CountRel.next {g : Nat} {y c T : Int} (h : CountRel g y c T) (hp : 0 < y) : ∃ k, g = k + 1 ∧ CountRel k (y / 2) (c + y % 2) T := by
  cases g with
  | zero => have := h.lt; simp at this; omega
  | succ k =>
    refine ⟨k, rfl, ?_, by have := h.le; omega, ?_⟩
    · have := h.lt; rw [Nat.pow_succ] at this; omega
    · have := h.sum
      simp only [pcf] at this
      rw [show (y / 2).toNat = y.toNat / 2 by omega]
      omega
attribute [irreducible] mcount wcount pcf
end Go.Proofs.YtegopgpnjgikeaaGreatDoor
