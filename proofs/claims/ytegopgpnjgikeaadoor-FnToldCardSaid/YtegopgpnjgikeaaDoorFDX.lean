/-
  FDX: the texts WG CN FC0 FC1 A20 DM0 DS0 in one (written by merge.py).
-/
import Derived.Test.YtegopgpnjgikeaaDoorWN
import Derived.Test.YtegopgpnjgikeaaDoorL5
import Derived.Test.YtegopgpnjgikeaaDoorP1
import Derived.Test.YtegopgpnjgikeaaDoorF8
import Derived.Test.YtegopgpnjgikeaaDoorVM
import Derived.Test.YtegopgpnjgikeaaDoorF5
import Derived.Test.YtegopgpnjgikeaaDoorF1
import Derived.Test.YtegopgpnjgikeaaDoorS0
import Derived.OrdersHeld
import Derived.Test.YtegopgpnjgikeaaDoorL8
import Derived.Test.YtegopgpnjgikeaaDoorF18
set_option linter.unusedVariables false
set_option linter.unusedSimpArgs false
set_option maxRecDepth 100000
namespace Go.Proofs.YtegopgpnjgikeaaDoor
open Go.RowKit
theorem Win.grownOut {lo hi : Nat} {w w' w'' : World} {row : Option Nat} (h : Win lo hi w w') (hg : w'.grownBy w'' row) (hr : ∀ k, row = some k → w.heap.size ≤ k) : Win lo hi w w'' :=
  ⟨hg.os.trans h.os, hg.tape.trans h.tape, hg.output.trans h.output, Nat.le_trans h.size hg.size, fun b hb1 hb2 => (hg.block b (Nat.lt_of_lt_of_le hb1 h.size) (fun e => by have := hr b e.symm; omega)).trans (h.block b hb1 hb2)⟩
theorem Rd.grown {α : Type} {e : Enc α} {w w' : World} {A : Option Addr} {xs : List α} (h : Rd e w A xs) {row : Option Nat} (hg : w.grownBy w' row) (hne : ∀ p, A = some p → row ≠ some p.block) : Rd e w' A xs := fun k hk => by
  obtain ⟨b, off, hA, hlt, hc⟩ := h k hk
  exact ⟨b, off, hA, Nat.lt_of_lt_of_le hlt hg.size, fun j u hu => (cell_blockW (hg.block b hlt (fun e => hne _ hA e.symm))).trans (hc j u hu)⟩
theorem BoxAt.grown {w w' : World} {b : Nat} {cs : Array Value} {t : TypeId} (h : BoxAt w b cs t) {row : Option Nat} (hg : w.grownBy w' row) (hne : row ≠ some b) : BoxAt w' b cs t := (hg.block b h.lt (fun e => hne e.symm)).trans h
section
variable {α : Type} {e : Enc α} {xs : List α} {T : TypeId} {base : Nat} {v : Value}
/-- Append of one element, in a world of which nothing else is told. -/
theorem wpList_pushW {P : Program} {ops : Array Oper} {rest : List Oper} {o : Oper} {a : Act} {Q : Exit → Act → World → Prop} (e : Enc α) {W : World} {bk : Nat} (hgd : o.guard = none) (s y : Operand) (t : TypeId) (z : Value) (bytes : Nat)
    (ho : o.op = .call { callee := .builtin .append, args := #[s, y], argTypes := #[t, t] })
    (ht : P.underlying t = some (.slice T)) (hinfo : (P.info? T).map (fun i => (i.zero, i.size, i.bytes)) = some (some z, e.sz, bytes)) (hz : z.cells.size = e.sz)
    (x : α) (hs : a.eval s = v) (hy : a.eval y = .slice (some ⟨bk, 0, none⟩) 1 1) (hbk : bk = W.heap.size) (HO : Ow e T W base v xs) (hbase : base ≤ W.heap.size)
    (hl : (xs.length + 1) * bytes ≤ 140737488355328) (hl2 : xs.length + 1 ≤ 9223372036854775807)
    (h : ∀ v1 w1, Ow e T w1 base v1 (xs ++ [x]) → W.grownBy w1 v.ownBlock → (v1.ownBlock = v.ownBlock ∨ ∃ b, v1.ownBlock = some b ∧ W.heap.size ≤ b) → wpList P ops Q rest (a.put o.dst v1) w1) :
    wpList P ops Q (o :: rest) a (W.alloc (.cells (e.enc x).toArray T)) :=
  wpList_push2 (w0 := { W with heap := #[] }) e hgd s y t z bytes ho ht hinfo hz x hs hy hbk HO hbase (Nat.zero_le _) ⟨rfl, rfl, rfl, Nat.zero_le _, fun b hb => absurd hb (Nat.not_lt_zero b)⟩ hl hl2 (fun v1 w1 h1 _ h3 h4 => h v1 w1 h1 h3 h4)
end
theorem Conv.convBR {G C : Nat → Int → World → Prop} {T : Prop} (ht : ∀ b r W, C b r W → G b r W) (h : (∀ b r W, C b r W → G b r W) → T) : T := h ht
theorem Conv.convR {G C : Int → World → Prop} {T : Prop} (ht : ∀ r W, C r W → G r W) (h : (∀ r W, C r W → G r W) → T) : T := h ht
end Go.Proofs.YtegopgpnjgikeaaDoor
set_option linter.unusedVariables false
set_option linter.unusedSimpArgs false
set_option maxRecDepth 100000
namespace Go.Proofs.YtegopgpnjgikeaaDoor
open Go.RowKit
/-- Of how many numbers below n does p hold? -/
def cnt (p : Nat → Bool) : Nat → Nat
  | 0 => 0
  | n + 1 => cnt p n + if p n = true then 1 else 0
theorem cnt_front (p : Nat → Bool) : ∀ n, cnt p (n + 1) = (if p 0 = true then 1 else 0) + cnt (fun i => p (i + 1)) n
  | 0 => by simp [cnt]
  | n + 1 => by rw [cnt, cnt_front p n, cnt]; omega
theorem cnt_congr {p q : Nat → Bool} : ∀ {n : Nat}, (∀ i, i < n → p i = q i) → cnt p n = cnt q n
  | 0, _ => rfl
  | n + 1, h => by rw [cnt, cnt, cnt_congr (fun i hi => h i (by omega)), h n (by omega)]
theorem cnt_split (p q : Nat → Bool) : ∀ n : Nat, cnt p n = cnt (fun i => p i && q i) n + cnt (fun i => p i && !q i) n
  | 0 => rfl
  | n + 1 => by
    rw [cnt, cnt, cnt, cnt_split p q n]
    cases p n <;> cases q n <;> simp <;> omega
theorem cnt_zero {p : Nat → Bool} : ∀ {n : Nat}, cnt p n = 0 → ∀ i, i < n → p i = false
  | 0, _, i, hi => absurd hi (Nat.not_lt_zero i)
  | n + 1, h, i, hi => by
    rw [cnt] at h
    by_cases hin : i = n
    · subst hin
      cases hp : p i with
      | false => rfl
      | true => rw [hp] at h; simp at h
    · exact cnt_zero (n := n) (by omega) i (by omega)
theorem cnt_none {p : Nat → Bool} : ∀ {n : Nat}, (∀ i, i < n → p i = false) → cnt p n = 0
  | 0, _ => rfl
  | n + 1, h => by rw [cnt, cnt_none (fun i hi => h i (by omega)), h n (by omega)]; rfl
theorem cnt_range (a b : Nat) : ∀ n : Nat, a + b ≤ n → cnt (fun i => decide (a ≤ i ∧ i < a + b)) n = b
  | 0, h => by rw [cnt]; omega
  | n + 1, h => by
    rw [cnt]
    by_cases h2 : a + b ≤ n
    · rw [cnt_range a b n h2, if_neg (by rw [decide_eq_true_eq]; omega)]
      rfl
    · by_cases h3 : b = 0
      · subst h3
        rw [cnt_none (fun i _ => decide_eq_false (by omega)), if_neg (by rw [decide_eq_true_eq]; omega)]
      · obtain ⟨c, rfl⟩ : ∃ c, b = c + 1 := ⟨b - 1, by omega⟩
        have e : cnt (fun i => decide (a ≤ i ∧ i < a + (c + 1))) n = cnt (fun i => decide (a ≤ i ∧ i < a + c)) n := cnt_congr (fun i hi => by rw [decide_eq_decide]; omega)
        rw [e, cnt_range a c n (by omega), if_pos (by rw [decide_eq_true_eq]; omega)]
theorem pcf_cnt : ∀ (n x : Nat), pcf n x = cnt (fun i => x.testBit i) n
  | 0, x => by rw [pcf, cnt]
  | n + 1, x => by
    rw [pcf, cnt_front, pcf_cnt n (x / 2)]
    have e : cnt (fun i => (x / 2).testBit i) n = cnt (fun i => x.testBit (i + 1)) n := cnt_congr (fun i _ => by rw [Nat.testBit_succ])
    rw [e, Nat.testBit_zero]
    rcases Nat.mod_two_eq_zero_or_one x with h | h <;> rw [h] <;> rfl
theorem mcount_cnt (m : Mask) : mcount m = (cnt (fun i => mhas m i) 128 : Nat) := by
  unfold mcount
  rw [← pcf_add 64 64 m.toNat, pcf_cnt]
  rfl
theorem mcount_split (a b : Mask) : mcount a = mcount (mmeet a b) + mcount (mless a b) := by
  rw [mcount_cnt, mcount_cnt, mcount_cnt, cnt_split _ (fun i => mhas b i)]
  rw [cnt_congr (p := fun i => mhas (mmeet a b) i) (q := fun i => mhas a i && mhas b i) (fun i hi => mhas_and a b i), cnt_congr (p := fun i => mhas (mless a b) i) (q := fun i => mhas a i && !mhas b i) (fun i hi => mhas_less a b i hi)]
  omega
theorem mmeet_comm (a b : Mask) : mmeet a b = mmeet b a := by unfold mmeet; exact BitVec.and_comm _ _
theorem mcount_none {m : Mask} : mcount m = 0 ↔ m = 0 := by
  rw [mcount_cnt]
  constructor
  · intro h
    exact mask_ext fun i hi => by rw [cnt_zero (p := fun i => mhas m i) (by omega) i hi]; simp [mhas]
  · intro h
    subst h
    rw [cnt_none (fun i _ => by simp [mhas])]
    rfl
theorem less_eq_zero {a b : Mask} (h1 : mless a b = 0) (h2 : mless b a = 0) : a = b := mask_ext fun i hi => by
  have e1 := congrArg (fun m => mhas m i) h1
  have e2 := congrArg (fun m => mhas m i) h2
  simp only [mhas_less _ _ _ hi] at e1 e2
  have e0 : mhas (0 : Mask) i = false := by simp [mhas]
  rw [e0] at e1 e2
  cases ha : mhas a i <;> cases hb : mhas b i <;> rw [ha, hb] at e1 e2 <;> first | rfl | (exfalso; revert e1; decide) | (exfalso; revert e2; decide)
theorem distM_zero {a b : Mask} : distM a b = 0 ↔ a = b := by
  unfold distM
  have g1 := mcount_ge (mless a b)
  have g2 := mcount_ge (mless b a)
  constructor
  · intro h
    exact less_eq_zero (mcount_none.1 (by omega)) (mcount_none.1 (by omega))
  · rintro rfl
    have : mless a a = 0 := mask_ext fun i hi => by rw [mhas_less _ _ _ hi]; simp [mhas]
    rw [this, mcount_none.2 rfl]
    rfl
theorem distM_comm (a b : Mask) : distM a b = distM b a := by unfold distM; omega
/-- Masks of like parity differ in an even number of holes. -/
theorem distM_even {a b : Mask} (h : mcount a % 2 = mcount b % 2) : distM a b % 2 = 0 := by
  unfold distM
  have h1 := mcount_split a b
  have h2 := mcount_split b a
  rw [mmeet_comm b a] at h2
  omega
/-- Of two masks with as many holes none is within the other one, unless they are the same. -/
theorem within_same {a b : Mask} (h : mcount a = mcount b) (hw : mless a b = 0) : a = b := by
  have h1 := mcount_split a b
  have h2 := mcount_split b a
  rw [mmeet_comm b a] at h2
  have h3 := mcount_none.2 hw
  exact less_eq_zero hw (mcount_none.1 (by omega))
end Go.Proofs.YtegopgpnjgikeaaDoor
set_option linter.unusedVariables false
set_option linter.unusedSimpArgs false
set_option maxRecDepth 100000
namespace Go.Proofs.YtegopgpnjgikeaaDoor
open Go.RowKit
theorem pcf_fit {n k x : Nat} (hk : k ≤ n) (hx : x < 2 ^ k) : pcf n x = pcf k x := by
  obtain ⟨j, rfl⟩ : ∃ j, n = k + j := ⟨n - k, by omega⟩
  rw [pcf_add, Nat.mod_eq_of_lt hx, Nat.div_eq_of_lt hx, pcf_zero, Nat.add_zero]
theorem mcount_pcf (m : Mask) : mcount m = (pcf 128 m.toNat : Nat) := by
  unfold mcount
  rw [← pcf_add 64 64 m.toNat]
theorem shl_nat {m : Mask} {s k : Nat} (hm : m.toNat < 2 ^ k) (hs : k + s ≤ 128) : (m <<< s).toNat = m.toNat * 2 ^ s := by
  rw [BitVec.toNat_shiftLeft, Nat.shiftLeft_eq, Nat.mod_eq_of_lt]
  refine Nat.lt_of_lt_of_le ((Nat.mul_lt_mul_right (Nat.two_pow_pos s)).2 hm) ?_
  rw [← Nat.pow_add]
  exact Nat.pow_le_pow_right (by decide) hs
theorem mcount_shl {m : Mask} {s k : Nat} (hm : m.toNat < 2 ^ k) (hs : k + s ≤ 128) : mcount (m <<< s) = mcount m := by
  rw [mcount_pcf, mcount_pcf, shl_nat hm hs]
  have key : ∀ x : Nat, x < 2 ^ k → pcf 128 (x * 2 ^ s) = pcf 128 x := by
    intro x hx
    have e := pcf_add s (128 - s) (x * 2 ^ s)
    rw [show s + (128 - s) = 128 by omega, Nat.mul_mod_left, Nat.mul_div_cancel _ (Nat.two_pow_pos s), pcf_zero, Nat.zero_add] at e
    rw [e, pcf_fit (n := 128 - s) (k := k) (by omega) hx, pcf_fit (n := 128) (k := k) (by omega) hx]
  rw [key _ hm]
theorem mbit_shl (s k : Nat) : mbit ((s : Int) + k) = mbit k <<< s := by
  unfold mbit
  rw [show ((s : Int) + k).toNat = k + s by omega, Int.toNat_natCast, BitVec.shiftLeft_add]
theorem mjoin_shl (a b : Mask) (s : Nat) : mjoin (a <<< s) (b <<< s) = (mjoin a b) <<< s := by unfold mjoin; exact (BitVec.shiftLeft_or_distrib _ _ _).symm
theorem mzero_shl (s : Nat) : (0 : Mask) <<< s = 0 := by simp
theorem orTo_shl {g g' : Nat → Mask} {s : Nat} (h : ∀ k, g k = g' k <<< s) : ∀ n, orTo g n = orTo g' n <<< s
  | 0 => (mzero_shl s).symm
  | n + 1 => by rw [orTo, orTo, orTo_shl h n, h n, mjoin_shl]
theorem notch_shl (s holes b : Int) (t : Nat) (hs : s = t) : ∀ n : Nat, notchTo 0 s holes b n = notchTo 0 0 holes b n <<< t
  | 0 => (mzero_shl t).symm
  | n + 1 => by
    rw [notchTo, notchTo, notch_shl s holes b t hs n, hs, mbit_shl, mjoin_shl, show mbit (0 + (n : Int)) = mbit n by rw [Int.zero_add]]
    split <;> rfl
theorem mwith_shl (t : Nat) : ∀ (L : List Int) (m : Mask), (∀ x ∈ L, 0 ≤ x) → mwith (m <<< t) (L.map ((t : Int) + ·)) = mwith m L <<< t
  | [], m, _ => rfl
  | x :: L, m, h => by
    have hx := h x List.mem_cons_self
    obtain ⟨k, rfl⟩ := Int.eq_ofNat_of_zero_le hx
    rw [List.map_cons, mwith_cons, mwith_cons, mbit_shl, mjoin_shl, mwith_shl t L _ (fun y hy => h y (List.mem_cons_of_mem _ hy))]
theorem digP_shl (kd d : Int) (t o : Nat) : digP kd ((t : Int) + o) d = digP kd o d <<< t := by
  unfold digP
  have h := mwith_shl t ((digL kd d).map ((o : Int) + ·)) 0 (fun x hx => by
    obtain ⟨y, hy, rfl⟩ := List.mem_map.1 hx
    have := (digL_small kd d y hy).1
    omega)
  rw [mzero_shl, List.map_map] at h
  rw [← h]
  congr 1
  refine List.map_congr_left fun y _ => ?_
  show (t : Int) + o + y = t + (o + y)
  omega
theorem low_nat {m : Mask} {n : Nat} (h : ∀ i : Nat, mhas m i = true → i < n) : m.toNat < 2 ^ n :=
  Nat.lt_pow_two_of_testBit _ (fun i hi => by
    cases hb : m.toNat.testBit i with
    | false => rfl
    | true => have := h i hb; omega)
theorem notch_low (holes b : Int) : ∀ n : Nat, n ≤ 100 → ∀ i : Nat, mhas (notchTo 0 0 holes b n) i = true → i < n
  | 0, _, i, h => by simp [notchTo, mhas] at h
  | n + 1, hn, i, h => by
    rw [notchTo] at h
    split at h
    · rw [mhas_or, Bool.or_eq_true] at h
      rcases h with h | h
      · have := notch_low holes b n (by omega) i h; omega
      · rw [Int.zero_add, mhas_bit n i (by omega), decide_eq_true_eq] at h
        omega
    · have := notch_low holes b n (by omega) i h; omega
/-- A code is that of the field's shape, moved to its place. -/
theorem code_shl {f : Fld} (hf : fldB f = true) (v : Int) (v0 : 0 ≤ v) : codeF f v = codeF ⟨⟨#[]⟩, f.kd, 0, f.sz⟩ v <<< f.st.toNat := by
  obtain ⟨_, k0, k3, s0, z1, zm, h96⟩ := fldB_parts hf
  obtain ⟨nm, kd, st, sz⟩ := f
  dsimp only at *
  obtain ⟨t, rfl⟩ := Int.eq_ofNat_of_zero_le s0
  obtain ⟨u, rfl⟩ := Int.eq_ofNat_of_zero_le v0
  have hn := manyF_bd kd sz z1 (by unfold mostSz at zm; split at zm <;> (try split at zm) <;> omega)
  unfold codeF
  dsimp only
  rw [Int.toNat_natCast]
  split
  · rw [mbit_shl, Int.zero_add]
  · split
    · rename_i h0 h3
      subst h3
      rw [manyF3] at h96 hn
      have hz : sz.toNat ≤ 95 := by omega
      have e := notch_shl t sz u t rfl sz.toNat
      have hl := low_nat (notch_low sz u sz.toNat (by omega))
      have e2 : mbit ((t : Int) + sz) = mbit (0 + sz) <<< t := by
        obtain ⟨k, rfl⟩ := Int.eq_ofNat_of_zero_le (show 0 ≤ sz by omega)
        rw [mbit_shl, Int.zero_add]
      unfold binF
      rw [e, mcount_shl hl (by omega), e2, mjoin_shl]
      split <;> rfl
    · refine orTo_shl (fun k => ?_) _
      unfold digG
      have hw : 0 ≤ digW kd := by unfold digW; split <;> omega
      obtain ⟨q, hq⟩ := Int.eq_ofNat_of_zero_le hw
      rw [hq, show (t : Int) + (q : Int) * k = (t : Int) + ((q * k : Nat) : Int) by rw [Int.natCast_mul], show (0 : Int) + (q : Int) * k = ((q * k : Nat) : Int) by rw [Int.natCast_mul, Int.zero_add], digP_shl]
theorem range_has (t : Nat) : ∀ (n : Nat) (i : Nat), t + n ≤ 128 → mhas (orTo (fun k => mbit ((t : Int) + k)) n) i = decide (t ≤ i ∧ i < t + n)
  | 0, i, _ => by rw [orTo, decide_eq_false (by omega)]; simp [mhas]
  | n + 1, i, h => by
    rw [orTo, mhas_or, range_has t n i (by omega), show (t : Int) + n = ((t + n : Nat) : Int) by omega, mhas_bit _ _ (by omega), Bool.eq_iff_iff, Bool.or_eq_true, decide_eq_true_eq, decide_eq_true_eq, decide_eq_true_eq]
    omega
/-- The holes of a field. -/
theorem part_has {f : Fld} (hf : fldB f = true) (i : Nat) : mhas (partF f) i = decide (f.st ≤ i ∧ i < f.st + manyF f.kd f.sz) := by
  obtain ⟨_, k0, k3, s0, z1, zm, h96⟩ := fldB_parts hf
  have hn := manyF_bd f.kd f.sz z1 (by unfold mostSz at zm; split at zm <;> (try split at zm) <;> omega)
  unfold partF rangeM
  obtain ⟨t, ht⟩ := Int.eq_ofNat_of_zero_le s0
  obtain ⟨n, hm⟩ := Int.eq_ofNat_of_zero_le (show 0 ≤ manyF f.kd f.sz by omega)
  rw [ht, hm, Int.toNat_natCast, range_has t n i (by omega), decide_eq_decide]
  omega
/-- The shapes that are drawn. -/
def shapeB (kd sz : Int) : Bool := decide (1 ≤ sz) && ((decide (kd = 0) && decide (sz ≤ 12)) || (decide (kd = 1) && decide (sz ≤ 2)) || (decide (kd = 2) && decide (sz ≤ 2)) || (decide (kd = 3) && decide (sz ≤ 6)))
def codesT (kd sz : Int) : List Nat := (List.range (mostF ⟨⟨#[]⟩, kd, 0, sz⟩ + 1).toNat).map fun v : Nat => (codeF ⟨⟨#[]⟩, kd, 0, sz⟩ (v : Int)).toNat
/-- How many holes a code has: all of a shape's codes alike, or oddly many. -/
def weightB (kd sz : Int) (x : Nat) : Bool := (decide (kd = 0) && pcf 16 x == 1) || decide (kd = 1) || (decide (kd = 2) && (pcf 16 x : Nat) == 2 * sz.toNat) || (decide (kd = 3) && pcf 16 x % 2 == 1)
def noneTwice : List Nat → Bool
  | [] => true
  | x :: xs => !(xs.any fun y => Nat.beq x y) && noneTwice xs
def goodTab (kd sz : Int) : Bool := noneTwice (codesT kd sz) && (codesT kd sz).all fun x => !(Nat.beq x 0) && (Nat.blt x (2 ^ (manyF kd sz).toNat) && weightB kd sz x)
theorem tabs_good : ([(0, 1), (0, 2), (0, 3), (0, 4), (0, 5), (0, 6), (0, 7), (0, 8), (0, 9), (0, 10), (0, 11), (0, 12), (1, 1), (1, 2), (2, 1), (2, 2), (3, 1), (3, 2), (3, 3), (3, 4), (3, 5), (3, 6)] : List (Int × Int)).all (fun p => goodTab p.1 p.2) = true := by decide +kernel
theorem shape_good {kd sz : Int} (h : shapeB kd sz = true) : goodTab kd sz = true := by
  have hl := List.all_eq_true.1 tabs_good (kd, sz)
  refine hl ?_
  unfold shapeB at h
  simp only [Bool.and_eq_true, Bool.or_eq_true, decide_eq_true_eq] at h
  obtain ⟨h1, ((⟨rfl, h2⟩ | ⟨rfl, h2⟩) | ⟨rfl, h2⟩) | ⟨rfl, h2⟩⟩ := h
  · rcases (show sz = 1 ∨ sz = 2 ∨ sz = 3 ∨ sz = 4 ∨ sz = 5 ∨ sz = 6 ∨ sz = 7 ∨ sz = 8 ∨ sz = 9 ∨ sz = 10 ∨ sz = 11 ∨ sz = 12 by omega) with rfl | rfl | rfl | rfl | rfl | rfl | rfl | rfl | rfl | rfl | rfl | rfl <;> decide
  · rcases (show sz = 1 ∨ sz = 2 by omega) with rfl | rfl <;> decide
  · rcases (show sz = 1 ∨ sz = 2 by omega) with rfl | rfl <;> decide
  · rcases (show sz = 1 ∨ sz = 2 ∨ sz = 3 ∨ sz = 4 ∨ sz = 5 ∨ sz = 6 by omega) with rfl | rfl | rfl | rfl | rfl | rfl <;> decide
theorem noneTwice_at : ∀ (l : List Nat), noneTwice l = true → ∀ (i j : Nat) (hi : i < l.length) (hj : j < l.length), l[i] = l[j] → i = j
  | [], _, i, _, hi, _, _ => absurd hi (by simp)
  | x :: xs, h, i, j, hi, hj, e => by
    rw [noneTwice, Bool.and_eq_true, Bool.not_eq_true', List.any_eq_false] at h
    cases i with
    | zero =>
      cases j with
      | zero => rfl
      | succ j =>
        exfalso
        have hj2 : j < xs.length := by simpa using hj
        have := h.1 xs[j] (List.getElem_mem hj2)
        rw [List.getElem_cons_zero, List.getElem_cons_succ] at e
        rw [e] at this
        simp at this
    | succ i =>
      cases j with
      | zero =>
        exfalso
        have hi2 : i < xs.length := by simpa using hi
        have := h.1 xs[i] (List.getElem_mem hi2)
        rw [List.getElem_cons_zero, List.getElem_cons_succ] at e
        rw [← e] at this
        simp at this
      | succ j =>
        have hi2 : i < xs.length := by simpa using hi
        have hj2 : j < xs.length := by simpa using hj
        rw [List.getElem_cons_succ, List.getElem_cons_succ] at e
        have := noneTwice_at xs h.2 i j hi2 hj2 e
        omega
/-- What is known of the codes of a field that has been drawn. -/
structure CodeLaw (f : Fld) : Prop where
  inj : ∀ v w : Int, 0 ≤ v → v ≤ mostF f → 0 ≤ w → w ≤ mostF f → codeF f v = codeF f w → v = w
  ne : ∀ v : Int, 0 ≤ v → v ≤ mostF f → codeF f v ≠ 0
  part : ∀ v : Int, 0 ≤ v → v ≤ mostF f → ∀ i : Nat, mhas (codeF f v) i = true → mhas (partF f) i = true
  one : ∀ v : Int, f.kd = 0 → 0 ≤ v → v ≤ mostF f → mcount (codeF f v) = 1
  pairs : ∀ v : Int, f.kd = 2 → 0 ≤ v → v ≤ mostF f → mcount (codeF f v) = 2 * f.sz
  odd : ∀ v : Int, f.kd = 3 → 0 ≤ v → v ≤ mostF f → mcount (codeF f v) % 2 = 1
theorem code_law {f : Fld} (hf : fldB f = true) (hs : shapeB f.kd f.sz = true) : CodeLaw f := by
  obtain ⟨_, k0, k3, s0, z1, zm, h96⟩ := fldB_parts hf
  have hn := manyF_bd f.kd f.sz z1 (by unfold mostSz at zm; split at zm <;> (try split at zm) <;> omega)
  have hg := shape_good hs
  unfold goodTab at hg
  rw [Bool.and_eq_true, List.all_eq_true] at hg
  have hm0 : mostF ⟨⟨#[]⟩, f.kd, 0, f.sz⟩ = mostF f := rfl
  have hlen : (codesT f.kd f.sz).length = (mostF f + 1).toNat := by unfold codesT; rw [List.length_map, List.length_range, hm0]
  have hat : ∀ v : Nat, (v : Int) ≤ mostF f → ∃ h : v < (codesT f.kd f.sz).length, (codesT f.kd f.sz)[v] = (codeF ⟨⟨#[]⟩, f.kd, 0, f.sz⟩ (v : Int)).toNat := by
    intro v hv
    refine ⟨by omega, ?_⟩
    unfold codesT
    rw [List.getElem_map, List.getElem_range]
  have hfact : ∀ v : Nat, (v : Int) ≤ mostF f → (codeF ⟨⟨#[]⟩, f.kd, 0, f.sz⟩ (v : Int)).toNat ≠ 0 ∧ (codeF ⟨⟨#[]⟩, f.kd, 0, f.sz⟩ (v : Int)).toNat < 2 ^ (manyF f.kd f.sz).toNat ∧ weightB f.kd f.sz (codeF ⟨⟨#[]⟩, f.kd, 0, f.sz⟩ (v : Int)).toNat = true := by
    intro v hv
    obtain ⟨h1, h2⟩ := hat v hv
    have h3 := hg.2 _ (List.getElem_mem h1)
    rw [h2, Bool.and_eq_true, Bool.and_eq_true, Bool.not_eq_true'] at h3
    refine ⟨fun h => ?_, ?_, h3.2.2⟩
    · have := h3.1; rw [h] at this; simp at this
    · exact Nat.le_of_ble_eq_true h3.2.1
  have hfit : f.st.toNat + (manyF f.kd f.sz).toNat ≤ 96 := by omega
  have hcnt : ∀ v : Nat, (v : Int) ≤ mostF f → mcount (codeF f v) = (pcf 128 (codeF ⟨⟨#[]⟩, f.kd, 0, f.sz⟩ (v : Int)).toNat : Nat) := by
    intro v hv
    rw [code_shl hf v (by omega), mcount_shl (hfact v hv).2.1 (by omega), mcount_pcf]
  have h16 : shapeB f.kd f.sz = true → (manyF f.kd f.sz).toNat ≤ 16 := by
    intro h
    unfold shapeB at h
    simp only [Bool.and_eq_true, Bool.or_eq_true, decide_eq_true_eq] at h
    obtain ⟨h1, ((⟨h0, h2⟩ | ⟨h0, h2⟩) | ⟨h0, h2⟩) | ⟨h0, h2⟩⟩ := h <;> rw [h0]
    · rw [manyF0 _ (by decide) (by decide) (by decide)]; omega
    · rw [manyF1]; omega
    · rw [manyF2]; omega
    · rw [manyF3]; omega
  have hp16 : ∀ v : Nat, (v : Int) ≤ mostF f → pcf 128 (codeF ⟨⟨#[]⟩, f.kd, 0, f.sz⟩ (v : Int)).toNat = pcf 16 (codeF ⟨⟨#[]⟩, f.kd, 0, f.sz⟩ (v : Int)).toNat :=
    fun v hv => pcf_fit (by omega) (Nat.lt_of_lt_of_le (hfact v hv).2.1 (Nat.pow_le_pow_right (by decide) (h16 hs)))
  constructor
  · intro v w v0 v1 w0 w1 e
    obtain ⟨a, rfl⟩ := Int.eq_ofNat_of_zero_le v0
    obtain ⟨b, rfl⟩ := Int.eq_ofNat_of_zero_le w0
    rw [code_shl hf a (by omega), code_shl hf b (by omega)] at e
    have e2 := congrArg BitVec.toNat e
    rw [shl_nat (hfact a v1).2.1 (by omega), shl_nat (hfact b w1).2.1 (by omega)] at e2
    have e3 := Nat.eq_of_mul_eq_mul_right (Nat.two_pow_pos _) e2
    obtain ⟨h1, h2⟩ := hat a v1
    obtain ⟨h3, h4⟩ := hat b w1
    have := noneTwice_at _ hg.1 a b h1 h3 (by rw [h2, h4]; exact e3)
    omega
  · intro v v0 v1 e
    obtain ⟨a, rfl⟩ := Int.eq_ofNat_of_zero_le v0
    rw [code_shl hf a (by omega)] at e
    have e2 := congrArg BitVec.toNat e
    rw [shl_nat (hfact a v1).2.1 (by omega)] at e2
    have h0 : (0 : Mask).toNat = 0 := rfl
    rw [h0] at e2
    rcases Nat.mul_eq_zero.1 e2 with h | h
    · exact (hfact a v1).1 h
    · have := Nat.two_pow_pos f.st.toNat; omega
  · intro v v0 v1 i hi
    obtain ⟨a, rfl⟩ := Int.eq_ofNat_of_zero_le v0
    rw [part_has hf, decide_eq_true_eq]
    rw [code_shl hf a (by omega)] at hi
    have h2 := (hfact a v1).2.1
    generalize codeF ⟨⟨#[]⟩, f.kd, 0, f.sz⟩ (a : Int) = c at hi h2
    unfold mhas at hi
    rw [Int.toNat_natCast, BitVec.getLsbD_shiftLeft] at hi
    simp only [Bool.and_eq_true, Bool.not_eq_true', decide_eq_true_eq, decide_eq_false_iff_not] at hi
    obtain ⟨⟨g1, g2⟩, g3⟩ := hi
    have g4 : i - f.st.toNat < (manyF f.kd f.sz).toNat := by
      rcases Nat.lt_or_ge (i - f.st.toNat) (manyF f.kd f.sz).toNat with h | h
      · exact h
      · exfalso
        have h5 : c.toNat.testBit (i - f.st.toNat) = true := g3
        rw [Nat.testBit_lt_two_pow (Nat.lt_of_lt_of_le h2 (Nat.pow_le_pow_right (by decide) h))] at h5
        cases h5
    omega
  · intro v h0 v0 v1
    obtain ⟨a, rfl⟩ := Int.eq_ofNat_of_zero_le v0
    have h := (hfact a v1).2.2
    rw [hcnt a v1, hp16 a v1]
    unfold weightB at h
    rw [h0] at h ⊢
    simp at h
    rw [h]; rfl
  · intro v h0 v0 v1
    obtain ⟨a, rfl⟩ := Int.eq_ofNat_of_zero_le v0
    have h := (hfact a v1).2.2
    rw [hcnt a v1, hp16 a v1]
    unfold weightB at h
    rw [h0] at h ⊢
    simp at h
    rw [h]; omega
  · intro v h0 v0 v1
    obtain ⟨a, rfl⟩ := Int.eq_ofNat_of_zero_le v0
    have h := (hfact a v1).2.2
    rw [hcnt a v1, hp16 a v1]
    unfold weightB at h
    rw [h0] at h ⊢
    simp at h
    omega
end Go.Proofs.YtegopgpnjgikeaaDoor
set_option linter.unusedVariables false
set_option linter.unusedSimpArgs false
set_option maxRecDepth 100000
namespace Go.Proofs.YtegopgpnjgikeaaDoor
open Go.RowKit
theorem part_count {f : Fld} (hf : fldB f = true) : mcount (partF f) = manyF f.kd f.sz := by
  obtain ⟨_, k0, k3, s0, z1, zm, h96⟩ := fldB_parts hf
  have hn := manyF_bd f.kd f.sz z1 (by unfold mostSz at zm; split at zm <;> (try split at zm) <;> omega)
  obtain ⟨t, ht⟩ := Int.eq_ofNat_of_zero_le s0
  obtain ⟨n, hm⟩ := Int.eq_ofNat_of_zero_le (show 0 ≤ manyF f.kd f.sz by omega)
  rw [mcount_cnt, cnt_congr (q := fun i => decide (t ≤ i ∧ i < t + n)) (fun i _ => by rw [part_has hf, ht, hm, decide_eq_decide]; omega), cnt_range t n 128 (by omega), hm]
theorem part_mask {f : Fld} (hf : fldB f = true) : isMaskB (partF f) = true := by
  obtain ⟨_, k0, k3, s0, z1, zm, h96⟩ := fldB_parts hf
  unfold isMaskB
  rw [decide_eq_true_eq]
  show (partF f).toNat < 2 ^ 96
  refine low_nat fun i h => ?_
  rw [part_has hf, decide_eq_true_eq] at h
  omega
theorem code_mask {f : Fld} (hf : fldB f = true) (hL : CodeLaw f) {v : Int} (v0 : 0 ≤ v) (v1 : v ≤ mostF f) : isMaskB (codeF f v) = true := by
  unfold isMaskB
  rw [decide_eq_true_eq]
  show (codeF f v).toNat < 2 ^ 96
  refine low_nat fun i h => ?_
  have := hL.part v v0 v1 i h
  rcases Nat.lt_or_ge i 96 with h2 | h2
  · exact h2
  · rw [mask_high (part_mask hf) i h2] at this; cases this
theorem code_within {f : Fld} (hL : CodeLaw f) {v : Int} (v0 : 0 ≤ v) (v1 : v ≤ mostF f) : mless (codeF f v) (partF f) = 0 := mask_ext fun i hi => by
  rw [mhas_less _ _ _ hi]
  have := hL.part v v0 v1 i
  cases h : mhas (codeF f v) i with
  | false => simp [mhas]
  | true => rw [this h]; simp [mhas]
theorem code_meet {f : Fld} (hL : CodeLaw f) {v : Int} (v0 : 0 ≤ v) (v1 : v ≤ mostF f) : mmeet (codeF f v) (partF f) = codeF f v := mask_ext fun i hi => by
  rw [mhas_and]
  have := hL.part v v0 v1 i
  cases h : mhas (codeF f v) i with
  | false => rfl
  | true => rw [this h]; rfl
/-- The value of a mask of which a field has a value's code. -/
theorem value_code {f : Fld} (hL : CodeLaw f) {v : Int} (v0 : 0 ≤ v) (v1 : v ≤ mostF f) {m : Mask} (h : mmeet m (partF f) = codeF f v) : valueF f m = (v, 0) := by
  obtain ⟨k, rfl⟩ := Int.eq_ofNat_of_zero_le v0
  have hno : ∀ n : Nat, n ≤ k → valAt f (mmeet m (partF f)) n = none := by
    intro n
    induction n with
    | zero => intro _; rfl
    | succ n ih =>
      intro hn
      refine valAt_miss (ih (by omega)) fun e => ?_
      rw [h] at e
      have := hL.inj n k (by omega) (by omega) (by omega) v1 e
      omega
  exact valueF_hit (by rw [h]; exact hL.ne k v0 v1) (hno k (Nat.le_refl _)) h.symm v1
/-- .. and the other way round. -/
theorem value_back {f : Fld} {m : Mask} {n : Int} (h : valueF f m = (n, 0)) : 0 ≤ n ∧ n ≤ mostF f ∧ codeF f n = mmeet m (partF f) := by
  unfold valueF at h
  split at h
  · simp at h
  · have key : ∀ (k : Nat) (x : Int), valAt f (mmeet m (partF f)) k = some x → 0 ≤ x ∧ x < k ∧ codeF f x = mmeet m (partF f) := by
      intro k
      induction k with
      | zero => intro x hx; cases hx
      | succ k ih =>
        intro x hx
        rw [valAt] at hx
        cases h1 : valAt f (mmeet m (partF f)) k with
        | some y =>
          rw [h1, Option.some_or, Option.some.injEq] at hx
          subst hx
          obtain ⟨g1, g2, g3⟩ := ih y h1
          exact ⟨g1, by omega, g3⟩
        | none =>
          rw [h1, Option.none_or] at hx
          split at hx
          · rename_i h2
            rw [Option.some.injEq] at hx
            subst hx
            exact ⟨by omega, by omega, h2⟩
          · cases hx
    split at h
    · rename_i v hv
      obtain ⟨g1, g2, g3⟩ := key _ _ hv
      simp only [Prod.mk.injEq, and_true] at h
      subst h
      exact ⟨g1, by omega, g3⟩
    · simp at h
/-- What PutField puts into a mask. -/
def putM (f : Fld) (v : Int) (m : Mask) : Mask := mjoin (mless m (partF f)) (codeF f v)
theorem put_meet {f : Fld} (hL : CodeLaw f) {v : Int} (v0 : 0 ≤ v) (v1 : v ≤ mostF f) (m : Mask) : mmeet (putM f v m) (partF f) = codeF f v := mask_ext fun i hi => by
  unfold putM
  rw [mhas_and, mhas_or, mhas_less _ _ _ hi]
  have := hL.part v v0 v1 i
  cases h : mhas (codeF f v) i with
  | false => cases mhas m i <;> cases mhas (partF f) i <;> rfl
  | true => rw [this h]; cases mhas m i <;> rfl
theorem put_less {f : Fld} (hL : CodeLaw f) {v : Int} (v0 : 0 ≤ v) (v1 : v ≤ mostF f) (m : Mask) : mless (putM f v m) (partF f) = mless m (partF f) := mask_ext fun i hi => by
  unfold putM
  rw [mhas_less _ _ _ hi, mhas_or, mhas_less _ _ _ hi]
  have := hL.part v v0 v1 i
  cases h : mhas (codeF f v) i with
  | false => cases mhas m i <;> cases mhas (partF f) i <;> rfl
  | true => rw [this h]; cases mhas m i <;> rfl
theorem put_mask {f : Fld} (hf : fldB f = true) (hL : CodeLaw f) {v : Int} (v0 : 0 ≤ v) (v1 : v ≤ mostF f) {m : Mask} (hm : isMaskB m = true) : isMaskB (putM f v m) = true := sm_joinV (sm_less hm) (code_mask hf hL v0 v1)
theorem less_none (m p : Mask) : mmeet (mless m p) p = 0 := mask_ext fun i hi => by
  rw [mhas_and, mhas_less _ _ _ hi]
  cases mhas m i <;> cases mhas p i <;> simp [mhas]
/-- Codes of different values lie apart. -/
theorem code_far {f : Fld} (hf : fldB f = true) (hL : CodeLaw f) {v w : Int} (v0 : 0 ≤ v) (v1 : v ≤ mostF f) (w0 : 0 ≤ w) (w1 : w ≤ mostF f) (hne : v ≠ w) : (leastF f).1 ≤ distM (codeF f v) (codeF f w) := by
  obtain ⟨_, k0, k3, s0, z1, zm, h96⟩ := fldB_parts hf
  have h1 : distM (codeF f v) (codeF f w) ≠ 0 := fun h => hne (hL.inj v w v0 v1 w0 w1 (distM_zero.1 h))
  have h2 := distM_ge (codeF f v) (codeF f w)
  unfold leastF
  rw [if_pos hf]
  split
  · show (1 : Int) ≤ _; omega
  · rename_i hk
    split
    · show (0 : Int) ≤ _; omega
    · show (2 : Int) ≤ _
      have h3 : mcount (codeF f v) % 2 = mcount (codeF f w) % 2 := by
        rcases (show f.kd = 0 ∨ f.kd = 2 ∨ f.kd = 3 by omega) with h | h | h
        · rw [hL.one v h v0 v1, hL.one w h w0 w1]
        · rw [hL.pairs v h v0 v1, hL.pairs w h w0 w1]
        · rw [hL.odd v h v0 v1, hL.odd w h w0 w1]
      have := distM_even h3
      omega
theorem code_not_within {f : Fld} (hL : CodeLaw f) {v w : Int} (hk : f.kd = 0 ∨ f.kd = 2) (v0 : 0 ≤ v) (v1 : v ≤ mostF f) (w0 : 0 ≤ w) (w1 : w ≤ mostF f) (hne : v ≠ w) : mless (codeF f v) (codeF f w) ≠ 0 := by
  intro h
  refine hne (hL.inj v w v0 v1 w0 w1 (within_same ?_ h))
  rcases hk with h | h
  · rw [hL.one v h v0 v1, hL.one w h w0 w1]
  · rw [hL.pairs v h v0 v1, hL.pairs w h w0 w1]
end Go.Proofs.YtegopgpnjgikeaaDoor
set_option linter.unusedVariables false
set_option linter.unusedSimpArgs false
set_option maxRecDepth 100000
namespace Go.Proofs.YtegopgpnjgikeaaDoor
open Go.RowKit
end Go.Proofs.YtegopgpnjgikeaaDoor
set_option linter.unusedVariables false
set_option linter.unusedSimpArgs false
set_option maxRecDepth 100000
namespace Go.Proofs.YtegopgpnjgikeaaDoor
open Go.RowKit
theorem mof_eq {a b : Int} (h0 : 0 ≤ a) (h1 : a < 18446744073709551616) (h2 : 0 ≤ b) (h3 : b < 18446744073709551616) : ∃ m : Mask, lo m = a ∧ hi m = b := ⟨mof a b, lo_mof h0 h1 h2 h3, hi_mof h0 h1 h2 h3⟩
theorem or_range {a b : Int} (h0 : 0 ≤ a) (h1 : a < 18446744073709551616) (h2 : 0 ≤ b) (h3 : b < 18446744073709551616) : 0 ≤ bits .or .u64 a b ∧ bits .or .u64 a b < 18446744073709551616 := by
  obtain ⟨x, rfl⟩ := Int.eq_ofNat_of_zero_le h0
  obtain ⟨y, rfl⟩ := Int.eq_ofNat_of_zero_le h2
  rw [u64_or_nat _ _ (by omega) (by omega)]
  have := Nat.or_lt_two_pow (n := 64) (x := x) (y := y) (by omega) (by omega)
  omega
theorem hi_small {m : Mask} (h : hi m < 4294967296) : isMaskB m = true := by
  unfold isMaskB hi at *
  rw [decide_eq_true_eq]
  omega
end Go.Proofs.YtegopgpnjgikeaaDoor
set_option linter.unusedVariables false
set_option linter.unusedSimpArgs false
set_option maxRecDepth 100000
namespace Go.Proofs.YtegopgpnjgikeaaDoor
open Go.RowKit
/-- The texts of which names of drawn fields and cards are taken. -/
def nmsL : List ByteArray := [⟨#[97, 110, 116]⟩, ⟨#[98, 101, 101]⟩, ⟨#[99, 111, 119]⟩, ⟨#[100, 111, 103]⟩, ⟨#[101, 101, 108]⟩, ⟨#[102, 111, 120]⟩, ⟨#[103, 110, 117]⟩, ⟨#[104, 101, 110]⟩, ⟨#[105, 98, 105, 115]⟩, ⟨#[106, 97, 121]⟩, ⟨#[107, 105, 116, 101]⟩, ⟨#[108, 97, 114, 107]⟩]
theorem nms_len : nmsL.length = 12 := rfl
theorem nms_good : nmsL.all isNameB = true := by decide +kernel
theorem nms_at (k : Nat) (h : k < 12) : isNameB nmsL[k]! = true := by
  rw [getElem!_pos nmsL k (by rw [nms_len]; omega)]
  exact List.all_eq_true.1 nms_good _ (List.getElem_mem _)
theorem nm_small {s : ByteArray} (h : isNameB s = true) : s.size ≤ 9223372036854775807 := by
  unfold isNameB at h
  simp only [Bool.and_eq_true, decide_eq_true_eq] at h
  omega
/-- A field as it is drawn. -/
def DrawnF (f : Fld) : Prop := fldB f = true ∧ shapeB f.kd f.sz = true
theorem shape_wide {kd sz : Int} (h : shapeB kd sz = true) : (kd = 0 ∨ kd = 1 ∨ kd = 2 ∨ kd = 3) ∧ 1 ≤ sz ∧ sz ≤ mostSz kd ∧ sz ≤ 12 ∧ 1 ≤ manyF kd sz ∧ manyF kd sz ≤ 12 := by
  unfold shapeB at h
  simp only [Bool.and_eq_true, Bool.or_eq_true, decide_eq_true_eq] at h
  obtain ⟨h1, ((⟨rfl, h2⟩ | ⟨rfl, h2⟩) | ⟨rfl, h2⟩) | ⟨rfl, h2⟩⟩ := h
  · rw [manyF0 _ (by decide) (by decide) (by decide)]; unfold mostSz; rw [if_pos rfl]; omega
  · rw [manyF1]; unfold mostSz; rw [if_neg (by decide), if_neg (by decide)]; omega
  · rw [manyF2]; unfold mostSz; rw [if_neg (by decide), if_neg (by decide)]; omega
  · rw [manyF3]; unfold mostSz; rw [if_neg (by decide), if_pos rfl]; omega
theorem drawn_fld {nm : ByteArray} {kd st sz : Int} (hn : isNameB nm = true) (hs : shapeB kd sz = true) (s0 : 0 ≤ st) (s1 : st + manyF kd sz ≤ 96) : DrawnF ⟨nm, kd, st, sz⟩ := by
  obtain ⟨hk, h1, h2, _, _, _⟩ := shape_wide hs
  exact ⟨fldB_true hn (by show 0 ≤ kd; omega) (by show kd ≤ 3; omega) s0 h1 h2 s1, hs⟩
theorem shape_of {kd r : Int} (k0 : 0 ≤ kd) (k3 : kd ≤ 3) (r0 : 1 ≤ r) (h0 : kd = 0 → r ≤ 12) (h1 : kd = 1 → r ≤ 2) (h2 : kd = 2 → r ≤ 2) (h3 : kd = 3 → r ≤ 6) : shapeB kd r = true := by
  unfold shapeB
  simp only [Bool.and_eq_true, Bool.or_eq_true, decide_eq_true_eq]
  omega
/-- A scheme as it is drawn. -/
def DrawnS (xs : List Fld) : Prop := ∀ f ∈ xs, DrawnF f
theorem drawn_in {f : Fld} (h : DrawnF f) : FldIn f := by
  obtain ⟨h1, k0, k3, s0, z0, z1, z2⟩ := fldB_parts h.1
  obtain ⟨hk, h2, h3, h4, h5, h6⟩ := shape_wide h.2
  refine ⟨⟨⟨?_, ?_⟩, ⟨?_, ?_⟩, ?_, ?_⟩, nm_small h1⟩ <;> omega
end Go.Proofs.YtegopgpnjgikeaaDoor
