/-
  The reference's source of choices: what its functions return, within bounds.
-/
import Derived.Test.YtegopgpnjgikeaaGreatDoorWN
import Derived.Test.YtegopgpnjgikeaaGreatDoorC1
import Derived.Test.YtegopgpnjgikeaaGreatDoorL6
import Derived.Deep.RegionHeld
import Derived.RegionTactic
import Derived.Deep.RegionWith
set_option linter.unusedVariables false
set_option linter.unusedSimpArgs false
set_option maxRecDepth 100000
namespace Go.Proofs.YtegopgpnjgikeaaGreatDoor
open Go.RowKit
/-- Bytes as elements. -/
def encU8 : Enc UInt8 where
  enc x := [.int .u8 (x.toNat : Int)]
  sz := 1
  len _ := rfl
  one m u hu := by
    simp only [List.mem_cons, List.not_mem_nil, or_false] at hu
    subst hu
    rfl
  pos := by decide
theorem Rd.u8 {w : World} {b off : Nat} {xs : List UInt8} (h : Rd encU8 w (some ⟨b, off, none⟩) xs) (k : Nat) (hk : k < xs.length) :
    w.cell? ⟨b, off + k, none⟩ = some (.int .u8 (xs[k].toNat : Int)) := by
  obtain ⟨b', off', e1, hlt, hc⟩ := h k hk
  simp only [Option.some.injEq, Addr.mk.injEq, and_true] at e1
  obtain ⟨rfl, rfl⟩ := e1
  have := hc 0 _ rfl
  simpa [encU8] using this
/-- Block b holds a source whose bytes lie below base; it has read n bytes at most. -/
def Src (w : World) (base b n : Nat) : Prop :=
  ∃ (cs : List UInt8) (A : Option Addr) (cap at' : Nat) (seed : Int), BoxAt w b #[.slice A cs.length cap, .int .i64 at', .int .u64 seed] 71 ∧ Rd encU8 w A cs ∧ cs.length ≤ 1099511627776 ∧
    (cs ≠ [] → ∀ p, A = some p → p.block < base) ∧ base ≤ b ∧ 0 ≤ seed ∧ seed < 18446744073709551616 ∧ at' ≤ n ∧ n ≤ 1099511627776
theorem Rd.winN {α : Type} {e : Enc α} {w w' : World} {lo hi : Nat} {A : Option Addr} {xs : List α} (h : Rd e w A xs) (hW : Win lo hi w w') (hb : xs ≠ [] → ∀ p, A = some p → p.block < lo ∨ hi ≤ p.block) : Rd e w' A xs := by
  cases xs with
  | nil => exact Rd.nil _ _ _
  | cons x xs => exact h.win hW (hb (List.cons_ne_nil _ _))
theorem Rd.blk {α : Type} {e : Enc α} {w : World} {A : Option Addr} {xs : List α} (h : Rd e w A xs) (hne : xs ≠ []) : ∀ p, A = some p → p.block < w.heap.size := fun p hp => by
  obtain ⟨b, off, hA, hlt, _⟩ := h 0 (List.length_pos_iff.2 hne)
  rw [hA] at hp
  cases hp
  exact hlt
theorem Src.lt {w : World} {base b n : Nat} (h : Src w base b n) : b < w.heap.size := by obtain ⟨cs, A, cap, at', seed, h1, _⟩ := h; exact h1.lt
theorem Src.base {w : World} {base b n : Nat} (h : Src w base b n) : base ≤ b := by obtain ⟨cs, A, cap, at', seed, _, _, _, _, h1, _⟩ := h; exact h1
theorem Src.ext {w w' : World} {base b n : Nat} (h : Src w base b n) (hE : Ext w w') : Src w' base b n := by
  obtain ⟨cs, A, cap, at', seed, h1, h2, h3⟩ := h
  exact ⟨cs, A, cap, at', seed, h1.ext hE, h2.ext hE, h3⟩
theorem Src.win {w w' : World} {base b n lo hi : Nat} (h : Src w base b n) (hW : Win lo hi w w') (h1 : base ≤ lo) (h2 : b < lo ∨ hi ≤ b) : Src w' base b n := by
  obtain ⟨cs, A, cap, at', seed, g1, g2, g3, g4, g5, g6⟩ := h
  exact ⟨cs, A, cap, at', seed, g1.win hW h2, g2.winN hW (fun hc p hp => .inl (by have := g4 hc p hp; omega)), g3, g4, g5, g6⟩
theorem Src.up {w : World} {base b n m : Nat} (h : Src w base b n) (h1 : n ≤ m) (h2 : m ≤ 1099511627776) : Src w base b m := by
  obtain ⟨cs, A, cap, at', seed, g1, g2, g3, g4, g5, g6, g7, g8, g9⟩ := h
  exact ⟨cs, A, cap, at', seed, g1, g2, g3, g4, g5, g6, g7, by omega, h2⟩
theorem Src.grown {w w' : World} {base b n : Nat} {row : Option Nat} (h : Src w base b n) (hg : w.grownBy w' row) (h1 : ∀ k, row = some k → base ≤ k ∧ k ≠ b) : Src w' base b n := by
  cases row with
  | none => exact h.win ((Win.refl (b + 1) (b + 1) w).grown hg (fun k hk => by cases hk)) (by have := h.base; omega) (.inl (by omega))
  | some k =>
    obtain ⟨e1, e2⟩ := h1 k rfl
    exact h.win ((Win.refl k (k + 1) w).grown hg (fun j hj => by cases hj; omega)) e1 (by omega)
theorem Src.set {w : World} {base b n : Nat} {p : Addr} (h : Src w base b n) (h1 : base ≤ p.block) (h2 : p.block ≠ b) (v : Value) : Src (w.setCell p v) base b n :=
  h.win ((Win.refl p.block (p.block + 1) w).set (Nat.le_refl _) (Nat.lt_succ_self _) v) h1 (by omega)
theorem and255 (x : Int) (h : 0 ≤ x) (h1 : x < 18446744073709551616) : 0 ≤ bits .and .u64 x 255 ∧ bits .and .u64 x 255 ≤ 255 := by
  obtain ⟨n, rfl⟩ := Int.eq_ofNat_of_zero_le h
  rw [show (255 : Int) = ((255 : Nat) : Int) from rfl, u64_and_nat _ _ (by omega) (by omega)]
  have := Nat.and_le_right (n := n) (m := 255)
  omega
theorem wrap_range (x : Int) : 0 ≤ IntKind.u64.wrap x ∧ IntKind.u64.wrap x < 18446744073709551616 := by rw [IntKind.wrap_u64]; omega
set_option maxHeartbeats 1000000 in
theorem src_next (base b n : Nat) (w : World) (hS : Src w base b n) (hn : n < 1099511627776) :
    Calls Tryz.prog 40 #[.pointer (some ⟨b, 0, none⟩)] w fun e w' => ∃ r : Int, e = .returned (.int .i64 r) ∧ 0 ≤ r ∧ r ≤ 255 ∧ Src w' base b (n + 1) ∧ Win b (b + 1) w w' := by
  have hx := @ExtOf.cell
  obtain ⟨cs, A, cap, at', seed, hX, hR, h3, h4, h5, h6, h7, h8, h9⟩ := hS
  have lX := hX.lt
  have x0 : w.cell? ⟨b, 0, none⟩ = some (.slice A cs.length cap) := hX.cell 0
  have x1 : w.cell? ⟨b, 1, none⟩ = some (.int .i64 at') := hX.cell 1
  have x2 : w.cell? ⟨b, 2, none⟩ = some (.int .u64 seed) := hX.cell 2
  by_cases hat : at' < cs.length
  · obtain ⟨bA, oA, hA, hltA, _⟩ := hR at' hat
    subst hA
    have m0 := hR.u8 at' hat
    have hr := cs[at'].toNat_lt
    generalize cs[at'].toNat = r at m0 hr
    have i1 : ((at' : Int) < cs.length) = True := eq_true (by omega)
    have i2 : (at' : Int) < cs.length := by omega
    have hwr : IntKind.i64.wrap (r : Int) = (r : Int) := IntWalk.i64_in _ (by omega)
    go_enter Tryz.func40, Tryz.ntmps40
    go_wp2
    refine wp_region_ext (by kernel_rfl) (by kernel_rfl) ?_
    repeat (first | go_big_quiet_step (fail) | quiet_step (fail))
    refine wpQuiet_nil ?_
    intro w1 hq1
    have hb1 := ext_of_class hq1
    clear hq1
    obtain ⟨hc1, hf1, hz1⟩ := bcell3 hb1
    try simp at hz1
    replace x0 := hb1.cell x0
    replace x1 := hb1.cell x1
    replace x2 := hb1.cell x2
    replace m0 := hb1.cell m0
    have lX1 := Nat.lt_of_lt_of_le lX hb1.size
    have lA1 := Nat.lt_of_lt_of_le hltA hb1.size
    clear hc1 hf1
    go_wp2
    refine wp_region_ext (by kernel_rfl) (by kernel_rfl) ?_
    repeat (first | go_big_quiet_step (fail) | quiet_step (fail))
    refine wpQuiet_nil ?_
    intro w2 hq2
    have hb2 := ext_of_class hq2
    clear hq2
    obtain ⟨hc2, hf2, hz2⟩ := bcell3 hb2
    try simp at hz2
    replace hb2 := hb1.trans hb2
    have hX2 := hX.ext hb2
    replace x0 := hX2.cell 0
    replace x1 := hX2.cell 1
    replace x2 := hX2.cell 2
    have hf0 := hX2.frozen 1
    have hf9 := hX2.frozen 2
    have lX2 := hX2.lt
    clear hc2 hf2 hb1 lX1 lA1 hltA m0
    go_wp2
    refine intro_world (R := fun W => Code.wp _ _ _ _ W) (fun W3 hW3 => ?_)
    obtain ⟨s', hs0, hs1, hX3⟩ : ∃ s' : Int, 0 ≤ s' ∧ s' < 18446744073709551616 ∧ BoxAt W3 b #[.slice (some ⟨bA, oA, none⟩) cs.length cap, .int .i64 (at' + 1), .int .u64 s'] 71 := by
      rw [hW3]
      exact ⟨_, (wrap_range _).1, (wrap_range _).2, (hX2.set 1 _).set 2 _⟩
    have hW : Win b (b + 1) w W3 := by rw [hW3]; exact (((Win.refl b (b + 1) w).ext hb2).set1 _).set1 _
    clear hW3 x0 x1 x2 lX
    have x0 : W3.cell? ⟨b, 0, none⟩ = some (.slice (some ⟨bA, oA, none⟩) cs.length cap) := hX3.cell 0
    have x1 : W3.cell? ⟨b, 1, none⟩ = some (.int .i64 (at' + 1)) := hX3.cell 1
    have x2 : W3.cell? ⟨b, 2, none⟩ = some (.int .u64 s') := hX3.cell 2
    have lX := hX3.lt
    have hR3 := hR.winN hW (fun hc p hp => .inl (by have := h4 hc p hp; omega))
    have h5' : (at' : Int) + 1 ≤ cs.length := by omega
    refine wp_region_ext (by kernel_rfl) (by kernel_rfl) ?_
    repeat (first | go_big_quiet_step (fail) | quiet_step (fail))
    refine wpQuiet_nil ?_
    intro w4 hq4
    have hb4 := ext_of_class hq4
    clear hq4
    obtain ⟨hc4, hf4, hz4⟩ := bcell3 hb4
    try simp at hz4
    go_wp2
    go_ret
    exact ⟨r, rfl, by omega, by omega, ⟨cs, _, cap, at' + 1, s', hX3.ext hb4, hR3.ext hb4, h3, h4, h5, hs0, hs1, by omega, by omega⟩, hW.ext hb4⟩
  · have i1 : ((at' : Int) < cs.length) = False := eq_false (by omega)
    go_enter Tryz.func40, Tryz.ntmps40
    go_wp2
    refine wp_region_ext (by kernel_rfl) (by kernel_rfl) ?_
    repeat (first | go_big_quiet_step (fail) | quiet_step (fail))
    refine wpQuiet_nil ?_
    intro w2 hq2
    have hb2 := ext_of_class hq2
    clear hq2
    obtain ⟨hc2, hf2, hz2⟩ := bcell3 hb2
    try simp at hz2
    have hX2 := hX.ext hb2
    replace x0 := hX2.cell 0
    replace x1 := hX2.cell 1
    replace x2 := hX2.cell 2
    have hf0 := hX2.frozen 1
    have hf9 := hX2.frozen 2
    have lX2 := hX2.lt
    clear hc2 hf2
    go_wp2
    refine intro_world (R := fun W => Code.wp _ _ _ _ W) (fun W3 hW3 => ?_)
    obtain ⟨s', hs0, hs1, hX3⟩ : ∃ s' : Int, 0 ≤ s' ∧ s' < 18446744073709551616 ∧ BoxAt W3 b #[.slice A cs.length cap, .int .i64 (at' + 1), .int .u64 s'] 71 := by
      rw [hW3]
      exact ⟨_, (wrap_range _).1, (wrap_range _).2, (hX2.set 1 _).set 2 _⟩
    have hW : Win b (b + 1) w W3 := by rw [hW3]; exact (((Win.refl b (b + 1) w).ext hb2).set1 _).set1 _
    clear hW3 x0 x1 x2 lX
    have x0 : W3.cell? ⟨b, 0, none⟩ = some (.slice A cs.length cap) := hX3.cell 0
    have x1 : W3.cell? ⟨b, 1, none⟩ = some (.int .i64 (at' + 1)) := hX3.cell 1
    have x2 : W3.cell? ⟨b, 2, none⟩ = some (.int .u64 s') := hX3.cell 2
    have lX := hX3.lt
    have hR3 := hR.winN hW (fun hc p hp => .inl (by have := h4 hc p hp; omega))
    have hc5 : ((at' : Int) + 1 ≤ cs.length) = False := eq_false (by omega)
    refine wp_region_ext (by kernel_rfl) (by kernel_rfl) ?_
    repeat (first | go_big_quiet_step (fail) | quiet_step (fail))
    refine wpQuiet_nil ?_
    intro w4 hq4
    have hb4 := ext_of_class hq4
    clear hq4
    obtain ⟨hc4, hf4, hz4⟩ := bcell3 hb4
    try simp at hz4
    have hX4 := hX3.ext hb4
    replace x0 := hX4.cell 0
    replace x1 := hX4.cell 1
    replace x2 := hX4.cell 2
    have lX4 := hX4.lt
    clear hc4 hf4
    go_wp2
    have ha := and255 (s' / 1099511627776) (by omega) (by omega)
    generalize bits .and .u64 (s' / 1099511627776) 255 = u at ha ⊢
    refine bodyPost_ret (v := .int .i64 u) (by simp [results, Tryz.results40, go_sem, IntWalk.wrap64_in u (by omega)]) rfl ⟨_, rfl, ha.1, ha.2, ⟨cs, _, cap, at' + 1, s', hX3.ext hb4, hR3.ext hb4, h3, h4, h5, hs0, hs1, by omega, by omega⟩, hW.ext hb4⟩
theorem src_pick (base b n : Nat) (m : Int) (m0 : m < 9223372036854775808) (w : World) (hS : Src w base b n) (hn : n + 2 ≤ 1099511627776) :
    Calls Tryz.prog 19 #[.pointer (some ⟨b, 0, none⟩), .int .i64 m] w fun e w' => ∃ r : Int, e = .returned (.int .i64 r) ∧ 0 ≤ r ∧ (r < m ∨ r = 0) ∧ Src w' base b (n + 2) ∧ Win b (b + 1) w w' := by
  by_cases h1 : m ≤ 1
  · go_enter Tryz.func19, Tryz.ntmps19
    go_wp2
    go_ret
    exact ⟨0, rfl, Int.le_refl _, .inr rfl, hS.up (by omega) hn, Win.refl _ _ _⟩
  · have hc := src_next base b n w hS (by omega)
    have h1' : (m ≤ 1) = False := eq_false h1
    by_cases h2 : 200 < m
    · go_enter Tryz.func19, Tryz.ntmps19
      go_wp2_with fail
      refine Calls.mono hc ?_
      rintro e w1 ⟨r, rfl, r0, r1, hS1, hW1⟩
      have hc2 := src_next base b (n + 1) w1 hS1 (by omega)
      clear hc
      go_wp2_with fail
      refine Calls.mono hc2 ?_
      rintro e w2 ⟨q, rfl, q0, q1, hS2, hW2⟩
      clear hc2
      have e1 : IntKind.i64.wrap (r * 256) = r * 256 := IntWalk.i64_in _ (by omega)
      have e2 : IntKind.i64.wrap (r * 256 + q) = r * 256 + q := IntWalk.i64_in _ (by omega)
      have e3 : (m == 0) = false := beq_eq_false_iff_ne.2 (by omega)
      have e4 : IntKind.i64.wrap ((r * 256 + q).tmod m) = (r * 256 + q).tmod m := by
        rw [Int.tmod_eq_emod_of_nonneg (by omega)]
        have := Int.emod_nonneg (r * 256 + q) (show m ≠ 0 by omega)
        have := Int.emod_lt_of_pos (r * 256 + q) (show 0 < m by omega)
        exact IntWalk.i64_in _ (by omega)
      have e5 := Int.emod_nonneg (r * 256 + q) (show m ≠ 0 by omega)
      have e6 := Int.emod_lt_of_pos (r * 256 + q) (show 0 < m by omega)
      go_wp2
      go_ret
      exact ⟨_, rfl, e5, .inl e6, hS2, hW1.trans hW2⟩
    · have h2' : (200 < m) = False := eq_false h2
      go_enter Tryz.func19, Tryz.ntmps19
      go_wp2_with fail
      refine Calls.mono hc ?_
      rintro e w1 ⟨r, rfl, r0, r1, hS1, hW1⟩
      clear hc
      have e3 : (m == 0) = false := beq_eq_false_iff_ne.2 (by omega)
      have e4 : IntKind.i64.wrap (r.tmod m) = r.tmod m := by
        rw [Int.tmod_eq_emod_of_nonneg r0]
        have := Int.emod_nonneg r (show m ≠ 0 by omega)
        have := Int.emod_lt_of_pos r (show 0 < m by omega)
        exact IntWalk.i64_in _ (by omega)
      have e5 := Int.emod_nonneg r (show m ≠ 0 by omega)
      have e6 := Int.emod_lt_of_pos r (show 0 < m by omega)
      go_wp2
      go_ret
      exact ⟨_, rfl, e5, .inl e6, hS1.up (by omega) hn, hW1⟩
/-- A source is made of bytes that stand in world w0. -/
theorem spec_l00From (cs : List UInt8) (A : Option Addr) (cap : Nat) (w0 w : World) (hR : Rd encU8 w0 A cs) (hn : cs.length ≤ 1099511627776) (hE : Ext w0 w) :
    Calls Tryz.prog 18 #[.slice A cs.length cap] w fun e w' => ∃ b : Nat, e = .returned (.pointer (some ⟨b, 0, none⟩)) ∧ Src w' w0.heap.size b 0 ∧ w.heap.size ≤ b ∧ Ext w w' := by
  go_enter Tryz.func18, Tryz.ntmps18
  go_wp2
  go_ret
  exact ⟨_, rfl, ⟨cs, A, cap, 0, 0, BoxAt.new' rfl, hR.ext (hE.alloc _), hn, fun hc => hR.blk hc, hE.size, by omega, by omega, by omega, by omega⟩, Nat.le_refl _, (Ext.refl _).alloc _⟩
