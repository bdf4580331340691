/-
  The holes of a word as data: rounds of the generator by chance till there are enough holes (plain Lean).
-/
import Derived.Test.YtegopgpnjgikeaaGreatDoorH0
import Derived.Test.YtegopgpnjgikeaaGreatDoorP1
import Derived.Test.YtegopgpnjgikeaaGreatDoorG0
set_option linter.unusedVariables false
namespace Go.Proofs.YtegopgpnjgikeaaGreatDoor
open Go.RowKit
theorem pcf_countP (n x : Nat) : pcf n x = (List.range n).countP (fun i => x.testBit i) := by
  induction n generalizing x with
  | zero => simp [pcf]
  | succ n ih =>
    rw [List.range_succ_eq_map, List.countP_cons, List.countP_map, pcf, ih]
    have h1 : (fun i => (x / 2).testBit i) = ((fun i => x.testBit i) ∘ Nat.succ) := by funext i; simp [Nat.testBit_succ]
    rw [h1, Nat.testBit_zero]
    by_cases h : x % 2 = 1
    · rw [if_pos (by simpa using h), h]; omega
    · rw [if_neg (by simpa using h)]; omega
theorem mcount_countP (m : Mask) : mcount m = (((List.range 128).countP (fun i : Nat => mhas m i) : Nat) : Int) := by
  unfold mcount
  rw [show (18446744073709551616 : Nat) = 2 ^ 64 by decide, ← pcf_add, pcf_countP]
  congr 2
theorem countP_more {p q : Nat → Bool} (h : Nat) (hp : p h = false) (hq : ∀ i, q i = (p i || decide (i = h))) (n : Nat) : (List.range n).countP q = (List.range n).countP p + if h < n then 1 else 0 := by
  induction n with
  | zero => rfl
  | succ n ih =>
    rw [List.range_succ, List.countP_append, List.countP_append, ih, List.countP_singleton, List.countP_singleton, hq n]
    by_cases e : n = h
    · subst e; simp [hp]
    · simp only [e, decide_false, Bool.or_false]
      have e3 : (if h < n + 1 then 1 else 0) = if h < n then 1 else 0 := by
        by_cases e2 : h < n
        · rw [if_pos e2, if_pos (show h < n + 1 by omega)]
        · rw [if_neg e2, if_neg (show ¬ h < n + 1 by omega)]
      rw [e3]; omega
theorem countP_room {p : Nat → Bool} (st : Nat) : ∀ (n sz : Nat), st + sz ≤ n → (∀ i, i < sz → p (st + i) = true) → sz ≤ (List.range n).countP p
  | 0, sz, h, _ => by omega
  | n + 1, sz, h, hp => by
    rw [List.range_succ, List.countP_append, List.countP_singleton]
    by_cases e : st + sz ≤ n
    · have := countP_room st n sz e hp; omega
    · match sz, h, hp, e with
      | 0, _, _, _ => omega
      | s + 1, h, hp, e =>
        have h1 := countP_room st n s (by omega) (fun i hi => hp i (by omega))
        have h2 := hp s (by omega)
        rw [show st + s = n by omega] at h2
        rw [if_pos h2]; omega
theorem mhas_join_bit (m : Mask) (h : Nat) (hh : h < 128) (i : Nat) : mhas (mjoin m (mbit h)) i = (mhas m i || decide (i = h)) := by
  unfold mhas mjoin mbit
  rw [BitVec.getLsbD_or]
  congr 1
  simp only [Int.toNat_natCast]
  rw [BitVec.getLsbD_shiftLeft, BitVec.getLsbD_one]
  by_cases e : i = h
  · subst e; simp [hh]
  · simp only [e, decide_false]
    by_cases e2 : i < h
    · simp [e2]
    · have : ¬ i - h = 0 := by omega
      simp [this]
theorem mcount_new (m : Mask) (h : Nat) (hh : h < 128) (hm : mhas m h = false) : mcount (mjoin m (mbit h)) = mcount m + 1 := by
  rw [mcount_countP, mcount_countP, countP_more (p := fun i : Nat => mhas m i) (q := fun i : Nat => mhas (mjoin m (mbit h)) i) h hm (mhas_join_bit m h hh), if_pos hh]; omega
theorem mjoin_old (m : Mask) (h : Nat) (hh : h < 128) (hm : mhas m h = true) : mjoin m (mbit h) = m := by
  apply BitVec.eq_of_getLsbD_eq
  intro i hi
  have := mhas_join_bit m h hh i
  unfold mhas at this hm
  simp only [Int.toNat_natCast] at this hm
  rw [this]
  by_cases e : i = h
  · subst e; simp [hm]
  · simp [e]
theorem mcount_room (m : Mask) (st sz : Nat) (h : st + sz ≤ 128) (hc : mcount m < sz) : ∃ v, v < sz ∧ mhas m ((st + v : Nat) : Int) = false := by
  apply Classical.byContradiction
  intro hn
  have := countP_room (p := fun i : Nat => mhas m i) st 128 sz h (fun i hi => by
    cases e : mhas m ((st + i : Nat) : Int) with
    | true => rfl
    | false => exact absurd ⟨i, hi, e⟩ hn)
  rw [mcount_countP] at hc
  omega
/-- From a and m on there are k rounds, and r behind them. -/
inductive WH (st sz per : Int) : Nat → Int → Mask → Mask → Prop
  | done (a : Int) (m : Mask) (h : ¬ mcount m < per) : WH st sz per 0 a m m
  | step (k : Nat) (a : Int) (m r : Mask) (h : mcount m < per) (hs : WH st sz per k (nextC a) (mjoin m (mbit (st + nextC a / 65536 % sz))) r) : WH st sz per (k + 1) a m r
theorem nextC_lcg (a : Nat) : nextC (a : Int) = ((lcg 1664525 1013904223 4294967296 a : Nat) : Int) := by
  unfold nextC lcg; omega
theorem WH_from (st sz per : Nat) (h : st + sz ≤ 128) (h2 : per ≤ sz) (m : Mask) (hm : mcount m < per) (ih : ∀ (a : Nat) (m' : Mask), a < 4294967296 → mcount m' = mcount m + 1 → ∃ k r, WH st sz per k a m' r) :
    ∀ (n a : Nat), a < 4294967296 → mhas m ((st + rowN (lcg 1664525 1013904223 4294967296) n (lcg 1664525 1013904223 4294967296 a) / 65536 % sz : Nat) : Int) = false →
      ∃ k r, WH st sz per k a m r := by
  intro n
  induction n with
  | zero =>
    intro a ha hn
    rw [rowN_zero] at hn
    have hz : 0 < sz := by have := mcount_ge m; omega
    have hl : lcg 1664525 1013904223 4294967296 a / 65536 % sz < sz := Nat.mod_lt _ hz
    obtain ⟨k, r, hk⟩ := ih (lcg 1664525 1013904223 4294967296 a) _ (Nat.mod_lt _ (by omega)) (mcount_new m _ (by omega) hn)
    refine ⟨k + 1, r, .step k a m r hm ?_⟩
    rw [nextC_lcg]
    simpa using hk
  | succ n ihn =>
    intro a ha hn
    rw [rowN_succ] at hn
    have hz : 0 < sz := by have := mcount_ge m; omega
    have hl : lcg 1664525 1013904223 4294967296 a / 65536 % sz < sz := Nat.mod_lt _ hz
    have hlt : lcg 1664525 1013904223 4294967296 a < 4294967296 := Nat.mod_lt _ (by omega)
    cases e : mhas m ((st + lcg 1664525 1013904223 4294967296 a / 65536 % sz : Nat) : Int) with
    | false =>
      obtain ⟨k, r, hk⟩ := ih _ _ hlt (mcount_new m _ (by omega) e)
      refine ⟨k + 1, r, .step k a m r hm ?_⟩
      rw [nextC_lcg]
      simpa using hk
    | true =>
      obtain ⟨k, r, hk⟩ := ihn _ hlt hn
      refine ⟨k + 1, r, .step k a m r hm ?_⟩
      rw [nextC_lcg]
      have := mjoin_old m _ (by omega) e
      rw [← this] at hk
      simpa using hk
theorem WH_all (st sz per : Nat) (h : st + sz ≤ 128) (h2 : per ≤ sz) (d : Nat) : ∀ (a : Nat) (m : Mask), a < 4294967296 → (per : Int) ≤ mcount m + d → ∃ k r, WH st sz per k a m r := by
  induction d with
  | zero => intro a m ha hd; exact ⟨0, m, .done a m (by omega)⟩
  | succ d ih =>
    intro a m ha hd
    by_cases hm : mcount m < per
    · obtain ⟨v, hv, hf⟩ := mcount_room m st sz h (by omega)
      obtain ⟨n, hn⟩ := lcg_hole (lcg 1664525 1013904223 4294967296 a) sz v (Nat.mod_lt _ (by omega)) (by omega) hv
      exact WH_from st sz per h h2 m hm (fun a' m' ha' hm' => ih a' m' ha' (by omega)) n a ha (by rw [hn]; exact hf)
    · exact ⟨0, m, .done a m hm⟩
theorem WH_fun {st sz per : Int} {k a m r} (h : WH st sz per k a m r) : ∀ {k' r'}, WH st sz per k' a m r' → k = k' ∧ r = r' := by
  induction h with
  | done a m h => intro k' r' h'; cases h' with
    | done => exact ⟨rfl, rfl⟩
    | step _ _ _ _ h2 => exact absurd h2 h
  | step k a m r h hs ih => intro k' r' h'; cases h' with
    | done _ _ h2 => exact absurd h h2
    | step _ _ _ _ _ hs' => obtain ⟨rfl, rfl⟩ := ih hs'; exact ⟨rfl, rfl⟩
end Go.Proofs.YtegopgpnjgikeaaGreatDoor
