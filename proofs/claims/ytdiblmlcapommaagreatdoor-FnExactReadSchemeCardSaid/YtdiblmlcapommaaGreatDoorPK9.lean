/-
  PK9: the texts J5 J6 N1 F0 P1 F5 F1 in one (written by pack.py).
-/
import Derived.Test.YtdiblmlcapommaaGreatDoorPK8
import Derived.Test.YtdiblmlcapommaaGreatDoorPK4
import Derived.Test.YtdiblmlcapommaaGreatDoorPK3
import Derived.Test.YtdiblmlcapommaaGreatDoorPK1
import Derived.Test.YtdiblmlcapommaaGreatDoorPK2
import Derived.IntWalk
set_option linter.unusedVariables false
set_option linter.unusedSimpArgs false
set_option maxRecDepth 100000
namespace Go.Proofs.YtdiblmlcapommaaGreatDoor
open Go.RowKit
/-- The word of a hole and its sign (true: filled). -/
def wd (p : Nat × Bool) : ByteArray := (if p.2 = true then ⟨#[45]⟩ else ⟨#[43]⟩) ++ decT p.1
def prs (t f : Mask) (k : Nat) : List (Nat × Bool) := (holesTo (mjoin t f) k).map fun h => (h.toNat, mhas f h)
theorem words_prs (t f : Mask) (k : Nat) : wordsW t f k = (prs t f k).map wd := by unfold wordsW prs; rw [List.map_map]; rfl
def tP (ps : List (Nat × Bool)) : Mask := ps.foldl (fun m p => if p.2 = true then m else mjoin m (mbit p.1)) 0
def fP (ps : List (Nat × Bool)) : Mask := ps.foldl (fun m p => if p.2 = true then mjoin m (mbit p.1) else m) 0
def lastP (ps : List (Nat × Bool)) : Int := ps.foldl (fun _ p => (p.1 : Int)) (-1)
theorem tP_snoc (ps : List (Nat × Bool)) (p : Nat × Bool) : tP (ps ++ [p]) = if p.2 = true then tP ps else mjoin (tP ps) (mbit p.1) := by unfold tP; rw [List.foldl_append]; rfl
theorem fP_snoc (ps : List (Nat × Bool)) (p : Nat × Bool) : fP (ps ++ [p]) = if p.2 = true then mjoin (fP ps) (mbit p.1) else fP ps := by unfold fP; rw [List.foldl_append]; rfl
theorem lastP_snoc (ps : List (Nat × Bool)) (p : Nat × Bool) : lastP (ps ++ [p]) = p.1 := by unfold lastP; rw [List.foldl_append]; rfl
theorem mhas_bitJ (k i : Nat) (hk : k < 128) : mhas (mbit k) i = decide (i = k) := by
  unfold mhas mbit
  rw [BitVec.getLsbD_shiftLeft]
  simp only [Int.toNat_natCast]
  by_cases h : i = k
  · subst h; simp [hk]
  · have h1 : decide (i = k) = false := decide_eq_false h
    rw [h1]
    by_cases h2 : i < k
    · simp [h2]
    · have h3 : BitVec.getLsbD 1#128 (i - k) = false := by rw [BitVec.getLsbD_one]; simp; omega
      rw [h3]; simp
theorem mask_extJ {a b : Mask} (h : ∀ i : Nat, i < 128 → mhas a i = mhas b i) : a = b := BitVec.eq_of_getLsbD_eq fun i hi => by have := h i hi; simpa [mhas] using this
theorem mask_highJ {m : Mask} (h : isMaskB m = true) (i : Nat) (hi : 96 ≤ i) : mhas m i = false := by
  unfold isMaskB at h
  rw [decide_eq_true_eq] at h
  show m.toNat.testBit i = false
  exact Nat.testBit_lt_two_pow (Nat.lt_of_lt_of_le h (Nat.pow_le_pow_right (n := 2) (by decide) hi))
theorem mask_lowJ {m : Mask} (h : ∀ i : Nat, 96 ≤ i → mhas m i = false) : isMaskB m = true := by
  unfold isMaskB
  rw [decide_eq_true_eq]
  show m.toNat < 2 ^ 96
  exact Nat.lt_pow_two_of_testBit _ (fun i hi => h i hi)
theorem tP_has (i : Nat) : ∀ ps : List (Nat × Bool), (∀ p ∈ ps, p.1 < 128) → mhas (tP ps) i = ps.any fun p => !p.2 && decide (i = p.1) := by
  refine snocRec ?_ ?_
  · intro _; show mhas 0 i = false; simp [mhas]
  · intro ps p ih h
    rw [tP_snoc, List.any_append, ← ih (fun q hq => h q (List.mem_append_left _ hq))]
    have hp := h p (List.mem_append_right _ (List.mem_singleton.2 rfl))
    cases h2 : p.2 with
    | true => rw [if_pos rfl]; simp [h2]
    | false => rw [if_neg (by decide), mhas_jn, mhas_bitJ _ _ hp]; simp [h2]
theorem fP_has (i : Nat) : ∀ ps : List (Nat × Bool), (∀ p ∈ ps, p.1 < 128) → mhas (fP ps) i = ps.any fun p => p.2 && decide (i = p.1) := by
  refine snocRec ?_ ?_
  · intro _; show mhas 0 i = false; simp [mhas]
  · intro ps p ih h
    rw [fP_snoc, List.any_append, ← ih (fun q hq => h q (List.mem_append_left _ hq))]
    have hp := h p (List.mem_append_right _ (List.mem_singleton.2 rfl))
    cases h2 : p.2 with
    | true => rw [if_pos rfl, mhas_jn, mhas_bitJ _ _ hp]; simp [h2]
    | false => rw [if_neg (by decide)]; simp [h2]
/-- Holes that rise. -/
def Inc (ps : List (Nat × Bool)) : Prop := ps.Pairwise (fun a b => a.1 < b.1) ∧ ∀ p ∈ ps, p.1 < 96
theorem inc_nil : Inc [] := ⟨List.Pairwise.nil, fun p h => by cases h⟩
theorem last_max : ∀ ps : List (Nat × Bool), Inc ps → ∀ p ∈ ps, (p.1 : Int) ≤ lastP ps := by
  refine snocRec ?_ ?_
  · intro _ p hp; cases hp
  · intro ps q _ h p hp
    rw [lastP_snoc]
    rcases List.mem_append.1 hp with hp | hp
    · have := (List.pairwise_append.1 h.1).2.2 p hp q (List.mem_singleton.2 rfl); omega
    · rw [List.mem_singleton.1 hp]; omega
theorem last_ge (ps : List (Nat × Bool)) : -1 ≤ lastP ps := by
  revert ps
  refine snocRec ?_ ?_
  · exact Int.le_refl _
  · intro ps q _; rw [lastP_snoc]; omega
theorem last_lt (ps : List (Nat × Bool)) (h : Inc ps) : lastP ps < 96 := by
  revert ps
  refine snocRec ?_ ?_
  · intro _; decide
  · intro ps q _ h
    rw [lastP_snoc]
    have := h.2 q (List.mem_append_right _ (List.mem_singleton.2 rfl))
    omega
theorem inc_snoc {ps : List (Nat × Bool)} (h : Inc ps) (p : Nat × Bool) (h1 : lastP ps < p.1) (h2 : p.1 < 96) : Inc (ps ++ [p]) :=
  ⟨List.pairwise_append.2 ⟨h.1, List.pairwise_singleton _ _, fun a ha b hb => by rw [List.mem_singleton.1 hb]; have := last_max ps h a ha; omega⟩,
   fun q hq => (List.mem_append.1 hq).elim (h.2 q) (fun hq => by rw [List.mem_singleton.1 hq]; exact h2)⟩
theorem inc_next {ps : List (Nat × Bool)} {p : Nat × Bool} (h : Inc (ps ++ [p])) : lastP ps < p.1 := by
  have h1 := (List.pairwise_append.1 h.1).2.2
  clear h
  revert h1
  refine snocRec (p := fun ps => (∀ a ∈ ps, ∀ b ∈ [p], a.1 < b.1) → lastP ps < p.1) ?_ ?_ ps
  · intro _; show (-1 : Int) < _; omega
  · intro ps q _ h1
    rw [lastP_snoc]
    have := h1 q (List.mem_append_right _ (List.mem_singleton.2 rfl)) p (List.mem_singleton.2 rfl)
    omega
theorem inc_take {ps : List (Nat × Bool)} (h : Inc ps) (k : Nat) : Inc (ps.take k) := ⟨h.1.sublist (List.take_sublist _ _), fun p hp => h.2 p (List.mem_of_mem_take hp)⟩
theorem prs_inc (t f : Mask) : ∀ k : Nat, k ≤ 96 → (prs t f k).Pairwise (fun a b => a.1 < b.1) ∧ (∀ p ∈ prs t f k, p.1 < k) ∧ ∀ p ∈ prs t f k, mhas (mjoin t f) p.1 = true ∧ p.2 = mhas f p.1
  | 0, _ => by unfold prs holesTo; exact ⟨List.Pairwise.nil, fun p h => (by cases h), fun p h => (by cases h)⟩
  | k + 1, hk => by
    obtain ⟨h1, h2, h3⟩ := prs_inc t f k (by omega)
    unfold prs at *
    cases h : mhas (mjoin t f) k with
    | true =>
      rw [holesTo_hit _ _ h, List.map_append, List.map_singleton]
      refine ⟨List.pairwise_append.2 ⟨h1, List.pairwise_singleton _ _, fun a ha b hb => by rw [List.mem_singleton.1 hb]; exact h2 a ha⟩, fun p hp => ?_, fun p hp => ?_⟩
      · rcases List.mem_append.1 hp with hp | hp
        · have := h2 p hp; omega
        · rw [List.mem_singleton.1 hp]; show (k : Int).toNat < _; omega
      · rcases List.mem_append.1 hp with hp | hp
        · exact h3 p hp
        · rw [List.mem_singleton.1 hp]; exact ⟨by rw [Int.toNat_natCast]; exact h, by rw [Int.toNat_natCast]⟩
    | false =>
      rw [holesTo_miss _ _ h]
      exact ⟨h1, fun p hp => by have := h2 p hp; omega, h3⟩
theorem prs_mem (t f : Mask) (i : Nat) : ∀ k : Nat, i < k → mhas (mjoin t f) i = true → (i, mhas f i) ∈ prs t f k
  | 0, h, _ => by omega
  | k + 1, h, hm => by
    have ih := prs_mem t f i k
    unfold prs at *
    by_cases e : i = k
    · subst e
      rw [holesTo_hit _ _ hm, List.map_append, List.map_singleton]
      exact List.mem_append_right _ (List.mem_singleton.2 (by rw [Int.toNat_natCast]))
    · cases h2 : mhas (mjoin t f) k with
      | true => rw [holesTo_hit _ _ h2, List.map_append]; exact List.mem_append_left _ (ih (by omega) hm)
      | false => rw [holesTo_miss _ _ h2]; exact ih (by omega) hm
theorem inc_prs (t f : Mask) : Inc (prs t f 96) := ⟨(prs_inc t f 96 (Nat.le_refl _)).1, (prs_inc t f 96 (Nat.le_refl _)).2.1⟩
theorem wear_parts {t f : Mask} (h : isWearB t f = true) : isMaskB t = true ∧ isMaskB f = true ∧ ∀ i : Nat, ¬ (mhas t i = true ∧ mhas f i = true) := by
  unfold isWearB at h
  rw [Bool.and_eq_true, Bool.and_eq_true] at h
  refine ⟨h.1.1, h.1.2, fun i hi => ?_⟩
  have h2 : mmeet t f = 0 := by have := h.2; unfold mzero at this; simpa using this
  have : mhas (mmeet t f) i = false := by rw [h2]; simp [mhas]
  unfold mmeet mhas at *
  rw [BitVec.getLsbD_and, hi.1, hi.2] at this
  cases this
theorem tP_prs {t f : Mask} (h : isWearB t f = true) : tP (prs t f 96) = t := by
  obtain ⟨h1, h2, h3⟩ := wear_parts h
  have hi := inc_prs t f
  refine mask_extJ fun i hi2 => ?_
  rw [tP_has i _ (fun p hp => Nat.lt_trans (hi.2 p hp) (by decide)), Bool.eq_iff_iff, List.any_eq_true]
  constructor
  · rintro ⟨p, hp, hq⟩
    obtain ⟨g1, g2⟩ := (prs_inc t f 96 (Nat.le_refl _)).2.2 p hp
    rw [Bool.and_eq_true, decide_eq_true_eq] at hq
    rw [← hq.2, mhas_jn, Bool.or_eq_true] at g1
    rw [hq.2]
    rw [hq.2] at g1
    rcases g1 with g1 | g1
    · exact g1
    · rw [← g2] at g1; rw [g1] at hq; cases hq.1
  · intro ht
    have hi96 : i < 96 := by
      by_cases e : i < 96
      · exact e
      · rw [mask_highJ h1 i (by omega)] at ht; cases ht
    refine ⟨(i, mhas f i), prs_mem t f i 96 hi96 (by rw [mhas_jn, ht]; rfl), ?_⟩
    have : mhas f i = false := by
      cases e : mhas f i with
      | false => rfl
      | true => exact absurd ⟨ht, e⟩ (h3 i)
    simp [this]
theorem fP_prs {t f : Mask} (h : isWearB t f = true) : fP (prs t f 96) = f := by
  obtain ⟨h1, h2, h3⟩ := wear_parts h
  have hi := inc_prs t f
  refine mask_extJ fun i hi2 => ?_
  rw [fP_has i _ (fun p hp => Nat.lt_trans (hi.2 p hp) (by decide)), Bool.eq_iff_iff, List.any_eq_true]
  constructor
  · rintro ⟨p, hp, hq⟩
    obtain ⟨g1, g2⟩ := (prs_inc t f 96 (Nat.le_refl _)).2.2 p hp
    rw [Bool.and_eq_true, decide_eq_true_eq] at hq
    rw [hq.2, ← g2]; exact hq.1
  · intro ht
    have hi96 : i < 96 := by
      by_cases e : i < 96
      · exact e
      · rw [mask_highJ h2 i (by omega)] at ht; cases ht
    exact ⟨(i, mhas f i), prs_mem t f i 96 hi96 (by rw [mhas_jn, ht, Bool.or_true]), by simp [ht]⟩
theorem inc_inj : ∀ {ps : List (Nat × Bool)}, ps.Pairwise (fun a b => a.1 < b.1) → ∀ {p q : Nat × Bool}, p ∈ ps → q ∈ ps → p.1 = q.1 → p = q
  | [], _, p, _, hp, _, _ => by cases hp
  | x :: ps, h, p, q, hp, hq, e => by
    rw [List.pairwise_cons] at h
    rcases List.mem_cons.1 hp with rfl | hp'
    · rcases List.mem_cons.1 hq with rfl | hq'
      · rfl
      · have := h.1 q hq'; omega
    · rcases List.mem_cons.1 hq with rfl | hq'
      · have := h.1 p hp'; omega
      · exact inc_inj h.2 hp' hq' e
theorem inc_ext : ∀ {a b : List (Nat × Bool)}, a.Pairwise (fun a b => a.1 < b.1) → b.Pairwise (fun a b => a.1 < b.1) → (∀ p, p ∈ a ↔ p ∈ b) → a = b
  | [], [], _, _, _ => rfl
  | [], y :: b, _, _, h => by have := (h y).2 (List.mem_cons_self ..); cases this
  | x :: a, [], _, _, h => by have := (h x).1 (List.mem_cons_self ..); cases this
  | x :: a, y :: b, ha, hb, h => by
    rw [List.pairwise_cons] at ha hb
    have e : x = y := by
      rcases List.mem_cons.1 ((h x).1 (List.mem_cons_self ..)) with e | e
      · exact e
      · rcases List.mem_cons.1 ((h y).2 (List.mem_cons_self ..)) with e2 | e2
        · exact e2.symm
        · have := hb.1 x e; have := ha.1 y e2; omega
    subst e
    rw [inc_ext ha.2 hb.2 (fun p => ?_)]
    constructor
    · intro hp
      rcases List.mem_cons.1 ((h p).1 (List.mem_cons_of_mem _ hp)) with e | e
      · have := ha.1 p hp; rw [e] at this; omega
      · exact e
    · intro hp
      rcases List.mem_cons.1 ((h p).2 (List.mem_cons_of_mem _ hp)) with e | e
      · have := hb.1 p hp; rw [e] at this; omega
      · exact e
theorem inc_128 {ps : List (Nat × Bool)} (h : Inc ps) : ∀ p ∈ ps, p.1 < 128 := fun p hp => Nat.lt_trans (h.2 p hp) (by decide)
theorem tP_mem {ps : List (Nat × Bool)} (h : Inc ps) {i : Nat} (hi : mhas (tP ps) i = true) : (i, false) ∈ ps := by
  rw [tP_has i _ (inc_128 h), List.any_eq_true] at hi
  obtain ⟨q, hq, e⟩ := hi
  rw [Bool.and_eq_true, decide_eq_true_eq] at e
  have : q = (i, false) := Prod.ext e.2.symm (by simpa using e.1)
  rw [← this]; exact hq
theorem fP_mem {ps : List (Nat × Bool)} (h : Inc ps) {i : Nat} (hi : mhas (fP ps) i = true) : (i, true) ∈ ps := by
  rw [fP_has i _ (inc_128 h), List.any_eq_true] at hi
  obtain ⟨q, hq, e⟩ := hi
  rw [Bool.and_eq_true, decide_eq_true_eq] at e
  have : q = (i, true) := Prod.ext e.2.symm e.1
  rw [← this]; exact hq
theorem mem_tP {ps : List (Nat × Bool)} (h : Inc ps) {i : Nat} (hi : (i, false) ∈ ps) : mhas (tP ps) i = true := by
  rw [tP_has i _ (inc_128 h), List.any_eq_true]
  exact ⟨_, hi, by simp⟩
theorem mem_fP {ps : List (Nat × Bool)} (h : Inc ps) {i : Nat} (hi : (i, true) ∈ ps) : mhas (fP ps) i = true := by
  rw [fP_has i _ (inc_128 h), List.any_eq_true]
  exact ⟨_, hi, by simp⟩
theorem inc_wear {ps : List (Nat × Bool)} (h : Inc ps) : isWearB (tP ps) (fP ps) = true := by
  have hb : ∀ i : Nat, ¬ (mhas (tP ps) i = true ∧ mhas (fP ps) i = true) := fun i hi => by
    have := inc_inj h.1 (tP_mem h hi.1) (fP_mem h hi.2) rfl
    cases this
  have h1 : isMaskB (tP ps) = true := mask_lowJ fun i hi => by
    cases e : mhas (tP ps) i with
    | false => rfl
    | true => have := h.2 _ (tP_mem h e); simp at this; omega
  have h2 : isMaskB (fP ps) = true := mask_lowJ fun i hi => by
    cases e : mhas (fP ps) i with
    | false => rfl
    | true => have := h.2 _ (fP_mem h e); simp at this; omega
  have h3 : mmeet (tP ps) (fP ps) = 0 := mask_extJ fun i hi => by
    have e : mhas (mmeet (tP ps) (fP ps)) i = (mhas (tP ps) i && mhas (fP ps) i) := by simp [mhas, mmeet]
    have e0 : mhas 0 i = false := by simp [mhas]
    rw [e, e0, Bool.and_eq_false_iff]
    cases e1 : mhas (tP ps) i with
    | false => exact .inl rfl
    | true =>
      cases e2 : mhas (fP ps) i with
      | false => exact .inr rfl
      | true => exact absurd ⟨e1, e2⟩ (hb i)
  unfold isWearB
  rw [h1, h2, h3]; rfl
theorem prs_of {ps : List (Nat × Bool)} (h : Inc ps) : prs (tP ps) (fP ps) 96 = ps := by
  refine inc_ext (inc_prs _ _).1 h.1 fun p => ?_
  constructor
  · intro hp
    obtain ⟨g1, g2⟩ := (prs_inc (tP ps) (fP ps) 96 (Nat.le_refl _)).2.2 p hp
    cases h2 : p.2 with
    | true =>
      have := fP_mem h (i := p.1) (by rw [← g2, h2])
      rwa [← h2] at this
    | false =>
      rw [h2] at g2
      rw [mhas_jn, ← g2, Bool.or_false] at g1
      have := tP_mem h g1
      rwa [← h2] at this
  · intro hp
    have h96 := h.2 p hp
    have e : mhas (fP ps) p.1 = p.2 := by
      cases h2 : p.2 with
      | true => exact mem_fP h (by rw [← h2]; exact hp)
      | false =>
        cases e : mhas (fP ps) p.1 with
        | false => rfl
        | true =>
          have := inc_inj h.1 hp (fP_mem h e) rfl
          rw [this] at h2; cases h2
    have hj : mhas (mjoin (tP ps) (fP ps)) p.1 = true := by
      rw [mhas_jn]
      cases h2 : p.2 with
      | true => rw [h2] at e; rw [e, Bool.or_true]
      | false => rw [mem_tP h (i := p.1) (by rw [← h2]; exact hp)]; rfl
    have := prs_mem (tP ps) (fP ps) p.1 96 h96 hj
    rwa [e] at this
end Go.Proofs.YtdiblmlcapommaaGreatDoor
set_option linter.unusedVariables false
set_option linter.unusedSimpArgs false
set_option maxRecDepth 100000
namespace Go.Proofs.YtdiblmlcapommaaGreatDoor
open Go.RowKit
theorem digits_all (n : Nat) : ∀ c ∈ Lib.decDigits n, 48 ≤ c.toNat ∧ c.toNat ≤ 57 := by
  induction n using Nat.strongRecOn with
  | _ n ih =>
    intro c hc
    by_cases h : n < 10
    · rw [Lib.decDigits, dif_pos h, List.mem_singleton] at hc
      rw [hc, UInt8.toNat_ofNat']; omega
    · rw [Lib.decDigits, dif_neg h, List.mem_append, List.mem_singleton] at hc
      rcases hc with hc | hc
      · exact ih (n / 10) (by omega) c hc
      · rw [hc, UInt8.toNat_ofNat']; omega
theorem decT_data (n : Nat) : (decT n).data.toList = Lib.decDigits n := by unfold decT; rw [List.toList_toArray]
theorem decT_clean (n : Nat) : hasC 32 (decT n) = false := by
  unfold hasC
  rw [decT_data, List.any_eq_false]
  intro c hc e
  have := digits_all n c hc
  rw [beq_iff_eq] at e
  rw [e] at this
  exact absurd this.1 (by decide)
theorem wd_clean (p : Nat × Bool) : hasC 32 (wd p) = false := by
  unfold wd
  rw [hasC_app, decT_clean, Bool.or_false]
  cases p.2 <;> rfl
theorem joinB_cons2 (y z : ByteArray) (r : List ByteArray) : joinB (y :: z :: r) = y ++ (⟨#[32]⟩ ++ joinB (z :: r)) := by
  unfold joinB
  rw [List.map_cons, List.map_cons, Lib.join_cons, Lib.join_cons]
  unfold Lib.joinTail
  rw [List.map_cons, List.flatten_cons, List.append_assoc, mk_app, mk_app [32]]
theorem split_join : ∀ (ws : List ByteArray), ws ≠ [] → (∀ x ∈ ws, hasC 32 x = false) → splitC 32 (joinB ws) = ws
  | [], h, _ => absurd rfl h
  | [y], _, h => by rw [joinB_one]; exact splitC_none (h y (List.mem_cons_self ..))
  | y :: z :: r, _, h => by
    rw [joinB_cons2, splitC_app (h y (List.mem_cons_self ..)), split_join (z :: r) (List.cons_ne_nil _ _) (fun x hx => h x (List.mem_cons_of_mem _ hx))]
theorem part_at {c : UInt8} : ∀ (l : List UInt8), l.any (· == c) = true → ∃ a t, l = a ++ (c :: t) ∧ a.any (· == c) = false
  | [], h => by simp at h
  | x :: l, h => by
    by_cases e : x = c
    · exact ⟨[], l, by rw [e]; rfl, rfl⟩
    · rw [List.any_cons, Bool.or_eq_true] at h
      obtain ⟨a, t, h1, h2⟩ := part_at l (h.resolve_left (fun h => e (by simpa using h)))
      exact ⟨x :: a, t, by rw [h1]; rfl, by rw [List.any_cons, h2, Bool.or_false]; simpa using e⟩
theorem split_ne (s : ByteArray) : splitC 32 s ≠ [] := fun e => by
  have := splitC_len s 32
  rw [e] at this
  simp at this
theorem join_split : ∀ (n : Nat) (s : ByteArray), s.size ≤ n → joinB (splitC 32 s) = s := by
  intro n
  induction n with
  | zero =>
    intro s hs
    obtain rfl : s = ⟨#[]⟩ := size_zero (by omega)
    rw [splitC_none (by rfl), joinB_one]
  | succ n ih =>
    intro s hs
    cases h : hasC 32 s with
    | false => rw [splitC_none h, joinB_one]
    | true =>
      obtain ⟨a, t, e, ha⟩ := part_at s.data.toList h
      have hs2 : s = ⟨a.toArray⟩ ++ (⟨#[32]⟩ ++ ⟨t.toArray⟩) := by
        rw [← mk_app [32], ← mk_app]
        show s = ⟨(a ++ (32 :: t)).toArray⟩
        rw [← e, Array.toArray_toList]
      have hsz : t.length + 1 ≤ s.size := by
        have : s.data.toList.length = s.size := rfl
        rw [e, List.length_append, List.length_cons] at this
        omega
      rw [hs2, splitC_app (by unfold hasC; rw [List.toList_toArray]; exact ha)]
      have ih := ih ⟨t.toArray⟩ (by show t.toArray.size ≤ n; rw [List.size_toArray]; omega)
      cases hq : splitC 32 (⟨t.toArray⟩ : ByteArray) with
      | nil => exact absurd hq (split_ne _)
      | cons z r => rw [joinB_cons2, ← hq, ih]
/-- The wear (t, f) is valid and has this text. -/
def good (s : ByteArray) (t f : Mask) : Prop := isWearB t f = true ∧ wearT t f = s
theorem wear_join (t f : Mask) : wearT t f = joinB ((prs t f 96).map wd) := by rw [← words_prs]; rfl
theorem wd_size (p : Nat × Bool) : 2 ≤ (wd p).size := by
  unfold wd
  rw [app_size]
  have h1 : (if p.2 = true then (⟨#[45]⟩ : ByteArray) else ⟨#[43]⟩).size = 1 := by split <;> rfl
  have h2 : 1 ≤ (decT p.1).size := by
    show 1 ≤ (decT p.1).data.toList.length
    rw [decT_data, Lib.decDigits]
    split <;> simp
  omega
theorem good_words {s : ByteArray} {t f : Mask} (h : good s t f) (hs : s.size ≠ 0) : splitC 32 s = (prs t f 96).map wd := by
  rw [← h.2, wear_join]
  refine split_join _ (fun e => hs ?_) (fun x hx => ?_)
  · rw [← h.2, wear_join, e]; unfold joinB; rfl
  · obtain ⟨p, _, rfl⟩ := List.mem_map.1 hx; exact wd_clean p
theorem good_zero {s : ByteArray} {t f : Mask} (h : good s t f) (hs : s.size = 0) : t = 0 ∧ f = 0 := by
  have e : prs t f 96 = [] := by
    cases hq : prs t f 96 with
    | nil => rfl
    | cons p r =>
      have h2 := joinB_size (ws := (prs t f 96).map wd) (by rw [hq]; exact List.cons_ne_nil _ _) (fun x hx => by obtain ⟨p, _, rfl⟩ := List.mem_map.1 hx; have := wd_size p; omega)
      rw [← wear_join, h.2] at h2
      exact absurd hs h2
  exact ⟨by rw [← tP_prs h.1, e]; rfl, by rw [← fP_prs h.1, e]; rfl⟩
theorem good_empty {s : ByteArray} (hs : s.size = 0) : good s 0 0 := by
  have e : prs 0 0 96 = [] := by
    have := prs_of inc_nil
    exact this
  exact ⟨by decide +kernel, by rw [wear_join, e, size_zero hs]; unfold joinB; rfl⟩
theorem good_of {s : ByteArray} {ps : List (Nat × Bool)} (hi : Inc ps) (h : splitC 32 s = ps.map wd) : good s (tP ps) (fP ps) :=
  ⟨inc_wear hi, by rw [wear_join, prs_of hi, ← h]; exact join_split _ s (Nat.le_refl _)⟩
theorem wd_data (p : Nat × Bool) : (wd p).data.toList = (if p.2 = true then 45 else 43) :: Lib.decDigits p.1 := by
  unfold wd
  rw [app_data, decT_data]
  cases p.2 <;> rfl
theorem wd_inj {p q : Nat × Bool} (h : wd p = wd q) (hp : p.1 < 100) (hq : q.1 < 100) : p = q := by
  have e := congrArg (fun s : ByteArray => s.data.toList) h
  simp only [wd_data, List.cons.injEq] at e
  have e1 : p.1 = q.1 := by rw [← (num_small p.1 hp).2, ← (num_small q.1 hq).2, e.2]
  have e2 : p.2 = q.2 := by
    have := e.1
    cases h1 : p.2 <;> cases h2 : q.2 <;> rw [h1, h2] at this <;> first | rfl | exact absurd this (by decide)
  exact Prod.ext e1 e2
theorem map_inj : ∀ (a b : List (Nat × Bool)), (∀ p ∈ a, p.1 < 96) → (∀ p ∈ b, p.1 < 96) → a.map wd = b.map wd → a = b
  | [], [], _, _, _ => rfl
  | [], y :: b, _, _, h => by cases h
  | x :: a, [], _, _, h => by cases h
  | x :: a, y :: b, ha, hb, h => by
    rw [List.map_cons, List.map_cons, List.cons.injEq] at h
    have h1 := ha x (List.mem_cons_self ..)
    have h2 := hb y (List.mem_cons_self ..)
    rw [wd_inj h.1 (by omega) (by omega), map_inj a b (fun p hp => ha p (List.mem_cons_of_mem _ hp)) (fun p hp => hb p (List.mem_cons_of_mem _ hp)) h.2]
theorem good_uniq {s : ByteArray} {t f t' f' : Mask} (h : good s t f) (h' : good s t' f') : t = t' ∧ f = f' := by
  by_cases hs : s.size = 0
  · obtain ⟨rfl, rfl⟩ := good_zero h hs
    obtain ⟨rfl, rfl⟩ := good_zero h' hs
    exact ⟨rfl, rfl⟩
  · have e := map_inj _ _ (inc_prs t f).2 (inc_prs t' f').2 ((good_words h hs).symm.trans (good_words h' hs))
    exact ⟨by rw [← tP_prs h.1, e, tP_prs h'.1], by rw [← fP_prs h.1, e, fP_prs h'.1]⟩
/-- What reading a text answers. -/
def RW (s : ByteArray) (t f : Mask) (c : Int) : Prop := (c = 0 ∧ good s t f) ∨ (c = 5 ∧ t = 0 ∧ f = 0 ∧ ∀ t' f', ¬ good s t' f')
theorem RW.uniq {s : ByteArray} {t f t' f' : Mask} {c c' : Int} (h : RW s t f c) (h' : RW s t' f' c') : t = t' ∧ f = f' ∧ c = c' := by
  rcases h with ⟨rfl, h⟩ | ⟨rfl, rfl, rfl, h⟩
  · rcases h' with ⟨rfl, h'⟩ | ⟨_, _, _, h'⟩
    · obtain ⟨rfl, rfl⟩ := good_uniq h h'; exact ⟨rfl, rfl, rfl⟩
    · exact absurd h (h' t f)
  · rcases h' with ⟨rfl, h'⟩ | ⟨rfl, rfl, rfl, _⟩
    · exact absurd h' (h t' f')
    · exact ⟨rfl, rfl, rfl⟩
/-- A word parted into its first byte and the rest. -/
theorem first_rest {x : ByteArray} (h : 1 ≤ x.size) : x.data.toList = x[0] :: (x.extract 1 x.size).data.toList := by
  have hl : x.data.toList.length = x.size := rfl
  have e : (x.extract 1 x.size).data.toList = x.data.toList.drop 1 := by
    rw [extr_data]
    exact List.take_of_length_le (by rw [List.length_drop]; omega)
  rw [e]
  cases hq : x.data.toList with
  | nil => rw [hq] at hl; simp at hl; omega
  | cons a r =>
    have : x[0] = a := by
      show x.data.toList[0]'_ = a
      simp [hq]
    rw [this]; rfl
theorem wd_of {x : ByteArray} {n : Nat} (h : 1 ≤ x.size) (b : Bool) (h0 : x[0] = (if b = true then 45 else 43)) (h1 : x.extract 1 x.size = decT n) : x = wd (n, b) := by
  refine ByteArray.ext (Array.toList_inj.1 ?_)
  rw [wd_data, first_rest h, h0, h1, decT_data]
theorem wd_first (p : Nat × Bool) : (wd p)[0]'(by have := wd_size p; omega) = if p.2 = true then 45 else 43 := by
  have h := first_rest (x := wd p) (by have := wd_size p; omega)
  rw [wd_data, List.cons.injEq] at h
  exact h.1.symm
theorem wd_rest (p : Nat × Bool) : (wd p).extract 1 (wd p).size = decT p.1 := by
  have h := first_rest (x := wd p) (by have := wd_size p; omega)
  rw [wd_data, List.cons.injEq] at h
  exact ByteArray.ext (Array.toList_inj.1 (by rw [← h.2, decT_data]))
end Go.Proofs.YtdiblmlcapommaaGreatDoor
set_option linter.unusedVariables false
set_option linter.unusedSimpArgs false
namespace Go.Proofs.YtdiblmlcapommaaGreatDoor
open Go.RowKit
def isLow (c : UInt8) : Bool := decide (97 ≤ c.toNat) && decide (c.toNat ≤ 122)
abbrev lowSet : ByteArray := ⟨#[97, 98, 99, 100, 101, 102, 103, 104, 105, 106, 107, 108, 109, 110, 111, 112, 113, 114, 115, 116, 117, 118, 119, 120, 121, 122]⟩
theorem inS_low (c : UInt8) : inS lowSet.data.toList c = isLow c := by
  have h : ∀ n : Fin 256, inS lowSet.data.toList (UInt8.ofNat n.val) = isLow (UInt8.ofNat n.val) := by decide +kernel
  have := h ⟨c.toNat, c.toNat_lt⟩
  simpa using this
/-- Is a text a name? -/
def isNameB (s : ByteArray) : Bool := decide (1 ≤ s.size) && (decide (s.size ≤ 16) && s.data.toList.all isLow)
set_option maxRecDepth 100000 in
set_option maxHeartbeats 400000 in
theorem impl_isName (s : ByteArray) (w : World) (hs : s.size ≤ 9223372036854775807) :
    Calls Tryz.prog 46 #[.string s] w fun e w' => e = .returned (.bool (isNameB s)) ∧ Ext w w' := by
  by_cases h1 : 1 ≤ s.size
  · by_cases h2 : s.size ≤ 16
    · have hv : isNameB s = s.data.toList.all isLow := by simp [isNameB, h1, h2]
      go_enter Tryz.func46, Tryz.ntmps46
      go_wp2_with fail
      refine Calls.mono (strings_Trim s lowSet _ hs (by decide) (by decide) (by decide)) ?_
      rintro e w1 ⟨t, rfl, ht, hz, hb1⟩
      have hall : t.toList.isEmpty = s.data.toList.all isLow := by
        rw [ByteArray.toList_eq, ht, Bool.eq_iff_iff, List.isEmpty_iff, trimLR_nil_iff]
        rw [List.all_eq_true, List.all_eq_true]
        exact ⟨fun h x hx => (inS_low x).symm.trans (h x hx), fun h x hx => (inS_low x).trans (h x hx)⟩
      rw [← hall] at hv
      clear hall ht
      cases hq : t.toList.isEmpty
      all_goals
        rw [hq] at hv
        go_wp2
        go_ret
        exact ⟨by first | rfl | (rw [hv]; rfl), hb1⟩
    · have hv : isNameB s = false := by simp [isNameB, h2]
      go_enter Tryz.func46, Tryz.ntmps46
      go_wp2
      go_ret
      exact ⟨by first | rfl | (rw [hv]; rfl), Ext.refl _⟩
  · have hv : isNameB s = false := by simp [isNameB, h1]
    go_enter Tryz.func46, Tryz.ntmps46
    go_wp2
    go_ret
    exact ⟨by first | rfl | (rw [hv]; rfl), Ext.refl _⟩
set_option maxHeartbeats 400000 in
theorem spec_l01Name (s : ByteArray) (w : World) (hs : s.size ≤ 9223372036854775807) :
    Calls Tryz.prog 35 #[.string s] w fun e w' => e = .returned (.bool (isNameB s)) ∧ Ext w w' := by
  go_enter Tryz.func35, Tryz.ntmps35
  go_wp2
  go_loopg [3] s.size (fun g i wr => ∃ k : Nat, g = s.size - k ∧ k ≤ s.size ∧ i = .int .i64 k ∧ Ext w wr ∧ (s.data.toList.take k).all isLow = true)
  case atStart => exact ⟨0, by omega, by omega, rfl, Ext.refl _, by rw [List.take_zero]; rfl⟩
  case round =>
    obtain ⟨k, hg, hk, rfl, hw, hQ⟩ := hrel
    by_cases hkl : k < s.size
    · have hk2 : k < s.data.toList.length := hkl
      have hT := all_take isLow s.data.toList k hk2
      rw [hQ, Bool.true_and, show s.data.toList[k] = s[k] from rfl] at hT
      by_cases ha : s[k].toNat < 97
      · have hv : isNameB s = false := by
          have := all_miss isLow s.data.toList k hk2 (by rw [show s.data.toList[k] = s[k] from rfl, isLow, Bool.and_eq_false_iff, decide_eq_false_iff_not, decide_eq_false_iff_not]; omega)
          simp [isNameB, this]
        have d1 : ((s[k].toNat : Int) < 97) = True := by simp; omega
        clear hT hQ
        go_wp2
        go_ret
        exact ⟨by first | rfl | (rw [hv]; rfl), hw⟩
      · by_cases hb : 122 < s[k].toNat
        · have hv : isNameB s = false := by
            have := all_miss isLow s.data.toList k hk2 (by rw [show s.data.toList[k] = s[k] from rfl, isLow, Bool.and_eq_false_iff, decide_eq_false_iff_not, decide_eq_false_iff_not]; omega)
            simp [isNameB, this]
          have d1 : ((s[k].toNat : Int) < 97) = False := by simp; omega
          have d2 : ((122 : Int) < (s[k].toNat : Int)) = True := by simp; omega
          clear hT hQ
          go_wp2
          go_ret
          exact ⟨by first | rfl | (rw [hv]; rfl), hw⟩
        · have hT2 : (s.data.toList.take (k + 1)).all isLow = true := by rw [hT]; simp [isLow]; omega
          have d1 : ((s[k].toNat : Int) < 97) = False := by simp; omega
          have d2 : ((122 : Int) < (s[k].toNat : Int)) = False := by simp; omega
          have hT2' := hd hT2
          clear hT hT2 hQ
          go_wp2
          go_roundg (s.size - (k + 1))
          case rel => exact ⟨k + 1, rfl, hkl, rfl, hw, hT2'.out⟩
          case measure => omega
    · obtain rfl : k = s.size := by omega
      rw [show s.data.toList.take s.size = s.data.toList from List.take_length] at hQ
      have hv : isNameB s = inB s.size 1 16 := by
        simp only [isNameB, hQ, Bool.and_true, inB]
        congr 1 <;> rw [decide_eq_decide] <;> omega
      clear hQ
      go_wp2_with fail
      refine Calls.mono (spec_l00In _ _ _ _) ?_
      rintro e w1 ⟨rfl, hb1⟩
      go_wp2
      go_ret
      exact ⟨by first | rfl | (rw [hv]; rfl), by ((repeat (first | with_reducible exact Ext.refl _ | with_reducible exact hw | with_reducible exact hb9 | with_reducible exact hb8 | with_reducible exact hb7 | with_reducible exact hb6 | with_reducible exact hb5 | with_reducible exact hb4 | with_reducible exact hb3 | with_reducible exact hb2 | with_reducible exact hb1 | with_reducible refine Ext.alloc ?_ _ | with_reducible refine Ext.drew ?_ | ((with_reducible refine Ext.set ?_ ?_ _); focus (dsimp only; omega)) | with_reducible refine Ext.trans ?_ hb9 | with_reducible refine Ext.trans ?_ hb8 | with_reducible refine Ext.trans ?_ hb7 | with_reducible refine Ext.trans ?_ hb6 | with_reducible refine Ext.trans ?_ hb5 | with_reducible refine Ext.trans ?_ hb4 | with_reducible refine Ext.trans ?_ hb3 | with_reducible refine Ext.trans ?_ hb2 | with_reducible refine Ext.trans ?_ hb1 | with_reducible refine Ext.trans ?_ hw)))⟩
end Go.Proofs.YtdiblmlcapommaaGreatDoor
set_option linter.unusedVariables false
namespace Go.Proofs.YtdiblmlcapommaaGreatDoor
open Go.RowKit
structure Fld where
  nm : ByteArray
  kd : Int
  st : Int
  sz : Int
/-- The greatest size of a field of a kind. -/
def mostSz (kd : Int) : Int := if kd = 0 then 24 else if kd = 3 then 12 else 4
/-- How many holes a field has. -/
def manyF (kd sz : Int) : Int := if kd = 1 then 4 * sz else if kd = 2 then 5 * sz else if kd = 3 then sz + 1 else sz
/-- Is a field valid? -/
def fldB (f : Fld) : Bool := isNameB f.nm && decide (0 ≤ f.kd ∧ f.kd ≤ 3 ∧ 0 ≤ f.st ∧ 1 ≤ f.sz ∧ f.sz ≤ mostSz f.kd ∧ f.st + manyF f.kd f.sz ≤ 96)
/-- Its numbers are in their kinds' bounds. -/
def Fld.ok (f : Fld) : Prop := (-128 ≤ f.kd ∧ f.kd < 128) ∧ (-32768 ≤ f.st ∧ f.st < 32768) ∧ (-32768 ≤ f.sz ∧ f.sz < 32768)
/-- The greatest value of a field. -/
def mostF (f : Fld) : Int := if f.kd = 0 then f.sz - 1 else if f.kd = 3 then 2 ^ f.sz.toNat - 1 else 10 ^ f.sz.toNat - 1
/-- What LeastDistance returns. -/
def leastF (f : Fld) : Int × Int := if fldB f = true then (if f.kd = 1 then (1, 0) else if mostF f = 0 then (0, 0) else (2, 0)) else (0, 1)
theorem mostF_zero {f : Fld} (h : 1 ≤ f.sz) : mostF f = 0 ↔ f.kd = 0 ∧ f.sz = 1 := by
  have hz : ∃ n : Nat, f.sz.toNat = n + 1 := ⟨f.sz.toNat - 1, by omega⟩
  obtain ⟨n, hn⟩ := hz
  unfold mostF
  split
  · constructor
    · intro h1; exact ⟨by assumption, by omega⟩
    · rintro ⟨_, h1⟩; omega
  · rename_i h0
    have p2 : (1 : Int) ≤ 2 ^ n := by
      have := Nat.one_le_two_pow (n := n)
      exact_mod_cast this
    have p10 : (1 : Int) ≤ 10 ^ n := by
      have : 1 ≤ 10 ^ n := Nat.one_le_pow _ _ (by omega)
      exact_mod_cast this
    split
    · rw [hn, Int.pow_succ]
      constructor
      · intro h1; omega
      · rintro ⟨h1, _⟩; exact absurd h1 h0
    · rw [hn, Int.pow_succ]
      constructor
      · intro h1; omega
      · rintro ⟨h1, _⟩; exact absurd h1 h0
end Go.Proofs.YtdiblmlcapommaaGreatDoor
set_option linter.unusedVariables false
namespace Go.Proofs.YtdiblmlcapommaaGreatDoor
open Go.RowKit

/-- How many of the first n bits are set. -/
def pcf : Nat → Nat → Nat
  | 0, _ => 0
  | n + 1, x => x % 2 + pcf n (x / 2)
theorem pcf_zero (n : Nat) : pcf n 0 = 0 := by induction n with
  | zero => rfl
  | succ n ih => simp [pcf, ih]
theorem pcf_le (n x : Nat) : pcf n x ≤ n := by
  induction n generalizing x with
  | zero => simp [pcf]
  | succ n ih => have := ih (x / 2); simp only [pcf]; omega
theorem pcf_add (a n x : Nat) : pcf (a + n) x = pcf a (x % 2 ^ a) + pcf n (x / 2 ^ a) := by
  induction a generalizing x with
  | zero => simp [pcf]
  | succ a ih =>
    rw [show a + 1 + n = (a + n) + 1 by omega]
    simp only [pcf]
    rw [ih, Nat.div_div_eq_div_mul, ← Nat.pow_succ', show x % 2 ^ (a + 1) % 2 = x % 2 by rw [Nat.pow_succ', Nat.mod_mul_right_mod], show x % 2 ^ (a + 1) / 2 = x / 2 % 2 ^ a by rw [Nat.pow_succ', Nat.mod_mul_right_div_self]]
    simp only [Nat.succ_eq_add_one]
    omega
def pat (d : Nat) : Nat → Nat
  | 0 => 0
  | k + 1 => 256 * pat d k + d
theorem and_byte (q p b d : Nat) (hb : b < 256) (hd : d < 256) : (256 * q + b) &&& (256 * p + d) = 256 * (q &&& p) + (b &&& d) := by
  have h1 : ((256 * q + b) &&& (256 * p + d)) / 2 ^ 8 = q &&& p := by
    rw [Nat.and_div_two_pow]; congr 1 <;> omega
  have h2 : ((256 * q + b) &&& (256 * p + d)) % 2 ^ 8 = b &&& d := by
    rw [Nat.and_mod_two_pow]; congr 1 <;> omega
  omega
def sw1 (k x : Nat) : Nat := (x / 2 &&& pat 85 k) + (x &&& pat 85 k)
def sw2 (k x : Nat) : Nat := (x / 4 &&& pat 51 k) + (x &&& pat 51 k)
def sw3 (k x : Nat) : Nat := (x / 16 + x) &&& pat 15 k
theorem t1 : ∀ b, b < 256 → ∀ c, c < 2 → ((c * 128 + b / 2) &&& 85) = (b / 2 &&& 85) ∧ (b / 2 &&& 85) + (b &&& 85) < 256 := by decide +kernel
theorem t2 : ∀ b, b < 256 → ∀ c, c < 4 → ((c * 64 + b / 4) &&& 51) = (b / 4 &&& 51) ∧ (b / 4 &&& 51) + (b &&& 51) ≤ 204 := by decide +kernel
theorem t4 : ∀ b, b < 256 → (sw1 1 b) < 256 ∧ (sw2 1 (sw1 1 b)) % 16 ≤ 4 ∧ (sw2 1 (sw1 1 b)) / 16 ≤ 4 ∧ sw3 1 (sw2 1 (sw1 1 b)) = pcf 8 b := by decide +kernel
theorem t3 : ∀ b, b < 256 → b % 16 ≤ 4 → b / 16 ≤ 4 → ∀ c, c < 5 → ((c * 16 + (b / 16 + b)) &&& 15) = (b / 16 + b) &&& 15 := by decide +kernel
theorem one_pat (d : Nat) : pat d 1 = d := by simp [pat]
theorem sw1_step (k q b : Nat) (hb : b < 256) : sw1 (k + 1) (256 * q + b) = 256 * sw1 k q + sw1 1 b := by
  unfold sw1
  have h := t1 b hb (q % 2) (by omega)
  rw [show (256 * q + b) / 2 = 256 * (q / 2) + (q % 2 * 128 + b / 2) by omega, one_pat]
  simp only [pat]
  rw [and_byte _ _ _ _ (by omega) (by omega), and_byte _ _ _ _ hb (by omega), h.1]
  omega
theorem sw2_step (k q b : Nat) (hb : b < 256) : sw2 (k + 1) (256 * q + b) = 256 * sw2 k q + sw2 1 b := by
  unfold sw2
  have h := t2 b hb (q % 4) (by omega)
  rw [show (256 * q + b) / 4 = 256 * (q / 4) + (q % 4 * 64 + b / 4) by omega, one_pat]
  simp only [pat]
  rw [and_byte _ _ _ _ (by omega) (by omega), and_byte _ _ _ _ hb (by omega), h.1]
  omega
theorem sw3_step (k q b : Nat) (hb : b < 256) (h1 : b % 16 ≤ 4) (h2 : b / 16 ≤ 4) (hq : q % 16 ≤ 4) : sw3 (k + 1) (256 * q + b) = 256 * sw3 k q + sw3 1 b := by
  unfold sw3
  have h := t3 b hb h1 h2 (q % 16) (by omega)
  rw [show (256 * q + b) / 16 + (256 * q + b) = 256 * (q / 16 + q) + (q % 16 * 16 + (b / 16 + b)) by omega, one_pat]
  simp only [pat]
  rw [and_byte _ _ _ _ (by omega) (by omega), h]
/-- The sums of the bytes' bits, byte by byte. -/
def bsum : Nat → Nat → Nat
  | 0, _ => 0
  | k + 1, x => 256 * bsum k (x / 256) + pcf 8 (x % 256)
theorem sw_zero (k : Nat) : sw1 0 0 = 0 ∧ sw2 0 0 = 0 ∧ sw3 0 0 = 0 := by decide
theorem sw_all (k x : Nat) (hx : x < 256 ^ k) : sw3 k (sw2 k (sw1 k x)) = bsum k x ∧ (sw2 k (sw1 k x)) % 16 ≤ 4 := by
  induction k generalizing x with
  | zero =>
    obtain rfl : x = 0 := by simpa using hx
    decide
  | succ k ih =>
    have hb : x % 256 < 256 := by omega
    have h4 := t4 _ hb
    have hq := ih (x / 256) (by rw [Nat.pow_succ] at hx; omega)
    have e : x = 256 * (x / 256) + x % 256 := by omega
    have e1 : sw1 (k + 1) x = 256 * sw1 k (x / 256) + sw1 1 (x % 256) := by rw [← sw1_step k _ _ hb, ← e]
    have e2 : sw2 (k + 1) (sw1 (k + 1) x) = 256 * sw2 k (sw1 k (x / 256)) + sw2 1 (sw1 1 (x % 256)) := by rw [e1, sw2_step k _ _ h4.1]
    have hlt : sw2 1 (sw1 1 (x % 256)) < 256 := by omega
    rw [e2]
    refine ⟨?_, by omega⟩
    rw [sw3_step k _ _ hlt h4.2.1 h4.2.2.1 hq.2, hq.1, h4.2.2.2]
    rfl
theorem pcf64 (x : Nat) : pcf 64 x = pcf 8 (x % 256) + pcf 8 (x / 256 % 256) + pcf 8 (x / 65536 % 256) + pcf 8 (x / 16777216 % 256) + pcf 8 (x / 4294967296 % 256) + pcf 8 (x / 1099511627776 % 256) + pcf 8 (x / 281474976710656 % 256) + pcf 8 (x / 72057594037927936 % 256) := by
  rw [show (64 : Nat) = 8 + (8 + (8 + (8 + (8 + (8 + (8 + (8 + 0))))))) from rfl]
  simp only [pcf_add, Nat.div_div_eq_div_mul, Nat.reducePow, Nat.reduceMul]
  simp only [pcf, Nat.add_zero]
  omega
theorem bsum8 (x : Nat) : bsum 8 x = pcf 8 (x % 256) + 256 * pcf 8 (x / 256 % 256) + 65536 * pcf 8 (x / 65536 % 256) + 16777216 * pcf 8 (x / 16777216 % 256) + 4294967296 * pcf 8 (x / 4294967296 % 256) + 1099511627776 * pcf 8 (x / 1099511627776 % 256) + 281474976710656 * pcf 8 (x / 281474976710656 % 256) + 72057594037927936 * pcf 8 (x / 72057594037927936 % 256) := by
  simp only [bsum, Nat.div_div_eq_div_mul, Nat.reduceMul]
  omega
theorem fin8 (d0 d1 d2 d3 d4 d5 d6 d7 : Nat) (h0 : d0 ≤ 8) (h1 : d1 ≤ 8) (h2 : d2 ≤ 8) (h3 : d3 ≤ 8) (h4 : d4 ≤ 8) (h5 : d5 ≤ 8) (h6 : d6 ≤ 8) (h7 : d7 ≤ 8) (y y1 y2 y3 : Nat)
    (hy : y = d0 + 256 * d1 + 65536 * d2 + 16777216 * d3 + 4294967296 * d4 + 1099511627776 * d5 + 281474976710656 * d6 + 72057594037927936 * d7)
    (hy1 : y1 = (y / 256 + y) % 18446744073709551616) (hy2 : y2 = (y1 / 65536 + y1) % 18446744073709551616) (hy3 : y3 = (y2 / 4294967296 + y2) % 18446744073709551616) :
    y3 % 128 = d0 + d1 + d2 + d3 + d4 + d5 + d6 + d7 := by
  have e1 : y / 256 = d1 + 256 * d2 + 65536 * d3 + 16777216 * d4 + 4294967296 * d5 + 1099511627776 * d6 + 281474976710656 * d7 := by omega
  rw [e1] at hy1
  have e2 : y1 = (d0 + d1) + 256 * (d1 + d2) + 65536 * (d2 + d3) + 16777216 * (d3 + d4) + 4294967296 * (d4 + d5) + 1099511627776 * (d5 + d6) + 281474976710656 * (d6 + d7) + 72057594037927936 * d7 := by omega
  clear hy1 e1 hy
  have e3 : y1 / 65536 = (d2 + d3) + 256 * (d3 + d4) + 65536 * (d4 + d5) + 16777216 * (d5 + d6) + 4294967296 * (d6 + d7) + 1099511627776 * d7 := by omega
  rw [e3] at hy2
  have e4 : y2 = (d0 + d1 + d2 + d3) + 256 * (d1 + d2 + d3 + d4) + 65536 * (d2 + d3 + d4 + d5) + 16777216 * (d3 + d4 + d5 + d6) + 4294967296 * (d4 + d5 + d6 + d7) + 1099511627776 * (d5 + d6 + d7) + 281474976710656 * (d6 + d7) + 72057594037927936 * d7 := by omega
  clear hy2 e3 e2
  have e5 : y2 / 4294967296 = (d4 + d5 + d6 + d7) + 256 * (d5 + d6 + d7) + 65536 * (d6 + d7) + 16777216 * d7 := by omega
  rw [e5] at hy3
  omega
theorem pat85 : pat 85 8 = 6148914691236517205 := by decide
theorem pat51 : pat 51 8 = 3689348814741910323 := by decide
theorem pat15 : pat 15 8 = 1085102592571150095 := by decide
theorem wrapN (n : Nat) : IntKind.u64.wrap (n : Int) = ((n % 18446744073709551616 : Nat) : Int) := by rw [IntKind.wrap_u64]; omega
/-- What the parallel sum's steps come to, each under a name of its own. -/
theorem ones_facts (X : Nat) (h : X < 18446744073709551616) : ∃ A B Y C D Z E V V1 V2 V3 : Int,
    bits .and .u64 ((X : Int) / 2) 6148914691236517205 = A ∧ bits .and .u64 (X : Int) 6148914691236517205 = B ∧ IntKind.u64.wrap (A + B) = Y ∧ 0 ≤ Y ∧
    bits .and .u64 (Y / 4) 3689348814741910323 = C ∧ bits .and .u64 Y 3689348814741910323 = D ∧ IntKind.u64.wrap (C + D) = Z ∧ 0 ≤ Z ∧
    IntKind.u64.wrap (Z / 16 + Z) = E ∧ bits .and .u64 E 1085102592571150095 = V ∧ 0 ≤ V ∧
    IntKind.u64.wrap (V + V / 256) = V1 ∧ 0 ≤ V1 ∧ IntKind.u64.wrap (V1 + V1 / 65536) = V2 ∧ 0 ≤ V2 ∧ IntKind.u64.wrap (V2 + V2 / 4294967296) = V3 ∧ 0 ≤ V3 ∧ V3 % 128 = (pcf 64 X : Nat) := by
  have ha := (sw_all 8 X (by simpa using h)).1
  have l1 : sw1 8 X < 18446744073709551616 := by
    have h1 : X / 2 &&& pat 85 8 ≤ pat 85 8 := Nat.and_le_right
    have h2 : X &&& pat 85 8 ≤ pat 85 8 := Nat.and_le_right
    rw [pat85] at h1 h2
    unfold sw1; rw [pat85]; omega
  have l2 : sw2 8 (sw1 8 X) ≤ 7378697629483820646 := by
    have h1 : sw1 8 X / 4 &&& pat 51 8 ≤ pat 51 8 := Nat.and_le_right
    have h2 : sw1 8 X &&& pat 51 8 ≤ pat 51 8 := Nat.and_le_right
    rw [pat51] at h1 h2
    unfold sw2; rw [pat51]; omega
  have l3 : bsum 8 X ≤ 1085102592571150095 := by
    rw [← ha]
    have h1 : (sw2 8 (sw1 8 X) / 16 + sw2 8 (sw1 8 X)) &&& pat 15 8 ≤ pat 15 8 := Nat.and_le_right
    rw [pat15] at h1
    unfold sw3; rw [pat15]; exact h1
  refine ⟨((X / 2 &&& pat 85 8 : Nat) : Int), ((X &&& pat 85 8 : Nat) : Int), ((sw1 8 X : Nat) : Int), ((sw1 8 X / 4 &&& pat 51 8 : Nat) : Int), ((sw1 8 X &&& pat 51 8 : Nat) : Int), ((sw2 8 (sw1 8 X) : Nat) : Int),
    ((sw2 8 (sw1 8 X) / 16 + sw2 8 (sw1 8 X) : Nat) : Int), ((bsum 8 X : Nat) : Int), (((bsum 8 X / 256 + bsum 8 X) % 18446744073709551616 : Nat) : Int), _, _, ?_, ?_, ?_, by omega, ?_, ?_, ?_, by omega, ?_, ?_, by omega, ?_, by omega, rfl, ?_, rfl, ?_, ?_⟩
  · rw [pat85]; rw [show (X : Int) / 2 = ((X / 2 : Nat) : Int) by omega, show (6148914691236517205 : Int) = ((6148914691236517205 : Nat) : Int) from rfl]; exact u64_and_nat (X / 2) 6148914691236517205 (by omega) (by omega)
  · rw [pat85]; rw [show (6148914691236517205 : Int) = ((6148914691236517205 : Nat) : Int) from rfl]; exact u64_and_nat X 6148914691236517205 (by omega) (by omega)
  · have e : ((X / 2 &&& pat 85 8 : Nat) : Int) + ((X &&& pat 85 8 : Nat) : Int) = ((sw1 8 X : Nat) : Int) := by unfold sw1; omega
    rw [e, wrapN, Nat.mod_eq_of_lt l1]
  · rw [pat51]; rw [show ((sw1 8 X : Nat) : Int) / 4 = ((sw1 8 X / 4 : Nat) : Int) by omega, show (3689348814741910323 : Int) = ((3689348814741910323 : Nat) : Int) from rfl]; exact u64_and_nat (sw1 8 X / 4) 3689348814741910323 (by omega) (by omega)
  · rw [pat51]; rw [show (3689348814741910323 : Int) = ((3689348814741910323 : Nat) : Int) from rfl]; exact u64_and_nat (sw1 8 X) 3689348814741910323 (by omega) (by omega)
  · have e : ((sw1 8 X / 4 &&& pat 51 8 : Nat) : Int) + ((sw1 8 X &&& pat 51 8 : Nat) : Int) = ((sw2 8 (sw1 8 X) : Nat) : Int) := by unfold sw2; omega
    rw [e, wrapN, Nat.mod_eq_of_lt (by omega)]
  · have e : ((sw2 8 (sw1 8 X) : Nat) : Int) / 16 + ((sw2 8 (sw1 8 X) : Nat) : Int) = ((sw2 8 (sw1 8 X) / 16 + sw2 8 (sw1 8 X) : Nat) : Int) := by omega
    rw [e, wrapN, Nat.mod_eq_of_lt (by omega)]
  · rw [← ha]; unfold sw3; rw [pat15]; rw [show (1085102592571150095 : Int) = ((1085102592571150095 : Nat) : Int) from rfl]; exact u64_and_nat (sw2 8 (sw1 8 X) / 16 + sw2 8 (sw1 8 X)) 1085102592571150095 (by omega) (by omega)
  · have e : ((bsum 8 X : Nat) : Int) + ((bsum 8 X : Nat) : Int) / 256 = ((bsum 8 X / 256 + bsum 8 X : Nat) : Int) := by omega
    rw [e, wrapN]
  · rw [IntKind.wrap_u64]; omega
  · rw [IntKind.wrap_u64]; omega
  · have b := fun i => pcf_le 8 i
    have := fin8 _ _ _ _ _ _ _ _ (b (X % 256)) (b (X / 256 % 256)) (b (X / 65536 % 256)) (b (X / 16777216 % 256)) (b (X / 4294967296 % 256)) (b (X / 1099511627776 % 256)) (b (X / 281474976710656 % 256)) (b (X / 72057594037927936 % 256)) (bsum 8 X) _ _ _ (bsum8 X) rfl rfl rfl
    rw [← pcf64] at this
    rw [← this]
    simp only [IntKind.wrap_u64]
    omega
/-- How many bits of a mask are set. -/
def mcount (m : Mask) : Int := ((pcf 64 (m.toNat % 18446744073709551616) + pcf 64 (m.toNat / 18446744073709551616) : Nat) : Int)
theorem mcount_ge (m : Mask) : 0 ≤ mcount m := by unfold mcount; omega
theorem mcount_le (m : Mask) : mcount m ≤ 128 := by
  unfold mcount
  have := pcf_le 64 (m.toNat % 18446744073709551616)
  have := pcf_le 64 (m.toNat / 18446744073709551616)
  omega
/-- The bits of a word. -/
def wcount (x : Int) : Int := (pcf 64 x.toNat : Nat)
theorem wcount_ge (x : Int) : 0 ≤ wcount x := by unfold wcount; omega
theorem wcount_le (x : Int) : wcount x ≤ 64 := by unfold wcount; have := pcf_le 64 x.toNat; omega
theorem wcount_lohi (m : Mask) : wcount (lo m) + wcount (hi m) = mcount m := by
  unfold wcount mcount lo hi
  rw [Int.toNat_natCast, Int.toNat_natCast, Int.natCast_add]
/-- A loop that counts bits: g bits at most are left in y, c have been counted, T is the whole. -/
structure CountRel (g : Nat) (y c T : Int) : Prop where
  lt : y.toNat < 2 ^ g
  le : g ≤ 64
  sum : c + (pcf g y.toNat : Nat) = T
theorem CountRel.start {x : Int} (c : Int) (h : x.toNat < 18446744073709551616) : CountRel 64 x c (c + wcount x) := ⟨by simpa using h, by omega, by unfold wcount; omega⟩
theorem CountRel.cle {g : Nat} {y c T : Int} (h : CountRel g y c T) : c ≤ T := by have := h.sum; omega
theorem CountRel.done {g : Nat} {c T : Int} (h : CountRel g 0 c T) : c = T := by have := h.sum; rw [show (0 : Int).toNat = 0 from rfl, pcf_zero] at this; omega
theorem CountRel.next {g : Nat} {y c T : Int} (h : CountRel g y c T) (hp : 0 < y) : ∃ k, g = k + 1 ∧ CountRel k (y / 2) (c + y % 2) T := by
  cases g with
  | zero => have := h.lt; simp at this; omega
  | succ k =>
    refine ⟨k, rfl, ?_, by have := h.le; omega, ?_⟩
    · have := h.lt; rw [Nat.pow_succ] at this; omega
    · have := h.sum
      simp only [pcf] at this
      rw [show (y / 2).toNat = y.toNat / 2 by omega]
      omega
attribute [irreducible] mcount wcount pcf
end Go.Proofs.YtdiblmlcapommaaGreatDoor
set_option linter.unusedVariables false
namespace Go.Proofs.YtdiblmlcapommaaGreatDoor
open Go.RowKit
/-- All of the first masks of a row, put together. -/
def orTo (g : Nat → Mask) : Nat → Mask
  | 0 => 0
  | k + 1 => mjoin (orTo g k) (g k)
theorem orTo_succ (g : Nat → Mask) (k : Nat) : orTo g (k + 1) = mjoin (orTo g k) (g k) := rfl
theorem mjoin_zero (m : Mask) : mjoin m 0 = m := by unfold mjoin; exact BitVec.or_zero
theorem zero_mjoin (m : Mask) : mjoin 0 m = m := by unfold mjoin; exact BitVec.zero_or
theorem mjoin_comm (a b : Mask) : mjoin a b = mjoin b a := by unfold mjoin; exact BitVec.or_comm _ _
theorem mjoin_assoc (a b c : Mask) : mjoin (mjoin a b) c = mjoin a (mjoin b c) := by unfold mjoin; exact BitVec.or_assoc _ _ _
theorem mwith_nil (m : Mask) : mwith m [] = m := rfl
theorem mwith_cons (m : Mask) (h : Int) (hs : List Int) : mwith m (h :: hs) = mwith (mjoin m (mbit h)) hs := rfl
theorem mwith_from : ∀ (hs : List Int) (m : Mask), mwith m hs = mjoin m (mwith 0 hs)
  | [], m => by rw [mwith_nil, mwith_nil, mjoin_zero]
  | h :: hs, m => by rw [mwith_cons, mwith_cons, mwith_from hs, mwith_from hs (mjoin 0 (mbit h)), zero_mjoin, mjoin_assoc]
/-- The holes of a row of so many ones from one on. -/
def rangeM (st many : Int) : Mask := orTo (fun k => mbit (st + k)) many.toNat
/-- The holes of a field. -/
def partF (f : Fld) : Mask := rangeM f.st (manyF f.kd f.sz)
/-- The notches of a number in the base 2, the highest digit first, added to a mask. -/
def notchTo (m : Mask) (st holes b : Int) : Nat → Mask
  | 0 => m
  | k + 1 => if b / 2 ^ (holes - 1 - k).toNat % 2 = 1 then mjoin (notchTo m st holes b k) (mbit (st + k)) else notchTo m st holes b k
theorem notchTo_zero (m : Mask) (st holes b : Int) : notchTo m st holes b 0 = m := rfl
theorem notchTo_hit {m : Mask} {st holes b : Int} {k : Nat} (h : b / 2 ^ (holes - 1 - k).toNat % 2 = 1) : notchTo m st holes b (k + 1) = mjoin (notchTo m st holes b k) (mbit (st + k)) := by rw [notchTo, if_pos h]
theorem notchTo_miss {m : Mask} {st holes b : Int} {k : Nat} (h : ¬ b / 2 ^ (holes - 1 - k).toNat % 2 = 1) : notchTo m st holes b (k + 1) = notchTo m st holes b k := by rw [notchTo, if_neg h]
/-- Which holes are notched for a digit, from the first one of the digit on. -/
def digL (kd d : Int) : List Int :=
  if kd = 1 then (if d = 0 then [0, 1] else if d = 1 then [3] else if d = 2 then [2] else if d = 3 then [2, 3] else if d = 4 then [1] else if d = 5 then [1, 3] else if d = 6 then [1, 2] else if d = 7 then [0] else if d = 8 then [0, 3] else [0, 2])
  else (if d = 0 then [0, 1] else if d = 1 then [0, 2] else if d = 2 then [0, 3] else if d = 3 then [0, 4] else if d = 4 then [1, 2] else if d = 5 then [1, 3] else if d = 6 then [1, 4] else if d = 7 then [2, 3] else if d = 8 then [2, 4] else [3, 4])
/-- The number in the base 2 that the reference keeps for a digit. -/
def digN (kd d : Int) : Int :=
  if kd = 1 then (if d = 0 then 12 else if d = 1 then 1 else if d = 2 then 2 else if d = 3 then 3 else if d = 4 then 4 else if d = 5 then 5 else if d = 6 then 6 else if d = 7 then 8 else if d = 8 then 9 else 10)
  else (if d = 0 then 24 else if d = 1 then 20 else if d = 2 then 18 else if d = 3 then 17 else if d = 4 then 12 else if d = 5 then 10 else if d = 6 then 9 else if d = 7 then 6 else if d = 8 then 5 else 3)
/-- How many holes a digit has. -/
def digW (kd : Int) : Int := if kd = 1 then 4 else 5
theorem digL_small (kd d x : Int) (h : x ∈ digL kd d) : 0 ≤ x ∧ x < digW kd := by
  unfold digL at h
  unfold digW
  split at h
  · rename_i hk
    rw [if_pos hk]
    repeat (first | (split at h) | (simp at h; omega))
  · rename_i hk
    rw [if_neg hk]
    repeat (first | (split at h) | (simp at h; omega))
theorem digL_len (kd d : Int) : (digL kd d).length ≤ 2 := by
  unfold digL
  repeat (first | split | simp)
/-- The digit's notches, put into a mask: by its list of holes, and by its number. -/
def digP (kd st d : Int) : Mask := mwith 0 ((digL kd d).map (st + ·))
theorem dig_notch (kd d : Int) (hk : kd = 1 ∨ kd = 2) (d0 : 0 ≤ d) (d1 : d < 10) (m : Mask) (st : Int) : notchTo m st (digW kd) (digN kd d) (digW kd).toNat = mjoin m (digP kd st d) := by
  unfold digP
  rw [← mwith_from]
  rcases hk with rfl | rfl
  · rcases (show d = 0 ∨ d = 1 ∨ d = 2 ∨ d = 3 ∨ d = 4 ∨ d = 5 ∨ d = 6 ∨ d = 7 ∨ d = 8 ∨ d = 9 by omega) with rfl | rfl | rfl | rfl | rfl | rfl | rfl | rfl | rfl | rfl
    all_goals simp [notchTo, digL, digN, digW, mwith]
  · rcases (show d = 0 ∨ d = 1 ∨ d = 2 ∨ d = 3 ∨ d = 4 ∨ d = 5 ∨ d = 6 ∨ d = 7 ∨ d = 8 ∨ d = 9 by omega) with rfl | rfl | rfl | rfl | rfl | rfl | rfl | rfl | rfl | rfl
    all_goals simp [notchTo, digL, digN, digW, mwith]
/-- A value's digit, counted from the highest one. -/
def digAt (sz v : Int) (k : Nat) : Int := v / 10 ^ (sz - 1 - k).toNat % 10
/-- The mask of a value's digit. -/
def digG (kd st sz v : Int) (k : Nat) : Mask := digP kd (st + digW kd * k) (digAt sz v k)
/-- The mask of a number in the base 2, with a hole that makes the holes' number odd. -/
def binF (st sz v : Int) : Mask := if mcount (notchTo 0 st sz v sz.toNat) % 2 = 0 then mjoin (notchTo 0 st sz v sz.toNat) (mbit (st + sz)) else notchTo 0 st sz v sz.toNat
/-- The mask of a value of a field. -/
def codeF (f : Fld) (v : Int) : Mask :=
  if f.kd = 0 then mbit (f.st + v) else if f.kd = 3 then binF f.st f.sz v else orTo (digG f.kd f.st f.sz v) f.sz.toNat
/-- The value that is kept in a mask, with a code. -/
def valAt (f : Fld) (p : Mask) : Nat → Option Int
  | 0 => none
  | k + 1 => (valAt f p k).or (if codeF f k = p then some (k : Int) else none)
def valueF (f : Fld) (m : Mask) : Int × Int :=
  if mmeet m (partF f) = 0 then (0, 6) else match valAt f (mmeet m (partF f)) (mostF f + 1).toNat with | some v => (v, 0) | none => (0, 8)
theorem valAt_hit {f : Fld} {p : Mask} {k : Nat} (h0 : valAt f p k = none) (h : codeF f k = p) : ∀ n, k < n → valAt f p n = some (k : Int)
  | 0, hn => by omega
  | n + 1, hn => by
    rw [valAt]
    by_cases hkn : k = n
    · subst hkn; rw [h0, Option.none_or, if_pos h]
    · rw [valAt_hit h0 h n (by omega), Option.some_or]
theorem valAt_miss {f : Fld} {p : Mask} {k : Nat} (h0 : valAt f p k = none) (h : ¬ codeF f k = p) : valAt f p (k + 1) = none := by rw [valAt, h0, Option.none_or, if_neg h]
theorem valueF_zero {f : Fld} {m : Mask} (h : mmeet m (partF f) = 0) : valueF f m = (0, 6) := by unfold valueF; rw [if_pos h]
theorem valueF_hit {f : Fld} {m : Mask} {k : Nat} (hp : ¬ mmeet m (partF f) = 0) (h0 : valAt f (mmeet m (partF f)) k = none) (h : codeF f k = mmeet m (partF f)) (hk : (k : Int) ≤ mostF f) : valueF f m = ((k : Int), 0) := by
  unfold valueF
  rw [if_neg hp, valAt_hit h0 h _ (by omega)]
theorem valueF_miss {f : Fld} {m : Mask} (hp : ¬ mmeet m (partF f) = 0) (h0 : valAt f (mmeet m (partF f)) (mostF f + 1).toNat = none) : valueF f m = (0, 8) := by
  unfold valueF
  rw [if_neg hp, h0]
end Go.Proofs.YtdiblmlcapommaaGreatDoor
set_option linter.unusedVariables false
set_option linter.unusedSimpArgs false
set_option maxRecDepth 100000
namespace Go.Proofs.YtdiblmlcapommaaGreatDoor
open Go.RowKit
theorem manyF1 (sz : Int) : manyF 1 sz = 4 * sz := by unfold manyF; rw [if_pos rfl]
theorem manyF2 (sz : Int) : manyF 2 sz = 5 * sz := by unfold manyF; rw [if_neg (by decide), if_pos rfl]
theorem manyF3 (sz : Int) : manyF 3 sz = sz + 1 := by unfold manyF; rw [if_neg (by decide), if_neg (by decide), if_pos rfl]
theorem manyF0 {kd : Int} (sz : Int) (h1 : kd ≠ 1) (h2 : kd ≠ 2) (h3 : kd ≠ 3) : manyF kd sz = sz := by unfold manyF; rw [if_neg h1, if_neg h2, if_neg h3]
set_option maxHeartbeats 400000 in
theorem impl_many (nm : ByteArray) (kd st sz : Int) (hs0 : -32768 ≤ sz) (hs1 : sz < 32768) (w : World) :
    Calls Tryz.prog 47 #[.agg #[.string nm, .int .i8 kd, .int .i16 st, .int .i16 sz]] w fun e w' => e = .returned (.int .i64 (manyF kd sz)) ∧ Ext w w' := by
  by_cases h1 : kd = 1
  · subst h1
    rw [manyF1]
    go_enter Tryz.func47, Tryz.ntmps47
    go_wp2
    go_ret
    exact ⟨rfl, by ((repeat (first | with_reducible exact Ext.refl _ | with_reducible exact hw | with_reducible exact hb9 | with_reducible exact hb8 | with_reducible exact hb7 | with_reducible exact hb6 | with_reducible exact hb5 | with_reducible exact hb4 | with_reducible exact hb3 | with_reducible exact hb2 | with_reducible exact hb1 | with_reducible refine Ext.alloc ?_ _ | with_reducible refine Ext.drew ?_ | ((with_reducible refine Ext.set ?_ ?_ _); focus (dsimp only; omega)) | with_reducible refine Ext.trans ?_ hb9 | with_reducible refine Ext.trans ?_ hb8 | with_reducible refine Ext.trans ?_ hb7 | with_reducible refine Ext.trans ?_ hb6 | with_reducible refine Ext.trans ?_ hb5 | with_reducible refine Ext.trans ?_ hb4 | with_reducible refine Ext.trans ?_ hb3 | with_reducible refine Ext.trans ?_ hb2 | with_reducible refine Ext.trans ?_ hb1 | with_reducible refine Ext.trans ?_ hw)))⟩
  · by_cases h2 : kd = 2
    · subst h2
      rw [manyF2]
      go_enter Tryz.func47, Tryz.ntmps47
      go_wp2
      go_ret
      exact ⟨rfl, by ((repeat (first | with_reducible exact Ext.refl _ | with_reducible exact hw | with_reducible exact hb9 | with_reducible exact hb8 | with_reducible exact hb7 | with_reducible exact hb6 | with_reducible exact hb5 | with_reducible exact hb4 | with_reducible exact hb3 | with_reducible exact hb2 | with_reducible exact hb1 | with_reducible refine Ext.alloc ?_ _ | with_reducible refine Ext.drew ?_ | ((with_reducible refine Ext.set ?_ ?_ _); focus (dsimp only; omega)) | with_reducible refine Ext.trans ?_ hb9 | with_reducible refine Ext.trans ?_ hb8 | with_reducible refine Ext.trans ?_ hb7 | with_reducible refine Ext.trans ?_ hb6 | with_reducible refine Ext.trans ?_ hb5 | with_reducible refine Ext.trans ?_ hb4 | with_reducible refine Ext.trans ?_ hb3 | with_reducible refine Ext.trans ?_ hb2 | with_reducible refine Ext.trans ?_ hb1 | with_reducible refine Ext.trans ?_ hw)))⟩
    · by_cases h3 : kd = 3
      · subst h3
        rw [manyF3]
        go_enter Tryz.func47, Tryz.ntmps47
        go_wp2
        go_ret
        exact ⟨rfl, by ((repeat (first | with_reducible exact Ext.refl _ | with_reducible exact hw | with_reducible exact hb9 | with_reducible exact hb8 | with_reducible exact hb7 | with_reducible exact hb6 | with_reducible exact hb5 | with_reducible exact hb4 | with_reducible exact hb3 | with_reducible exact hb2 | with_reducible exact hb1 | with_reducible refine Ext.alloc ?_ _ | with_reducible refine Ext.drew ?_ | ((with_reducible refine Ext.set ?_ ?_ _); focus (dsimp only; omega)) | with_reducible refine Ext.trans ?_ hb9 | with_reducible refine Ext.trans ?_ hb8 | with_reducible refine Ext.trans ?_ hb7 | with_reducible refine Ext.trans ?_ hb6 | with_reducible refine Ext.trans ?_ hb5 | with_reducible refine Ext.trans ?_ hb4 | with_reducible refine Ext.trans ?_ hb3 | with_reducible refine Ext.trans ?_ hb2 | with_reducible refine Ext.trans ?_ hb1 | with_reducible refine Ext.trans ?_ hw)))⟩
      · rw [manyF0 sz h1 h2 h3]
        go_enter Tryz.func47, Tryz.ntmps47
        go_wp2
        go_ret
        exact ⟨rfl, by ((repeat (first | with_reducible exact Ext.refl _ | with_reducible exact hw | with_reducible exact hb9 | with_reducible exact hb8 | with_reducible exact hb7 | with_reducible exact hb6 | with_reducible exact hb5 | with_reducible exact hb4 | with_reducible exact hb3 | with_reducible exact hb2 | with_reducible exact hb1 | with_reducible refine Ext.alloc ?_ _ | with_reducible refine Ext.drew ?_ | ((with_reducible refine Ext.set ?_ ?_ _); focus (dsimp only; omega)) | with_reducible refine Ext.trans ?_ hb9 | with_reducible refine Ext.trans ?_ hb8 | with_reducible refine Ext.trans ?_ hb7 | with_reducible refine Ext.trans ?_ hb6 | with_reducible refine Ext.trans ?_ hb5 | with_reducible refine Ext.trans ?_ hb4 | with_reducible refine Ext.trans ?_ hb3 | with_reducible refine Ext.trans ?_ hb2 | with_reducible refine Ext.trans ?_ hb1 | with_reducible refine Ext.trans ?_ hw)))⟩
/-- A field lies at a place. -/
def FldAt (w : World) (b o : Nat) (f : Fld) : Prop :=
  w.cell? ⟨b, o, none⟩ = some (.string f.nm) ∧ w.cell? ⟨b, o + 1, none⟩ = some (.int .i8 f.kd) ∧ w.cell? ⟨b, o + 2, none⟩ = some (.int .i16 f.st) ∧ w.cell? ⟨b, o + 3, none⟩ = some (.int .i16 f.sz)
theorem FldAt.ext {w w' : World} {b o : Nat} {f : Fld} (h : FldAt w b o f) (hb : Ext w w') : FldAt w' b o f := ⟨hb.cell h.1, hb.cell h.2.1, hb.cell h.2.2.1, hb.cell h.2.2.2⟩
set_option maxHeartbeats 400000 in
theorem spec_l01Width (b o : Nat) (f : Fld) (hs0 : -32768 ≤ f.sz) (hs1 : f.sz < 32768) (w : World) (hF : FldAt w b o f) :
    Calls Tryz.prog 37 #[.pointer (some ⟨b, o, none⟩)] w fun e w' => e = .returned (.int .i64 (manyF f.kd f.sz)) ∧ Ext w w' := by
  obtain ⟨c0, c1, c2, c3⟩ := hF
  obtain ⟨nm, kd, st, sz⟩ := f
  dsimp only at c0 c1 c2 c3 hs0 hs1 ⊢
  by_cases h1 : kd = 1
  · subst h1
    rw [manyF1]
    go_enter Tryz.func37, Tryz.ntmps37
    go_wp2
    go_ret
    exact ⟨rfl, by ((repeat (first | with_reducible exact Ext.refl _ | with_reducible exact hw | with_reducible exact hb9 | with_reducible exact hb8 | with_reducible exact hb7 | with_reducible exact hb6 | with_reducible exact hb5 | with_reducible exact hb4 | with_reducible exact hb3 | with_reducible exact hb2 | with_reducible exact hb1 | with_reducible refine Ext.alloc ?_ _ | with_reducible refine Ext.drew ?_ | ((with_reducible refine Ext.set ?_ ?_ _); focus (dsimp only; omega)) | with_reducible refine Ext.trans ?_ hb9 | with_reducible refine Ext.trans ?_ hb8 | with_reducible refine Ext.trans ?_ hb7 | with_reducible refine Ext.trans ?_ hb6 | with_reducible refine Ext.trans ?_ hb5 | with_reducible refine Ext.trans ?_ hb4 | with_reducible refine Ext.trans ?_ hb3 | with_reducible refine Ext.trans ?_ hb2 | with_reducible refine Ext.trans ?_ hb1 | with_reducible refine Ext.trans ?_ hw)))⟩
  · by_cases h2 : kd = 2
    · subst h2
      rw [manyF2]
      go_enter Tryz.func37, Tryz.ntmps37
      go_wp2
      go_ret
      exact ⟨rfl, by ((repeat (first | with_reducible exact Ext.refl _ | with_reducible exact hw | with_reducible exact hb9 | with_reducible exact hb8 | with_reducible exact hb7 | with_reducible exact hb6 | with_reducible exact hb5 | with_reducible exact hb4 | with_reducible exact hb3 | with_reducible exact hb2 | with_reducible exact hb1 | with_reducible refine Ext.alloc ?_ _ | with_reducible refine Ext.drew ?_ | ((with_reducible refine Ext.set ?_ ?_ _); focus (dsimp only; omega)) | with_reducible refine Ext.trans ?_ hb9 | with_reducible refine Ext.trans ?_ hb8 | with_reducible refine Ext.trans ?_ hb7 | with_reducible refine Ext.trans ?_ hb6 | with_reducible refine Ext.trans ?_ hb5 | with_reducible refine Ext.trans ?_ hb4 | with_reducible refine Ext.trans ?_ hb3 | with_reducible refine Ext.trans ?_ hb2 | with_reducible refine Ext.trans ?_ hb1 | with_reducible refine Ext.trans ?_ hw)))⟩
    · by_cases h3 : kd = 3
      · subst h3
        rw [manyF3]
        go_enter Tryz.func37, Tryz.ntmps37
        go_wp2
        go_ret
        exact ⟨rfl, by ((repeat (first | with_reducible exact Ext.refl _ | with_reducible exact hw | with_reducible exact hb9 | with_reducible exact hb8 | with_reducible exact hb7 | with_reducible exact hb6 | with_reducible exact hb5 | with_reducible exact hb4 | with_reducible exact hb3 | with_reducible exact hb2 | with_reducible exact hb1 | with_reducible refine Ext.alloc ?_ _ | with_reducible refine Ext.drew ?_ | ((with_reducible refine Ext.set ?_ ?_ _); focus (dsimp only; omega)) | with_reducible refine Ext.trans ?_ hb9 | with_reducible refine Ext.trans ?_ hb8 | with_reducible refine Ext.trans ?_ hb7 | with_reducible refine Ext.trans ?_ hb6 | with_reducible refine Ext.trans ?_ hb5 | with_reducible refine Ext.trans ?_ hb4 | with_reducible refine Ext.trans ?_ hb3 | with_reducible refine Ext.trans ?_ hb2 | with_reducible refine Ext.trans ?_ hb1 | with_reducible refine Ext.trans ?_ hw)))⟩
      · rw [manyF0 sz h1 h2 h3]
        go_enter Tryz.func37, Tryz.ntmps37
        go_wp2
        go_ret
        exact ⟨rfl, by ((repeat (first | with_reducible exact Ext.refl _ | with_reducible exact hw | with_reducible exact hb9 | with_reducible exact hb8 | with_reducible exact hb7 | with_reducible exact hb6 | with_reducible exact hb5 | with_reducible exact hb4 | with_reducible exact hb3 | with_reducible exact hb2 | with_reducible exact hb1 | with_reducible refine Ext.alloc ?_ _ | with_reducible refine Ext.drew ?_ | ((with_reducible refine Ext.set ?_ ?_ _); focus (dsimp only; omega)) | with_reducible refine Ext.trans ?_ hb9 | with_reducible refine Ext.trans ?_ hb8 | with_reducible refine Ext.trans ?_ hb7 | with_reducible refine Ext.trans ?_ hb6 | with_reducible refine Ext.trans ?_ hb5 | with_reducible refine Ext.trans ?_ hb4 | with_reducible refine Ext.trans ?_ hb3 | with_reducible refine Ext.trans ?_ hb2 | with_reducible refine Ext.trans ?_ hb1 | with_reducible refine Ext.trans ?_ hw)))⟩
theorem fldB_false {f : Fld} (h : ¬ (isNameB f.nm = true ∧ 0 ≤ f.kd ∧ f.kd ≤ 3 ∧ 0 ≤ f.st ∧ 1 ≤ f.sz ∧ f.sz ≤ mostSz f.kd ∧ f.st + manyF f.kd f.sz ≤ 96)) : fldB f = false := by
  cases hb : fldB f with
  | false => rfl
  | true =>
    unfold fldB at hb
    simp only [Bool.and_eq_true, decide_eq_true_eq] at hb
    exact absurd hb h
theorem fldB_true {f : Fld} (h0 : isNameB f.nm = true) (h1 : 0 ≤ f.kd) (h2 : f.kd ≤ 3) (h3 : 0 ≤ f.st) (h4 : 1 ≤ f.sz) (h5 : f.sz ≤ mostSz f.kd) (h6 : f.st + manyF f.kd f.sz ≤ 96) : fldB f = true := by
  unfold fldB
  simp only [Bool.and_eq_true, decide_eq_true_eq]
  exact ⟨h0, h1, h2, h3, h4, h5, h6⟩
theorem fldB_parts {f : Fld} (h : fldB f = true) : isNameB f.nm = true ∧ 0 ≤ f.kd ∧ f.kd ≤ 3 ∧ 0 ≤ f.st ∧ 1 ≤ f.sz ∧ f.sz ≤ mostSz f.kd ∧ f.st + manyF f.kd f.sz ≤ 96 := by
  unfold fldB at h
  simp only [Bool.and_eq_true, decide_eq_true_eq] at h
  exact h
theorem manyF_bd (kd sz : Int) (h0 : 1 ≤ sz) (h1 : sz < 32768) : 1 ≤ manyF kd sz ∧ manyF kd sz ≤ 163840 := by
  unfold manyF
  split
  · omega
  · split
    · omega
    · split <;> omega
end Go.Proofs.YtdiblmlcapommaaGreatDoor
