/-
  Reading wear from its text: the plain laws.
-/
import Derived.Test.YthkphhacmneeiaaGreatDoorJ4
set_option linter.unusedVariables false
set_option linter.unusedSimpArgs false
set_option maxRecDepth 100000
namespace Go.Proofs.YthkphhacmneeiaaGreatDoor
open Go.RowKit
/-- The word of a hole and its sign (true: filled). -/
def wd (p : Nat × Bool) : ByteArray := (if p.2 = true then ⟨#[45]⟩ else ⟨#[43]⟩) ++ decT p.1
def prs (t f : Mask) (k : Nat) : List (Nat × Bool) := (holesTo (mjoin t f) k).map fun h => (h.toNat, mhas f h)
theorem words_prs (t f : Mask) (k : Nat) : wordsW t f k = (prs t f k).map wd := by unfold wordsW prs; rw [List.map_map]; rfl
def tP (ps : List (Nat × Bool)) : Mask := ps.foldl (fun m p => if p.2 = true then m else mjoin m (mbit p.1)) 0
def fP (ps : List (Nat × Bool)) : Mask := ps.foldl (fun m p => if p.2 = true then mjoin m (mbit p.1) else m) 0
def lastP (ps : List (Nat × Bool)) : Int := ps.foldl (fun _ p => (p.1 : Int)) (-1)
theorem tP_snoc (ps : List (Nat × Bool)) (p : Nat × Bool) : tP (ps ++ [p]) = if p.2 = true then tP ps else mjoin (tP ps) (mbit p.1) := by unfold tP; rw [List.foldl_append]; rfl
theorem fP_snoc (ps : List (Nat × Bool)) (p : Nat × Bool) : fP (ps ++ [p]) = if p.2 = true then mjoin (fP ps) (mbit p.1) else fP ps := by unfold fP; rw [List.foldl_append]; rfl
theorem lastP_snoc (ps : List (Nat × Bool)) (p : Nat × Bool) : lastP (ps ++ [p]) = p.1 := by unfold lastP; rw [List.foldl_append]; rfl
theorem mhas_bitJ (k i : Nat) (hk : k < 128) : mhas (mbit k) i = decide (i = k) := by
  unfold mhas mbit
  rw [BitVec.getLsbD_shiftLeft]
  simp only [Int.toNat_natCast]
  by_cases h : i = k
  · subst h; simp [hk]
  · have h1 : decide (i = k) = false := decide_eq_false h
    rw [h1]
    by_cases h2 : i < k
    · simp [h2]
    · have h3 : BitVec.getLsbD 1#128 (i - k) = false := by rw [BitVec.getLsbD_one]; simp; omega
      rw [h3]; simp
theorem mask_extJ {a b : Mask} (h : ∀ i : Nat, i < 128 → mhas a i = mhas b i) : a = b := BitVec.eq_of_getLsbD_eq fun i hi => by have := h i hi; simpa [mhas] using this
theorem mask_highJ {m : Mask} (h : isMaskB m = true) (i : Nat) (hi : 96 ≤ i) : mhas m i = false := by
  unfold isMaskB at h
  rw [decide_eq_true_eq] at h
  show m.toNat.testBit i = false
  exact Nat.testBit_lt_two_pow (Nat.lt_of_lt_of_le h (Nat.pow_le_pow_right (n := 2) (by decide) hi))
theorem mask_lowJ {m : Mask} (h : ∀ i : Nat, 96 ≤ i → mhas m i = false) : isMaskB m = true := by
  unfold isMaskB
  rw [decide_eq_true_eq]
  show m.toNat < 2 ^ 96
  exact Nat.lt_pow_two_of_testBit _ (fun i hi => h i hi)
theorem tP_has (i : Nat) : ∀ ps : List (Nat × Bool), (∀ p ∈ ps, p.1 < 128) → mhas (tP ps) i = ps.any fun p => !p.2 && decide (i = p.1) := by
  refine snocRec ?_ ?_
  · intro _; show mhas 0 i = false; simp [mhas]
  · intro ps p ih h
    rw [tP_snoc, List.any_append, ← ih (fun q hq => h q (List.mem_append_left _ hq))]
    have hp := h p (List.mem_append_right _ (List.mem_singleton.2 rfl))
    cases h2 : p.2 with
    | true => rw [if_pos rfl]; simp [h2]
    | false => rw [if_neg (by decide), mhas_jn, mhas_bitJ _ _ hp]; simp [h2]
theorem fP_has (i : Nat) : ∀ ps : List (Nat × Bool), (∀ p ∈ ps, p.1 < 128) → mhas (fP ps) i = ps.any fun p => p.2 && decide (i = p.1) := by
  refine snocRec ?_ ?_
  · intro _; show mhas 0 i = false; simp [mhas]
  · intro ps p ih h
    rw [fP_snoc, List.any_append, ← ih (fun q hq => h q (List.mem_append_left _ hq))]
    have hp := h p (List.mem_append_right _ (List.mem_singleton.2 rfl))
    cases h2 : p.2 with
    | true => rw [if_pos rfl, mhas_jn, mhas_bitJ _ _ hp]; simp [h2]
    | false => rw [if_neg (by decide)]; simp [h2]
/-- Holes that rise. -/
def Inc (ps : List (Nat × Bool)) : Prop := ps.Pairwise (fun a b => a.1 < b.1) ∧ ∀ p ∈ ps, p.1 < 96
theorem inc_nil : Inc [] := ⟨List.Pairwise.nil, fun p h => by cases h⟩
theorem last_max : ∀ ps : List (Nat × Bool), Inc ps → ∀ p ∈ ps, (p.1 : Int) ≤ lastP ps := by
  refine snocRec ?_ ?_
  · intro _ p hp; cases hp
  · intro ps q _ h p hp
    rw [lastP_snoc]
    rcases List.mem_append.1 hp with hp | hp
    · have := (List.pairwise_append.1 h.1).2.2 p hp q (List.mem_singleton.2 rfl); omega
    · rw [List.mem_singleton.1 hp]; omega
theorem last_ge (ps : List (Nat × Bool)) : -1 ≤ lastP ps := by
  revert ps
  refine snocRec ?_ ?_
  · exact Int.le_refl _
  · intro ps q _; rw [lastP_snoc]; omega
theorem last_lt (ps : List (Nat × Bool)) (h : Inc ps) : lastP ps < 96 := by
  revert ps
  refine snocRec ?_ ?_
  · intro _; decide
  · intro ps q _ h
    rw [lastP_snoc]
    have := h.2 q (List.mem_append_right _ (List.mem_singleton.2 rfl))
    omega
theorem inc_snoc {ps : List (Nat × Bool)} (h : Inc ps) (p : Nat × Bool) (h1 : lastP ps < p.1) (h2 : p.1 < 96) : Inc (ps ++ [p]) :=
  ⟨List.pairwise_append.2 ⟨h.1, List.pairwise_singleton _ _, fun a ha b hb => by rw [List.mem_singleton.1 hb]; have := last_max ps h a ha; omega⟩,
   fun q hq => (List.mem_append.1 hq).elim (h.2 q) (fun hq => by rw [List.mem_singleton.1 hq]; exact h2)⟩
theorem inc_next {ps : List (Nat × Bool)} {p : Nat × Bool} (h : Inc (ps ++ [p])) : lastP ps < p.1 := by
  have h1 := (List.pairwise_append.1 h.1).2.2
  clear h
  revert h1
  refine snocRec (p := fun ps => (∀ a ∈ ps, ∀ b ∈ [p], a.1 < b.1) → lastP ps < p.1) ?_ ?_ ps
  · intro _; show (-1 : Int) < _; omega
  · intro ps q _ h1
    rw [lastP_snoc]
    have := h1 q (List.mem_append_right _ (List.mem_singleton.2 rfl)) p (List.mem_singleton.2 rfl)
    omega
theorem inc_take {ps : List (Nat × Bool)} (h : Inc ps) (k : Nat) : Inc (ps.take k) := ⟨h.1.sublist (List.take_sublist _ _), fun p hp => h.2 p (List.mem_of_mem_take hp)⟩
theorem prs_inc (t f : Mask) : ∀ k : Nat, k ≤ 96 → (prs t f k).Pairwise (fun a b => a.1 < b.1) ∧ (∀ p ∈ prs t f k, p.1 < k) ∧ ∀ p ∈ prs t f k, mhas (mjoin t f) p.1 = true ∧ p.2 = mhas f p.1
  | 0, _ => by unfold prs holesTo; exact ⟨List.Pairwise.nil, fun p h => (by cases h), fun p h => (by cases h)⟩
  | k + 1, hk => by
    obtain ⟨h1, h2, h3⟩ := prs_inc t f k (by omega)
    unfold prs at *
    cases h : mhas (mjoin t f) k with
    | true =>
      rw [holesTo_hit _ _ h, List.map_append, List.map_singleton]
      refine ⟨List.pairwise_append.2 ⟨h1, List.pairwise_singleton _ _, fun a ha b hb => by rw [List.mem_singleton.1 hb]; exact h2 a ha⟩, fun p hp => ?_, fun p hp => ?_⟩
      · rcases List.mem_append.1 hp with hp | hp
        · have := h2 p hp; omega
        · rw [List.mem_singleton.1 hp]; show (k : Int).toNat < _; omega
      · rcases List.mem_append.1 hp with hp | hp
        · exact h3 p hp
        · rw [List.mem_singleton.1 hp]; exact ⟨by rw [Int.toNat_natCast]; exact h, by rw [Int.toNat_natCast]⟩
    | false =>
      rw [holesTo_miss _ _ h]
      exact ⟨h1, fun p hp => by have := h2 p hp; omega, h3⟩
theorem prs_mem (t f : Mask) (i : Nat) : ∀ k : Nat, i < k → mhas (mjoin t f) i = true → (i, mhas f i) ∈ prs t f k
  | 0, h, _ => by omega
  | k + 1, h, hm => by
    have ih := prs_mem t f i k
    unfold prs at *
    by_cases e : i = k
    · subst e
      rw [holesTo_hit _ _ hm, List.map_append, List.map_singleton]
      exact List.mem_append_right _ (List.mem_singleton.2 (by rw [Int.toNat_natCast]))
    · cases h2 : mhas (mjoin t f) k with
      | true => rw [holesTo_hit _ _ h2, List.map_append]; exact List.mem_append_left _ (ih (by omega) hm)
      | false => rw [holesTo_miss _ _ h2]; exact ih (by omega) hm
theorem inc_prs (t f : Mask) : Inc (prs t f 96) := ⟨(prs_inc t f 96 (Nat.le_refl _)).1, (prs_inc t f 96 (Nat.le_refl _)).2.1⟩
theorem wear_parts {t f : Mask} (h : isWearB t f = true) : isMaskB t = true ∧ isMaskB f = true ∧ ∀ i : Nat, ¬ (mhas t i = true ∧ mhas f i = true) := by
  unfold isWearB at h
  rw [Bool.and_eq_true, Bool.and_eq_true] at h
  refine ⟨h.1.1, h.1.2, fun i hi => ?_⟩
  have h2 : mmeet t f = 0 := by have := h.2; unfold mzero at this; simpa using this
  have : mhas (mmeet t f) i = false := by rw [h2]; simp [mhas]
  unfold mmeet mhas at *
  rw [BitVec.getLsbD_and, hi.1, hi.2] at this
  cases this
theorem tP_prs {t f : Mask} (h : isWearB t f = true) : tP (prs t f 96) = t := by
  obtain ⟨h1, h2, h3⟩ := wear_parts h
  have hi := inc_prs t f
  refine mask_extJ fun i hi2 => ?_
  rw [tP_has i _ (fun p hp => Nat.lt_trans (hi.2 p hp) (by decide)), Bool.eq_iff_iff, List.any_eq_true]
  constructor
  · rintro ⟨p, hp, hq⟩
    obtain ⟨g1, g2⟩ := (prs_inc t f 96 (Nat.le_refl _)).2.2 p hp
    rw [Bool.and_eq_true, decide_eq_true_eq] at hq
    rw [← hq.2, mhas_jn, Bool.or_eq_true] at g1
    rw [hq.2]
    rw [hq.2] at g1
    rcases g1 with g1 | g1
    · exact g1
    · rw [← g2] at g1; rw [g1] at hq; cases hq.1
  · intro ht
    have hi96 : i < 96 := by
      by_cases e : i < 96
      · exact e
      · rw [mask_highJ h1 i (by omega)] at ht; cases ht
    refine ⟨(i, mhas f i), prs_mem t f i 96 hi96 (by rw [mhas_jn, ht]; rfl), ?_⟩
    have : mhas f i = false := by
      cases e : mhas f i with
      | false => rfl
      | true => exact absurd ⟨ht, e⟩ (h3 i)
    simp [this]
theorem fP_prs {t f : Mask} (h : isWearB t f = true) : fP (prs t f 96) = f := by
  obtain ⟨h1, h2, h3⟩ := wear_parts h
  have hi := inc_prs t f
  refine mask_extJ fun i hi2 => ?_
  rw [fP_has i _ (fun p hp => Nat.lt_trans (hi.2 p hp) (by decide)), Bool.eq_iff_iff, List.any_eq_true]
  constructor
  · rintro ⟨p, hp, hq⟩
    obtain ⟨g1, g2⟩ := (prs_inc t f 96 (Nat.le_refl _)).2.2 p hp
    rw [Bool.and_eq_true, decide_eq_true_eq] at hq
    rw [hq.2, ← g2]; exact hq.1
  · intro ht
    have hi96 : i < 96 := by
      by_cases e : i < 96
      · exact e
      · rw [mask_highJ h2 i (by omega)] at ht; cases ht
    exact ⟨(i, mhas f i), prs_mem t f i 96 hi96 (by rw [mhas_jn, ht, Bool.or_true]), by simp [ht]⟩
theorem inc_inj : ∀ {ps : List (Nat × Bool)}, ps.Pairwise (fun a b => a.1 < b.1) → ∀ {p q : Nat × Bool}, p ∈ ps → q ∈ ps → p.1 = q.1 → p = q
  | [], _, p, _, hp, _, _ => by cases hp
  | x :: ps, h, p, q, hp, hq, e => by
    rw [List.pairwise_cons] at h
    rcases List.mem_cons.1 hp with rfl | hp'
    · rcases List.mem_cons.1 hq with rfl | hq'
      · rfl
      · have := h.1 q hq'; omega
    · rcases List.mem_cons.1 hq with rfl | hq'
      · have := h.1 p hp'; omega
      · exact inc_inj h.2 hp' hq' e
theorem inc_ext : ∀ {a b : List (Nat × Bool)}, a.Pairwise (fun a b => a.1 < b.1) → b.Pairwise (fun a b => a.1 < b.1) → (∀ p, p ∈ a ↔ p ∈ b) → a = b
  | [], [], _, _, _ => rfl
  | [], y :: b, _, _, h => by have := (h y).2 (List.mem_cons_self ..); cases this
  | x :: a, [], _, _, h => by have := (h x).1 (List.mem_cons_self ..); cases this
  | x :: a, y :: b, ha, hb, h => by
    rw [List.pairwise_cons] at ha hb
    have e : x = y := by
      rcases List.mem_cons.1 ((h x).1 (List.mem_cons_self ..)) with e | e
      · exact e
      · rcases List.mem_cons.1 ((h y).2 (List.mem_cons_self ..)) with e2 | e2
        · exact e2.symm
        · have := hb.1 x e; have := ha.1 y e2; omega
    subst e
    rw [inc_ext ha.2 hb.2 (fun p => ?_)]
    constructor
    · intro hp
      rcases List.mem_cons.1 ((h p).1 (List.mem_cons_of_mem _ hp)) with e | e
      · have := ha.1 p hp; rw [e] at this; omega
      · exact e
    · intro hp
      rcases List.mem_cons.1 ((h p).2 (List.mem_cons_of_mem _ hp)) with e | e
      · have := hb.1 p hp; rw [e] at this; omega
      · exact e
theorem inc_128 {ps : List (Nat × Bool)} (h : Inc ps) : ∀ p ∈ ps, p.1 < 128 := fun p hp => Nat.lt_trans (h.2 p hp) (by decide)
theorem tP_mem {ps : List (Nat × Bool)} (h : Inc ps) {i : Nat} (hi : mhas (tP ps) i = true) : (i, false) ∈ ps := by
  rw [tP_has i _ (inc_128 h), List.any_eq_true] at hi
  obtain ⟨q, hq, e⟩ := hi
  rw [Bool.and_eq_true, decide_eq_true_eq] at e
  have : q = (i, false) := Prod.ext e.2.symm (by simpa using e.1)
  rw [← this]; exact hq
theorem fP_mem {ps : List (Nat × Bool)} (h : Inc ps) {i : Nat} (hi : mhas (fP ps) i = true) : (i, true) ∈ ps := by
  rw [fP_has i _ (inc_128 h), List.any_eq_true] at hi
  obtain ⟨q, hq, e⟩ := hi
  rw [Bool.and_eq_true, decide_eq_true_eq] at e
  have : q = (i, true) := Prod.ext e.2.symm e.1
  rw [← this]; exact hq
theorem mem_tP {ps : List (Nat × Bool)} (h : Inc ps) {i : Nat} (hi : (i, false) ∈ ps) : mhas (tP ps) i = true := by
  rw [tP_has i _ (inc_128 h), List.any_eq_true]
  exact ⟨_, hi, by simp⟩
theorem mem_fP {ps : List (Nat × Bool)} (h : Inc ps) {i : Nat} (hi : (i, true) ∈ ps) : mhas (fP ps) i = true := by
  rw [fP_has i _ (inc_128 h), List.any_eq_true]
  exact ⟨_, hi, by simp⟩
theorem inc_wear {ps : List (Nat × Bool)} (h : Inc ps) : isWearB (tP ps) (fP ps) = true := by
  have hb : ∀ i : Nat, ¬ (mhas (tP ps) i = true ∧ mhas (fP ps) i = true) := fun i hi => by
    have := inc_inj h.1 (tP_mem h hi.1) (fP_mem h hi.2) rfl
    cases this
  have h1 : isMaskB (tP ps) = true := mask_lowJ fun i hi => by
    cases e : mhas (tP ps) i with
    | false => rfl
    | true => have := h.2 _ (tP_mem h e); simp at this; omega
  have h2 : isMaskB (fP ps) = true := mask_lowJ fun i hi => by
    cases e : mhas (fP ps) i with
    | false => rfl
    | true => have := h.2 _ (fP_mem h e); simp at this; omega
  have h3 : mmeet (tP ps) (fP ps) = 0 := mask_extJ fun i hi => by
    have e : mhas (mmeet (tP ps) (fP ps)) i = (mhas (tP ps) i && mhas (fP ps) i) := by simp [mhas, mmeet]
    have e0 : mhas 0 i = false := by simp [mhas]
    rw [e, e0, Bool.and_eq_false_iff]
    cases e1 : mhas (tP ps) i with
    | false => exact .inl rfl
    | true =>
      cases e2 : mhas (fP ps) i with
      | false => exact .inr rfl
      | true => exact absurd ⟨e1, e2⟩ (hb i)
  unfold isWearB
  rw [h1, h2, h3]; rfl
theorem prs_of {ps : List (Nat × Bool)} (h : Inc ps) : prs (tP ps) (fP ps) 96 = ps := by
  refine inc_ext (inc_prs _ _).1 h.1 fun p => ?_
  constructor
  · intro hp
    obtain ⟨g1, g2⟩ := (prs_inc (tP ps) (fP ps) 96 (Nat.le_refl _)).2.2 p hp
    cases h2 : p.2 with
    | true =>
      have := fP_mem h (i := p.1) (by rw [← g2, h2])
      rwa [← h2] at this
    | false =>
      rw [h2] at g2
      rw [mhas_jn, ← g2, Bool.or_false] at g1
      have := tP_mem h g1
      rwa [← h2] at this
  · intro hp
    have h96 := h.2 p hp
    have e : mhas (fP ps) p.1 = p.2 := by
      cases h2 : p.2 with
      | true => exact mem_fP h (by rw [← h2]; exact hp)
      | false =>
        cases e : mhas (fP ps) p.1 with
        | false => rfl
        | true =>
          have := inc_inj h.1 hp (fP_mem h e) rfl
          rw [this] at h2; cases h2
    have hj : mhas (mjoin (tP ps) (fP ps)) p.1 = true := by
      rw [mhas_jn]
      cases h2 : p.2 with
      | true => rw [h2] at e; rw [e, Bool.or_true]
      | false => rw [mem_tP h (i := p.1) (by rw [← h2]; exact hp)]; rfl
    have := prs_mem (tP ps) (fP ps) p.1 96 h96 hj
    rwa [e] at this
end Go.Proofs.YthkphhacmneeiaaGreatDoor
