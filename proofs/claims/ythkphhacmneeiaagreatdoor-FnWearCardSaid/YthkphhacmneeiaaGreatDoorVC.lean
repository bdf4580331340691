/-
  Plain laws for FnWear: what chance wears, and how long a wear's text is.
-/
import Derived.Test.YthkphhacmneeiaaGreatDoorH5
import Derived.Test.YthkphhacmneeiaaGreatDoorJ8
import Derived.Test.YthkphhacmneeiaaGreatDoorK2
import Derived.Test.YthkphhacmneeiaaGreatDoorVM
set_option linter.unusedVariables false
set_option linter.unusedSimpArgs false
set_option maxRecDepth 100000
namespace Go.Proofs.YthkphhacmneeiaaGreatDoor
open Go.RowKit
theorem chTo_mem (c : Mask) (torn filled seed : Int) : ∀ k : Nat, k ≤ 128 → ∀ i : Nat,
    (mhas (chTo c torn filled seed k).2.1 i = true → i < k ∧ mhas c i = false) ∧ (mhas (chTo c torn filled seed k).2.2 i = true → i < k ∧ mhas c i = true)
  | 0, _, i => by rw [chTo_zero]; simp [mhas]
  | k + 1, hk, i => by
    obtain ⟨h1, h2⟩ := chTo_mem c torn filled seed k (by omega) i
    cases hc : mhas c k with
    | true =>
      by_cases hs : nextC (chTo c torn filled seed k).1 / 65536 % 1000 < filled
      · rw [chTo_fill c torn filled seed k hc hs]
        refine ⟨fun h => ⟨by have := (h1 h).1; omega, (h1 h).2⟩, fun h => ?_⟩
        rw [mhas_or, mhas_bit k i (by omega), Bool.or_eq_true] at h
        rcases h with h | h
        · exact ⟨by have := (h2 h).1; omega, (h2 h).2⟩
        · have := of_decide_eq_true h
          subst this
          exact ⟨by omega, hc⟩
      · rw [chTo_keep1 c torn filled seed k hc hs]
        exact ⟨fun h => ⟨by have := (h1 h).1; omega, (h1 h).2⟩, fun h => ⟨by have := (h2 h).1; omega, (h2 h).2⟩⟩
    | false =>
      by_cases hs : nextC (chTo c torn filled seed k).1 / 65536 % 1000 < torn
      · rw [chTo_tear c torn filled seed k hc hs]
        refine ⟨fun h => ?_, fun h => ⟨by have := (h2 h).1; omega, (h2 h).2⟩⟩
        rw [mhas_or, mhas_bit k i (by omega), Bool.or_eq_true] at h
        rcases h with h | h
        · exact ⟨by have := (h1 h).1; omega, (h1 h).2⟩
        · have := of_decide_eq_true h
          subst this
          exact ⟨by omega, hc⟩
      · rw [chTo_keep2 c torn filled seed k hc hs]
        exact ⟨fun h => ⟨by have := (h1 h).1; omega, (h1 h).2⟩, fun h => ⟨by have := (h2 h).1; omega, (h2 h).2⟩⟩
theorem mask_low {m : Mask} (h : ∀ i : Nat, mhas m i = true → i < 96) : isMaskB m = true := by
  unfold isMaskB
  rw [decide_eq_true_eq]
  show m.toNat < 2 ^ 96
  refine Nat.lt_pow_two_of_testBit _ (fun i hi => ?_)
  cases hb : m.toNat.testBit i with
  | false => rfl
  | true => have := h i hb; omega
theorem ch_law (x : Crd) (hx : isCardB x = true) (seed torn filled : Int) (s0 : 0 ≤ seed) (s1 : seed < 4294967296) (t0 : 0 ≤ torn) (t1 : torn ≤ 1000) (g0 : 0 ≤ filled) (g1 : filled ≤ 1000) :
    ∃ (t f : Mask) (s : Int), chF x seed torn filled = (⟨x.nm, wornM t f x.m⟩, t, f, s, 0) ∧ isWearB t f = true ∧ mless (wornM t f x.m) x.m = t ∧ mless x.m (wornM t f x.m) = f := by
  have hm := fun i => chTo_mem x.m torn filled seed 96 (by decide) i
  refine ⟨(chTo x.m torn filled seed 96).2.1, (chTo x.m torn filled seed 96).2.2, (chTo x.m torn filled seed 96).1, ?_, ?_, ?_⟩
  · unfold chF
    rw [if_pos hx, if_pos ⟨t0, t1, g0, g1⟩]
  · refine isWear_iff.2 ⟨mask_low fun i h => ((hm i).1 h).1, mask_low fun i h => ((hm i).2 h).1, fun i hi h => ?_⟩
    have := ((hm i).1 h).2
    cases h2 : mhas (chTo x.m torn filled seed 96).2.2 i with
    | false => rfl
    | true => have := ((hm i).2 h2).2; simp_all
  · exact worn_torn fun i hi => ⟨fun h => ((hm i).1 h).2, fun h => ((hm i).2 h).2⟩
theorem text_le (t f : Mask) : ∀ k : Nat, k ≤ 96 → (joinB (wordsW t f k)).size ≤ 100 * k
  | 0, _ => by rw [words_zero, joinB_nil]; exact Nat.le_refl _
  | k + 1, hk => by
    have ih := text_le t f k (by omega)
    have hd := decT_le k
    have ha : ∀ (out x : ByteArray), (addW out x).size ≤ out.size + 1 + x.size := fun out x => by
      by_cases h : out.size = 0
      · rw [add_first h]; omega
      · rw [add_next h, app_size, app_size]
        have : (⟨#[32]⟩ : ByteArray).size = 1 := rfl
        omega
    have h1 : ∀ c : UInt8, ((⟨#[c]⟩ : ByteArray) ++ decT k).size = 1 + (decT k).size := fun c => by rw [app_size]; rfl
    by_cases h2 : mhas f k = true
    · rw [text_minus h2]
      have := ha (joinB (wordsW t f k)) (⟨#[45]⟩ ++ decT k)
      rw [h1] at this
      omega
    · rw [Bool.not_eq_true] at h2
      by_cases h3 : mhas t k = true
      · rw [text_plus h3 h2]
        have := ha (joinB (wordsW t f k)) (⟨#[43]⟩ ++ decT k)
        rw [h1] at this
        omega
      · rw [Bool.not_eq_true] at h3
        rw [text_none h3 h2]
        omega
theorem wearT_le (t f : Mask) : (wearT t f).size ≤ 9600 := text_le t f 96 (Nat.le_refl _)
theorem read_back {t f t' f' : Mask} {c : Int} (hv : isWearB t f = true) (h : RW (wearT t f) t' f' c) : t' = t ∧ f' = f ∧ c = 0 := h.uniq (.inl ⟨rfl, hv, rfl⟩)
theorem ant_name : isNameB ⟨#[97, 110, 116]⟩ = true := by decide
theorem ant_card {a : Mask} (ha : isMaskB a = true) : isCardB ⟨⟨#[97, 110, 116]⟩, a⟩ = true := by unfold isCardB; rw [ant_name, ha]; rfl
theorem worn_mask {t f m : Mask} (hm : isMaskB m = true) (hv : isWearB t f = true) : isMaskB (wornM t f m) = true := sm_less (sm_joinV hm (isWear_iff.1 hv).1)
theorem between_law {a b : Mask} (ha : isMaskB a = true) (hb : isMaskB b = true) : ∃ p q : Mask, wbT a b = p ∧ wbF a b = q ∧ wbC a b = 0 ∧ uwT p q = q ∧ uwF p q = p ∧ uwC p q = 0 ∧ isWearB p q = true ∧ isWearB q p = true ∧ wornM p q a = b ∧ wornM q p b = a := by
  have hv := wear_between ha hb
  refine ⟨mless b a, mless a b, ?_, ?_, ?_, ?_, ?_, ?_, hv, wear_swap hv, worn_between a b, worn_between b a⟩
  · unfold wbT; rw [ha, hb]; rfl
  · unfold wbF; rw [ha, hb]; rfl
  · unfold wbC; rw [ha, hb]; rfl
  · unfold uwT; rw [if_pos hv]
  · unfold uwF; rw [if_pos hv]
  · unfold uwC; rw [if_pos hv]
theorem after_law {t f t' f' : Mask} (h : isWearB t f = true) (h' : isWearB t' f' = true) : ∃ p q : Mask, awT t f t' f' = p ∧ awF t f t' f' = q ∧ awC t f t' f' = 0 ∧ isWearB p q = true ∧ ∀ a, wornM p q a = wornM t' f' (wornM t f a) := by
  refine ⟨mjoin t' (mless t f'), mjoin f' (mless f t'), ?_, ?_, ?_, wear_after h h', fun a => worn_after a h h'⟩
  · unfold awT; rw [h, h']; rfl
  · unfold awF; rw [h, h']; rfl
  · unfold awC; rw [h, h']; rfl
theorem wear_ant {m n t f : Mask} (hm : isMaskB m = true) (hv : isWearB t f = true) (hn : wornM t f m = n) (w : World) :
    Calls Tryz.prog 8 #[.agg #[.string ⟨#[97, 110, 116]⟩, .int .u64 (lo m), .int .u64 (hi m)], .agg #[.int .u64 (lo t), .int .u64 (hi t), .int .u64 (lo f), .int .u64 (hi f)]] w fun e w' => e = .returned (.tuple #[.agg #[.string ⟨#[97, 110, 116]⟩, .int .u64 (lo n), .int .u64 (hi n)], .int .i64 0]) ∧ Ext w w' := by
  have h := impl_WearCard ⟨⟨#[97, 110, 116]⟩, m⟩ (show (3 : Nat) ≤ 9223372036854775807 by decide) t f w
  rw [wearF_hit (ant_card hm) hv] at h
  rw [← hn]
  exact h
theorem chance_ant {m : Mask} (hm : isMaskB m = true) (torn filled : Int) (t0 : 0 ≤ torn) (t1 : torn ≤ 1000) (g0 : 0 ≤ filled) (g1 : filled ≤ 1000) : ∃ (t f n : Mask) (s : Int), isWearB t f = true ∧ wornM t f m = n ∧ mless n m = t ∧ mless m n = f ∧
    (∀ w, Calls Tryz.prog 17 #[.agg #[.string ⟨#[97, 110, 116]⟩, .int .u64 (lo m), .int .u64 (hi m)], .int .u32 7, .int .i64 torn, .int .i64 filled] w fun e w' => e = .returned (.tuple #[.agg #[.string ⟨#[97, 110, 116]⟩, .int .u64 (lo n), .int .u64 (hi n)], .agg #[.int .u64 (lo t), .int .u64 (hi t), .int .u64 (lo f), .int .u64 (hi f)], .int .u32 s, .int .i64 0]) ∧ Ext w w') ∧
    (∀ w, Calls Tryz.prog 18 #[.agg #[.string ⟨#[97, 110, 116]⟩, .int .u64 (lo m), .int .u64 (hi m)], .int .u32 7, .int .i64 torn, .int .i64 filled] w fun e w' => e = .returned (.tuple #[.agg #[.string ⟨#[97, 110, 116]⟩, .int .u64 (lo n), .int .u64 (hi n)], .agg #[.int .u64 (lo t), .int .u64 (hi t), .int .u64 (lo f), .int .u64 (hi f)], .int .u32 s, .int .i64 0]) ∧ Ext w w') := by
  obtain ⟨t, f, s, h1, h2, h3, h4⟩ := ch_law ⟨⟨#[97, 110, 116]⟩, m⟩ (ant_card hm) 7 torn filled (by omega) (by omega) t0 t1 g0 g1
  refine ⟨t, f, _, s, h2, rfl, h3, h4, fun w => ?_, fun w => ?_⟩
  · have h := impl_Chance ⟨⟨#[97, 110, 116]⟩, m⟩ (show (3 : Nat) ≤ 9223372036854775807 by decide) 7 torn filled (by omega) (by omega) w
    rw [h1] at h
    exact h
  · have h := spec_Chance ⟨⟨#[97, 110, 116]⟩, m⟩ (show (3 : Nat) ≤ 9223372036854775807 by decide) 7 torn filled (by omega) (by omega) w
    rw [h1] at h
    exact h
end Go.Proofs.YthkphhacmneeiaaGreatDoor
