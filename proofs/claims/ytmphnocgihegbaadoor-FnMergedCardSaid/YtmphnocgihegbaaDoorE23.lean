/-
  An entry made a synonym of another one: the catalogue stays valid; with no program in sight.
-/
import Derived.Test.YtmphnocgihegbaaDoorE20
set_option linter.unusedVariables false
namespace Go.Proofs.YtmphnocgihegbaaDoor
open Go.RowKit
def redir (i k v : Int) : Int := if v = i then k else v
def mE (i k : Int) (x : Ent) : Ent := ⟨x.nm, redir i k x.see, redir i k x.br⟩
def mergeL (xs : List Ent) (i : Nat) (k : Int) : List Ent := (xs.map (mE i k)).set i ⟨xs[i]!.nm, k, -1⟩
theorem redir_hit (i k : Int) : redir i k i = k := by unfold redir; rw [if_pos rfl]
theorem redir_miss {i k v : Int} (h : v ≠ i) : redir i k v = v := by unfold redir; rw [if_neg h]
theorem mergeL_len (xs : List Ent) (i : Nat) (k : Int) : (mergeL xs i k).length = xs.length := by unfold mergeL; rw [List.length_set, List.length_map]
theorem mergeL_at {xs : List Ent} (i : Nat) (k : Int) (j : Nat) (hj : j < xs.length) (hne : j ≠ i) : (mergeL xs i k)[j]! = mE i k xs[j]! := by
  rw [getBang _ j (by rw [mergeL_len]; exact hj), getBang xs j hj]
  unfold mergeL
  rw [List.getElem_set_ne (by omega), List.getElem_map]
theorem mergeL_self {xs : List Ent} (i : Nat) (k : Int) (hi : i < xs.length) : (mergeL xs i k)[i]! = ⟨xs[i]!.nm, k, -1⟩ := by
  rw [getBang _ i (by rw [mergeL_len]; exact hi)]
  unfold mergeL
  rw [List.getElem_set_self]
theorem mergeL_names (xs : List Ent) (i : Nat) (k : Int) (hi : i < xs.length) : (mergeL xs i k).map (·.nm) = xs.map (·.nm) := by
  apply List.ext_getElem
  · rw [List.length_map, List.length_map, mergeL_len]
  · intro j h1 h2
    rw [List.getElem_map, List.getElem_map]
    rw [List.length_map] at h2
    rw [← getBang _ j (by rw [mergeL_len]; exact h2), ← getBang xs j h2]
    by_cases h : j = i
    · subst h
      rw [mergeL_self j k h2]
    · rw [mergeL_at i k j h2 h]
      rfl
theorem any_names {xs ys : List Ent} (h : ys.map (·.nm) = xs.map (·.nm)) (j : Nat) (g : ByteArray → Bool) : ((ys.take j).any fun y => g y.nm) = ((xs.take j).any fun y => g y.nm) := by
  have e : ∀ zs : List Ent, ((zs.take j).any fun y => g y.nm) = ((zs.map (·.nm)).take j).any g := by
    intro zs
    rw [← List.map_take, List.any_map]
    rfl
  rw [e, e, h]
theorem prefB_iff (xs : List Ent) (v : Int) : prefB xs v = true ↔ 0 ≤ v ∧ v < xs.length ∧ xs[v.toNat]!.see = -1 := by
  unfold prefB
  simp only [Bool.and_eq_true, decide_eq_true_eq, beq_iff_eq]
theorem refB_iff (xs : List Ent) (v : Int) : refB xs v = true ↔ v = -1 ∨ prefB xs v = true := by
  unfold refB
  simp only [Bool.or_eq_true, beq_iff_eq]
theorem pathFrom_all {xs : List Ent} (h : standsB xs = true) : ∀ (n j : Nat) (a : Int), InC xs a → j < n → 0 ≤ climb xs j a → climb xs j a ∈ pathFrom xs n a
  | 0, _, _, _, hj, _ => absurd hj (by omega)
  | n + 1, j, a, ha, hj, hp => by
    have h0 : 0 ≤ a := by
      rcases Nat.eq_zero_or_pos j with rfl | _
      · exact hp
      · by_cases hlt : a < 0
        · rw [climb_neg xs j hlt] at hp; exact hp
        · omega
    rw [pathFrom, if_neg (by omega)]
    cases j with
    | zero => exact List.mem_cons_self
    | succ j =>
      have hst : stepUp xs a = xs[a.toNat]!.br := by unfold stepUp; rw [if_pos h0]
      rw [climb, hst] at hp ⊢
      exact List.mem_cons_of_mem _ (pathFrom_all h n j _ (by rw [← hst]; exact stepUp_in h ha) (by omega) hp)
theorem merge_cat {xs : List Ent} (hc : catB xs = true) (i k : Nat) (hi : i < xs.length) (hk : k < xs.length) (hsi : xs[i]!.see = -1) (hsk : xs[k]!.see = -1) (hno : (i : Int) ∉ pathL xs k) : catB (mergeL xs i k) = true := by
  have hS := cat_stands hc
  have hT := cat_tops hc
  have hcons := pathL_cons (xs := xs) (k : Int) (by omega) (by omega) (by rw [Int.toNat_natCast]; exact hsk)
  have hki : k ≠ i := by
    intro e
    subst e
    rw [hcons] at hno
    exact hno List.mem_cons_self
  have hlen := mergeL_len xs i k
  generalize hys : mergeL xs i k = ys at hlen
  have hself : ys[i]! = ⟨xs[i]!.nm, k, -1⟩ := by rw [← hys]; exact mergeL_self i k hi
  have hat : ∀ j, j < xs.length → j ≠ i → ys[j]! = mE i k xs[j]! := fun j h1 h2 => by rw [← hys]; exact mergeL_at i k j h1 h2
  have hnames : ys.map (·.nm) = xs.map (·.nm) := by rw [← hys]; exact mergeL_names xs i k hi
  have hpref : ∀ v : Int, v ≠ i → prefB xs v = true → prefB ys v = true := by
    intro v hv h
    rw [prefB_iff] at h ⊢
    obtain ⟨h1, h2, h3⟩ := h
    refine ⟨h1, by omega, ?_⟩
    rw [hat v.toNat (by omega) (by omega)]
    show redir i k xs[v.toNat]!.see = -1
    rw [h3, redir_miss (by omega)]
  have hpk : prefB ys k = true := hpref k (by omega) (by rw [prefB_iff]; exact ⟨by omega, by omega, by rw [Int.toNat_natCast]; exact hsk⟩)
  have href : ∀ v : Int, refB xs v = true → refB ys (redir i k v) = true := by
    intro v h
    rw [refB_iff] at h ⊢
    rcases h with rfl | h
    · exact .inl (redir_miss (by omega))
    · right
      by_cases hv : v = i
      · subst hv
        rw [redir_hit]
        exact hpk
      · rw [redir_miss hv]
        exact hpref v hv h
  have hstand : standsB ys = true := by
    unfold standsB
    rw [List.all_eq_true]
    intro j hj
    have hj2 : j < xs.length := by rw [← hlen]; exact List.mem_range.1 hj
    obtain ⟨h1, h2, h3, h4, h5⟩ := stand_parts (stands_at hS j hj2)
    have hnm : ys[j]!.nm = xs[j]!.nm := by
      by_cases h : j = i
      · subst h; rw [hself]
      · rw [hat j hj2 h]; rfl
    unfold standB
    rw [hnm, any_names hnames j (fun s => s.toList == xs[j]!.nm.toList), h1, h2]
    by_cases h : j = i
    · subst h
      rw [hself]
      simp only [Bool.true_and, Bool.not_false]
      rw [show refB ys (k : Int) = true from (refB_iff _ _).2 (.inr hpk), show refB ys (-1) = true from rfl]
      rfl
    · rw [hat j hj2 h]
      show (true && (!false && (refB ys (redir i k xs[j]!.see) && (refB ys (redir i k xs[j]!.br) && (redir i k xs[j]!.see == -1 || redir i k xs[j]!.br == -1))))) = true
      rw [href _ h3, href _ h4]
      rcases h5 with h5 | h5
      · rw [h5, redir_miss (by omega)]; rfl
      · rw [h5, redir_miss (v := (-1 : Int)) (by omega)]; simp
  have hik : ∀ n, climb xs n k ≠ i := by
    intro n he
    rcases Nat.lt_or_ge n xs.length with hn | hn
    · apply hno
      unfold pathL
      rw [firstF_self (k : Int) (by rw [Int.toNat_natCast]; exact hsk), ← he]
      exact pathFrom_all hS _ n _ (.inr ⟨by omega, by omega⟩) hn (by omega)
    · have h1 := tops_at hT (k : Int) (by omega) (by omega)
      rw [show n = xs.length + (n - xs.length) by omega, climb_add, climb_neg xs _ h1] at he
      omega
  have hA : ∀ n, climb ys n k = climb xs n k := by
    intro n
    induction n with
    | zero => rfl
    | succ n ih =>
      rw [climb_succ, climb_succ, ih]
      have h1 := hik n
      have h2 := hik (n + 1)
      rw [climb_succ] at h2
      have hin := climb_in hS n (a := (k : Int)) (.inr ⟨by omega, by omega⟩)
      generalize climb xs n k = c at h1 h2 hin
      unfold stepUp at h2 ⊢
      by_cases hc0 : 0 ≤ c
      · rw [if_pos hc0, if_pos hc0]
        rw [if_pos hc0] at h2
        rw [hat c.toNat (by unfold InC at hin; omega) (by omega)]
        exact redir_miss h2
      · rw [if_neg hc0, if_neg hc0]
  have hB : ∀ (n : Nat) (a : Int), InC xs a → climb xs n a < 0 → ∃ m, climb ys m a < 0 := by
    intro n
    induction n with
    | zero => intro a _ h; exact ⟨0, h⟩
    | succ n ih =>
      intro a ha h
      by_cases hlt : a < 0
      · exact ⟨0, hlt⟩
      · have ha2 : a.toNat < xs.length := by unfold InC at ha; omega
        have hst : stepUp xs a = xs[a.toNat]!.br := by unfold stepUp; rw [if_pos (by omega)]
        by_cases hai : a.toNat = i
        · refine ⟨1, ?_⟩
          show stepUp ys a < 0
          unfold stepUp
          rw [if_pos (by omega), hai, hself]
          show (-1 : Int) < 0
          decide
        · have hsy : stepUp ys a = redir i k xs[a.toNat]!.br := by
            unfold stepUp
            rw [if_pos (by omega), hat a.toNat ha2 hai]
            rfl
          by_cases hb : xs[a.toNat]!.br = i
          · refine ⟨xs.length + 1, ?_⟩
            rw [climb, hsy, hb, redir_hit, hA]
            exact tops_at hT (k : Int) (by omega) (by omega)
          · rw [climb, hst] at h
            obtain ⟨m, hm⟩ := ih _ (by rw [← hst]; exact stepUp_in hS ha) h
            exact ⟨m + 1, by rw [climb, hsy, redir_miss hb]; exact hm⟩
  have htop : topsB ys = true := by
    unfold topsB
    rw [List.all_eq_true]
    intro j hj
    have hj2 : j < xs.length := by rw [← hlen]; exact List.mem_range.1 hj
    rw [decide_eq_true_eq]
    obtain ⟨m, hm⟩ := hB xs.length j (.inr ⟨by omega, by omega⟩) (tops_at hT (j : Int) (by omega) (by omega))
    exact climb_short hstand j (.inr ⟨by omega, by omega⟩) m hm
  unfold catB
  rw [hlen, decide_eq_true (cat_len hc), hstand, htop]
  rfl
end Go.Proofs.YtmphnocgihegbaaDoor
