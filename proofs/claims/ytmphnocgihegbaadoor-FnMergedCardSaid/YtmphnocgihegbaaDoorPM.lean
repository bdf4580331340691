/-
  Plain laws of drawn, merged and lengthened catalogues; with no program in sight.
-/
import Derived.Test.YtmphnocgihegbaaDoorE21
import Derived.Test.YtmphnocgihegbaaDoorE23
import Derived.Test.YtmphnocgihegbaaDoorE24
import Derived.Test.YtmphnocgihegbaaDoorE25
set_option linter.unusedVariables false
set_option linter.unusedSimpArgs false
set_option maxRecDepth 100000
namespace Go.Proofs.YtmphnocgihegbaaDoor
open Go.RowKit
theorem push_at {xs : List Ent} (x : Ent) (j : Nat) (hj : j < xs.length) : (xs ++ [x])[j]! = xs[j]! := by
  rw [getBang _ j (by rw [List.length_append]; omega), getBang xs j hj, List.getElem_append_left hj]
theorem push_self (xs : List Ent) (x : Ent) : (xs ++ [x])[xs.length]! = x := by
  rw [getBang _ _ (by rw [List.length_append, List.length_singleton]; omega), List.getElem_append_right (Nat.le_refl _)]
  simp
theorem prefB_push {xs : List Ent} (x : Ent) {v : Int} (h : prefB xs v = true) : prefB (xs ++ [x]) v = true := by
  rw [prefB_iff] at *
  obtain ⟨h0, h1, h2⟩ := h
  exact ⟨h0, by rw [List.length_append]; omega, by rw [push_at x _ (by omega)]; exact h2⟩
theorem refB_push {xs : List Ent} (x : Ent) {v : Int} (h : refB xs v = true) : refB (xs ++ [x]) v = true := by
  rw [refB_iff] at *
  exact h.imp id (prefB_push x)
theorem climb_push {xs : List Ent} (x : Ent) (h : standsB xs = true) : ∀ (n : Nat) (a : Int), InC xs a → climb (xs ++ [x]) n a = climb xs n a
  | 0, _, _ => rfl
  | n + 1, a, ha => by
    have e : stepUp (xs ++ [x]) a = stepUp xs a := by
      unfold stepUp
      split
      · rw [push_at x _ (by unfold InC at ha; omega)]
      · rfl
    rw [climb, climb, e, climb_push x h n _ (stepUp_in h ha)]
/-- An entry that stands well is put behind a valid catalogue. -/
theorem cat_push {xs : List Ent} {x : Ent} (hc : catB xs = true) (hl : xs.length < 40) (hnm : entNameB x.nm = true) (hfr : (xs.any fun y => y.nm.toList == x.nm.toList) = false) (hs : refB xs x.see = true) (hb : refB xs x.br = true) (ho : x.see = -1 ∨ x.br = -1) : catB (xs ++ [x]) = true := by
  have hS := cat_stands hc
  have hT := cat_tops hc
  have hS2 : standsB (xs ++ [x]) = true := by
    unfold standsB
    rw [List.all_eq_true]
    intro i hi
    rw [List.mem_range, List.length_append, List.length_singleton] at hi
    have ht : (xs ++ [x]).take i = xs.take i := List.take_append_of_le_length (by omega)
    by_cases hlt : i < xs.length
    · obtain ⟨p1, p2, p3, p4, p5⟩ := stand_parts (stands_at hS i hlt)
      unfold standB
      rw [push_at x i hlt, ht, p1, p2, refB_push x p3, refB_push x p4]
      simp only [Bool.not_false, Bool.true_and, Bool.or_eq_true, beq_iff_eq]
      exact p5
    · obtain rfl : i = xs.length := by omega
      unfold standB
      rw [push_self, ht, List.take_length, hnm, hfr, refB_push x hs, refB_push x hb]
      simp only [Bool.not_false, Bool.true_and, Bool.or_eq_true, beq_iff_eq]
      exact ho
  have hT2 : topsB (xs ++ [x]) = true := by
    unfold topsB
    rw [List.all_eq_true]
    intro i hi
    rw [List.mem_range, List.length_append, List.length_singleton] at hi
    rw [decide_eq_true_eq, List.length_append, List.length_singleton]
    by_cases hlt : i < xs.length
    · have h1 := tops_at hT i (by omega) (by omega)
      rw [climb_push x hS _ _ (Or.inr ⟨by omega, by omega⟩), climb_succ]
      unfold stepUp
      rw [if_neg (by omega)]
      exact h1
    · obtain rfl : i = xs.length := by omega
      have e : stepUp (xs ++ [x]) (xs.length : Int) = x.br := by
        unfold stepUp
        rw [if_pos (by omega), Int.toNat_natCast, push_self]
      have hin := refB_in hb
      rw [climb, e, climb_push x hS _ _ hin]
      rcases hin with h1 | ⟨h1, h2⟩
      · rw [h1, climb_neg _ _ (by omega)]
        omega
      · exact tops_at hT _ h1 h2
  unfold catB
  rw [hS2, hT2, List.length_append, List.length_singleton, decide_eq_true (by omega)]
  rfl
/-- The way up to what is merged goes on to what it is merged with. -/
theorem merge_way {xs : List Ent} (hS : standsB xs = true) (i k : Nat) (hi : i < xs.length) : ∀ (n : Nat) (a : Int), InC xs a → a ≠ i → (i : Int) ∈ pathFrom xs n a → (k : Int) ∈ pathFrom (mergeL xs i k) n a
  | 0, a, _, _, h => by simp [pathFrom] at h
  | n + 1, a, ha, hne, h => by
    by_cases h1 : a = -1
    · rw [h1, pathFrom_end] at h
      simp at h
    · rw [pathFrom, if_neg h1] at h ⊢
      rcases List.mem_cons.1 h with e | h2
      · exact absurd e.symm hne
      · have hal : a.toNat < xs.length := by unfold InC at ha; omega
        have hne2 : a.toNat ≠ i := by unfold InC at ha; omega
        have hbr := br_in hS a.toNat hal
        rw [mergeL_at i k _ hal hne2]
        show _ ∈ a :: pathFrom _ n (redir i k xs[a.toNat]!.br)
        by_cases hb : xs[a.toNat]!.br = i
        · rw [hb, redir_hit]
          cases n with
          | zero => rw [hb] at h2; simp [pathFrom] at h2
          | succ n =>
            refine List.mem_cons_of_mem _ ?_
            rw [pathFrom, if_neg (by omega)]
            exact List.mem_cons_self
        · rw [redir_miss hb]
          exact List.mem_cons_of_mem _ (merge_way hS i k hi n _ hbr hb h2)
theorem path_self {ys : List Ent} {a : Int} (h : a ≠ -1) (n : Nat) (hn : 0 < n) : a ∈ pathFrom ys n a := by
  rw [show n = n - 1 + 1 by omega, pathFrom, if_neg h]
  exact List.mem_cons_self
theorem merge_exp {xs : List Ent} (hS : standsB xs = true) (i k : Nat) (hi : i < xs.length) (j : Nat) (hj : j < xs.length) (h : expB xs i j = true) : expB (mergeL xs i k) k j = true := by
  unfold expB at *
  rw [hasI_mem] at *
  unfold pathL at *
  rw [mergeL_len]
  by_cases hji : j = i
  · subst hji
    have e : firstF (mergeL xs j k) j = k := by
      unfold firstF
      rw [Int.toNat_natCast, mergeL_self j k hi]
      exact if_neg (by show ¬ ((k : Int) = -1); omega)
    rw [e]
    exact path_self (by omega) _ (by omega)
  · have e0 : (mergeL xs i k)[j]! = mE i k xs[j]! := mergeL_at i k j hj hji
    by_cases hsee : xs[j]!.see = i
    · have e : firstF (mergeL xs i k) j = k := by
        unfold firstF
        rw [Int.toNat_natCast, e0]
        show (if redir i k xs[j]!.see = -1 then (j : Int) else redir i k xs[j]!.see) = k
        rw [hsee, redir_hit, if_neg (by omega)]
      rw [e]
      exact path_self (by omega) _ (by omega)
    · have e : firstF (mergeL xs i k) j = firstF xs j := by
        unfold firstF
        rw [Int.toNat_natCast, e0]
        show (if redir i k xs[j]!.see = -1 then (j : Int) else redir i k xs[j]!.see) = _
        rw [redir_miss hsee]
      rw [e]
      refine merge_way hS i k hi _ _ (Or.inr (firstF_in hS j (by omega) (by omega))) ?_ h
      unfold firstF
      rw [Int.toNat_natCast]
      split
      · omega
      · exact hsee
theorem atsF_ok1 {xs : List Ent} {i : Int} (hc : catB xs = true) (h0 : 0 ≤ i) (h1 : i < xs.length) : atsF xs [i] = 0 := by
  unfold atsF
  rw [if_pos hc, if_pos]
  rw [List.all_cons, List.all_nil, Bool.and_true]
  unfold inX
  rw [decide_eq_true h0, decide_eq_true h1]
  rfl
theorem atsF_ok2 {xs : List Ent} {i k : Int} (hc : catB xs = true) (h0 : 0 ≤ i) (h1 : i < xs.length) (h2 : 0 ≤ k) (h3 : k < xs.length) : atsF xs [i, k] = 0 := by
  rw [atsF_pair, if_pos (atsF_ok1 hc h0 h1)]
  exact atsF_ok1 hc h2 h3
/-- What MergeEntries makes of a valid catalogue. -/
theorem merged_law {xs : List Ent} (hc : catB xs = true) (i k : Nat) (hi : i < xs.length) (hk : k < xs.length) :
    mergeF xs i k = ([], 4) ∨
    ∃ ys is js, mergeF xs i k = (ys, 0) ∧ ys.length = xs.length ∧ catB ys = true ∧ (∀ y ∈ ys, y.nm ∈ xs.map (·.nm)) ∧ prefF ys i = ((k : Int), 0) ∧ prefF ys k = ((k : Int), 0) ∧ expF xs i = (is, 0) ∧ expF ys k = (js, 0) ∧ (∀ v ∈ is, hasI js v = true) ∧ is.length ≤ xs.length ∧ js.length ≤ xs.length := by
  have hz : atsF xs [(i : Int), (k : Int)] = 0 := atsF_ok2 hc (by omega) (by omega) (by omega) (by omega)
  have hS := cat_stands hc
  unfold mergeF
  rw [if_pos hz, Int.toNat_natCast, Int.toNat_natCast]
  by_cases hp : xs[i]!.see = -1 ∧ xs[k]!.see = -1 ∧ hasI (pathL xs k) i = false
  · obtain ⟨hsi, hsk, hno⟩ := hp
    right
    rw [if_pos ⟨hsi, hsk, hno⟩]
    have hno2 : (i : Int) ∉ pathL xs k := by rw [← hasI_mem, hno]; simp
    have hcat := merge_cat hc i k hi hk hsi hsk hno2
    have hlen := mergeL_len xs i k
    have hcons := pathL_cons (xs := xs) (k : Int) (by omega) (by omega) (by rw [Int.toNat_natCast]; exact hsk)
    have hki : k ≠ i := by
      intro e
      subst e
      rw [hcons] at hno2
      exact hno2 List.mem_cons_self
    have hfi : firstF xs i = i := firstF_self _ (by rw [Int.toNat_natCast]; exact hsi)
    have hki2 : (mergeL xs i k)[k]!.see = -1 := by
      rw [mergeL_at i k k hk hki]
      show redir i k xs[k]!.see = -1
      rw [hsk, redir_miss (by omega)]
    have hfk : firstF (mergeL xs i k) k = k := firstF_self _ (by rw [Int.toNat_natCast]; exact hki2)
    have hfi2 : firstF (mergeL xs i k) i = k := by
      unfold firstF
      rw [Int.toNat_natCast, mergeL_self i k hi]
      exact if_neg (by show ¬ ((k : Int) = -1); omega)
    have hnames := mergeL_names xs i k hi
    have z1 : atsF (mergeL xs i k) [(i : Int)] = 0 := atsF_ok1 hcat (by omega) (by omega)
    have z2 : atsF (mergeL xs i k) [(k : Int)] = 0 := atsF_ok1 hcat (by omega) (by omega)
    have z3 : atsF xs [(i : Int)] = 0 := atsF_ok1 hc (by omega) (by omega)
    refine ⟨mergeL xs i k, pickI (expB xs i) xs.length, pickI (expB (mergeL xs i k) k) xs.length, rfl, hlen, hcat, ?_, ?_, ?_, ?_, ?_, ?_, pickI_len _ _, pickI_len _ _⟩
    · intro y hy
      rw [← hnames]
      exact List.mem_map_of_mem hy
    · unfold prefF; rw [if_pos z1, hfi2]
    · unfold prefF; rw [if_pos z2, hfk]
    · unfold expF; rw [if_pos z3, hfi]
    · unfold expF; rw [if_pos z2, hfk, hlen]
    · intro v hv
      rw [hasI_mem]
      rw [pickI_mem] at hv ⊢
      obtain ⟨j, hj, e, hjb⟩ := hv
      exact ⟨j, hj, e, merge_exp hS i k hi j hj hjb⟩
  · left
    rw [if_neg hp]
/-- What PutBelow makes of a valid catalogue. -/
theorem put_law {xs : List Ent} (hc : catB xs = true) (i k : Nat) (hi : i < xs.length) (hk : k < xs.length) :
    putF xs i k = ([], 4) ∨
    ∃ ys ps, putF xs i k = (ys, 0) ∧ ys.length = xs.length ∧ catB ys = true ∧ (∀ y ∈ ys, y.nm ∈ xs.map (·.nm)) ∧ pathF ys i = (ps, 0) ∧ 2 ≤ ps.length ∧ ps.length ≤ xs.length + 2 ∧ ps[0]? = some (i : Int) ∧ ps[1]? = some (k : Int) := by
  have hz : atsF xs [(i : Int)] = 0 := atsF_ok1 hc (by omega) (by omega)
  unfold putF
  rw [if_pos hz]
  unfold madeF
  by_cases hp : catB (putL xs i k) = true
  · right
    rw [if_pos hp]
    have hlen := putL_len xs i k
    have hS := cat_stands hp
    have hat : (putL xs i k)[i]! = ⟨xs[i].nm, xs[i].see, k⟩ := by
      rw [getBang _ i (by omega)]
      simp only [putL_at i hi]
      exact List.getElem_set_self ..
    obtain ⟨_, _, _, p4, p5⟩ := stand_parts (stands_at hS i (by omega))
    have hsee : (putL xs i k)[i]!.see = -1 := by
      rcases p5 with h | h
      · exact h
      · rw [hat] at h
        exact absurd h (by show ¬ ((k : Int) = -1); omega)
    have hcons := pathL_cons (xs := putL xs i k) (i : Int) (by omega) (by omega) (by rw [Int.toNat_natCast]; exact hsee)
    have hik : k ≠ i := by
      intro e
      have h1 := no_return (xs := putL xs i k) (i : Int) (by omega) (tops_at (cat_tops hp) _ (by omega) (by omega)) 0
      refine h1 ?_
      show stepUp (putL xs i k) i = i
      unfold stepUp
      rw [if_pos (by omega), Int.toNat_natCast, hat, e]
    have hz2 : atsF (putL xs i k) [(i : Int)] = 0 := atsF_ok1 hp (by omega) (by omega)
    have hpath : pathL (putL xs i k) i = (i : Int) :: (k : Int) :: pathFrom (putL xs i k) (xs.length - 2) (putL xs i k)[k]!.br := by
      rw [hcons, Int.toNat_natCast, hat, hlen]
      show (i : Int) :: pathFrom _ (xs.length - 1) (k : Int) = _
      rw [show xs.length - 1 = xs.length - 2 + 1 by omega, pathFrom, if_neg (by omega), Int.toNat_natCast]
    refine ⟨_, (i : Int) :: (k : Int) :: pathFrom (putL xs i k) (xs.length - 2) (putL xs i k)[k]!.br, rfl, hlen, hp, ?_, ?_, ?_, ?_, rfl, rfl⟩
    · intro y hy
      unfold putL at hy
      rcases List.mem_or_eq_of_mem_set hy with h | h
      · exact List.mem_map_of_mem h
      · rw [h, Int.toNat_natCast, getBang xs i hi]
        exact List.mem_map.2 ⟨xs[i], List.getElem_mem hi, rfl⟩
    · unfold pathF
      rw [if_pos hz2, hpath]
    · rw [List.length_cons, List.length_cons]
      omega
    · have := pathFrom_len (putL xs i k) (xs.length - 2) (putL xs i k)[k]!.br
      rw [List.length_cons, List.length_cons]
      omega
  · left
    rw [if_neg hp]
/-- The texts of which names of drawn entries are taken. -/
def calledL : List ByteArray := [⟨#[97, 110, 105, 109, 97, 108]⟩, ⟨#[100, 111, 103]⟩, ⟨#[104, 111, 117, 110, 100]⟩, ⟨#[99, 97, 116]⟩, ⟨#[116, 104, 101, 32, 57, 32, 108, 105, 118, 101, 115]⟩, ⟨#[49, 48, 32, 108, 105, 118, 101, 115]⟩, ⟨#[97, 32, 100, 111, 103]⟩, ⟨#[97, 110, 32, 97, 110, 116]⟩,
  ⟨#[98, 105, 114, 100, 32, 48, 48, 55]⟩, ⟨#[98, 105, 114, 100, 32, 55]⟩, ⟨#[115, 116, 111, 110, 101]⟩, ⟨#[116, 104, 101]⟩, ⟨#[119, 97, 116, 101, 114, 32, 50, 98]⟩, ⟨#[50, 98]⟩, ⟨#[97]⟩, ⟨#[102, 105, 115, 104]⟩]
def zzzT : ByteArray := ⟨#[122, 122, 122]⟩
theorem called_good : (calledL.all entNameB && entNameB zzzT) = true := by decide +kernel
theorem called_fresh : ((List.range 16).all fun j => !((calledL.take j).any fun y => y.toList == calledL[j]!.toList)) = true := by decide +kernel
theorem called_zzz : (calledL.any fun y => y.toList == zzzT.toList) = false := by decide +kernel
theorem called_small : ∀ y ∈ calledL, y.size ≤ 100 := by decide +kernel
/-- A catalogue as it is drawn. -/
structure DrawnC (xs : List Ent) : Prop where
  cat : catB xs = true
  len : xs.length ≤ 16
  names : xs.map (·.nm) = calledL.take xs.length
theorem DrawnC.nil : DrawnC [] := ⟨by decide +kernel, by simp, rfl⟩
theorem DrawnC.small {xs : List Ent} (h : DrawnC xs) : ∀ s ∈ xs.map (·.nm), s.size ≤ 100 := by
  intro s hs
  rw [h.names] at hs
  exact called_small s (List.mem_of_mem_take hs)
theorem DrawnC.ok {xs : List Ent} (h : DrawnC xs) : ∀ x ∈ xs, x.nm.size ≤ 9223372036854775807 := by
  intro x hx
  have := h.small x.nm (List.mem_map_of_mem hx)
  omega
theorem any_nm (xs : List Ent) (g : ByteArray → Bool) : (xs.any fun y => g y.nm) = (xs.map (·.nm)).any g := by
  rw [List.any_map]; rfl
theorem called_len : calledL.length = 16 := rfl
theorem DrawnC.push {xs : List Ent} (h : DrawnC xs) (hl : xs.length < 16) (s b : Int) (hs : refB xs s = true) (hb : refB xs b = true) (ho : s = -1 ∨ b = -1) : DrawnC (xs ++ [⟨calledL[xs.length]!, s, b⟩]) := by
  have hg := called_good
  rw [Bool.and_eq_true, List.all_eq_true] at hg
  have hin : calledL[xs.length]! = calledL[xs.length]'(by rw [called_len]; omega) := getBang _ _ _
  have hf := called_fresh
  rw [List.all_eq_true] at hf
  have hf1 := hf xs.length (List.mem_range.2 hl)
  rw [Bool.not_eq_true'] at hf1
  refine ⟨cat_push h.cat (by omega) (by rw [hin]; exact hg.1 _ (List.getElem_mem _)) ?_ hs hb ho, by rw [List.length_append, List.length_singleton]; omega, ?_⟩
  · rw [any_nm xs (fun y => y.toList == calledL[xs.length]!.toList), h.names]
    exact hf1
  · rw [List.map_append, h.names, List.length_append, List.length_singleton, List.take_succ_eq_append_getElem (by rw [called_len]; omega), List.map_singleton, hin]
theorem added_law {xs : List Ent} (h : DrawnC xs) : addF xs ⟨zzzT, -1, -1⟩ = (xs ++ [⟨zzzT, -1, -1⟩], 0) ∧ findF (xs ++ [⟨zzzT, -1, -1⟩]) zzzT = ((xs.length : Int), 0) ∧ ∀ x ∈ xs ++ [⟨zzzT, -1, -1⟩], x.nm.size ≤ 9223372036854775807 := by
  have hlen := h.len
  have hg := called_good
  rw [Bool.and_eq_true, List.all_eq_true] at hg
  have hno : (xs.any fun y => y.nm.toList == zzzT.toList) = false := by
    rw [any_nm xs (fun y => y.toList == zzzT.toList), h.names]
    have h2 := called_zzz
    rw [List.any_eq_false] at h2 ⊢
    exact fun y hy => h2 y (List.mem_of_mem_take hy)
  have hc : catB (xs ++ [⟨zzzT, -1, -1⟩]) = true := cat_push h.cat (by omega) hg.2 hno (by rw [refB_iff]; exact .inl rfl) (by rw [refB_iff]; exact .inl rfl) (.inl rfl)
  refine ⟨?_, ?_, ?_⟩
  · unfold addF madeF
    rw [if_pos h.cat, if_neg (by omega), if_pos hc]
  · have hx : fidx (fun y : Ent => y.nm.toList == zzzT.toList) (xs ++ [⟨zzzT, -1, -1⟩]) = (xs.length : Int) := by
      refine fidx_hit _ _ xs.length (by rw [List.length_append, List.length_singleton]; omega) ?_ ?_
      · rw [List.getElem_append_right (Nat.le_refl _)]
        simp
      · rw [List.take_append_of_le_length (Nat.le_refl _), List.take_length]
        exact hno
    unfold findF
    rw [if_pos hc, hx, if_neg (by omega)]
  · intro x hx
    rcases List.mem_append.1 hx with h1 | h1
    · exact h.ok x h1
    · rw [List.mem_singleton.1 h1]
      decide
end Go.Proofs.YtmphnocgihegbaaDoor
