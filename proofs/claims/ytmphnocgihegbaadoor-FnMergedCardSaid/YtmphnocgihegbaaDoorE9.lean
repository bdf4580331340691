/-
  Ways up in a catalogue, and contracts of the functions that tell them.
-/
import Derived.Test.YtmphnocgihegbaaDoorE8
set_option linter.unusedVariables false
set_option linter.unusedSimpArgs false
set_option maxRecDepth 100000
namespace Go.Proofs.YtmphnocgihegbaaDoor
open Go.RowKit
/-- Is v in a list of numbers? -/
def hasI (is : List Int) (v : Int) : Bool := is.any fun y => y == v
def pathFrom (xs : List Ent) : Nat → Int → List Int
  | 0, _ => []
  | n + 1, a => if a = -1 then [] else a :: pathFrom xs n xs[a.toNat]!.br
/-- The way up from an entry. -/
def pathL (xs : List Ent) (i : Int) : List Int := pathFrom xs xs.length (firstF xs i)
theorem pathFrom_end (xs : List Ent) : ∀ n, pathFrom xs n (-1) = []
  | 0 => rfl
  | n + 1 => by rw [pathFrom, if_pos rfl]
theorem pathFrom_len (xs : List Ent) : ∀ n a, (pathFrom xs n a).length ≤ n
  | 0, _ => Nat.le_refl _
  | n + 1, a => by
    rw [pathFrom]
    split
    · simp
    · have := pathFrom_len xs n xs[a.toNat]!.br
      simp only [List.length_cons]
      omega
theorem pathL_len (xs : List Ent) (i : Int) : (pathL xs i).length ≤ xs.length := pathFrom_len xs _ _
theorem firstF_in {xs : List Ent} (h : standsB xs = true) (i : Int) (h0 : 0 ≤ i) (h1 : i < xs.length) : 0 ≤ firstF xs i ∧ firstF xs i < xs.length := by
  unfold firstF
  split
  · exact ⟨h0, h1⟩
  · rename_i hs
    have hr := refB_in (stand_parts (stands_at h i.toNat (by omega))).2.2.1
    unfold InC at hr
    omega
theorem tops_at {xs : List Ent} (h : topsB xs = true) (i : Int) (h0 : 0 ≤ i) (h1 : i < xs.length) : climb xs xs.length i < 0 := by
  unfold topsB at h
  rw [List.all_eq_true] at h
  have := h i.toNat (List.mem_range.2 (by omega))
  rw [decide_eq_true_eq, show ((i.toNat : Nat) : Int) = i by omega] at this
  exact this
/-- A way up that has not ended has not used all its steps. -/
theorem climb_more {xs : List Ent} {a : Int} (h : climb xs xs.length a < 0) (j : Nat) (hj : j ≤ xs.length) (hp : 0 ≤ climb xs j a) : j < xs.length := by
  rcases Nat.lt_or_ge j xs.length with h1 | h1
  · exact h1
  · exfalso
    obtain rfl : j = xs.length := by omega
    omega
def commF (xs : List Ent) (i k : Int) : Int × Int :=
  if atsF xs [i, k] = 0 then (match (pathL xs i).find? (hasI (pathL xs k)) with | some x => (x, 0) | none => (0, 6)) else (0, atsF xs [i, k])
theorem atsF_two {xs : List Ent} {i k : Int} (h : atsF xs [i, k] = 0) : catB xs = true ∧ (0 ≤ i ∧ i < xs.length) ∧ (0 ≤ k ∧ k < xs.length) := by
  unfold atsF at h
  split at h
  · split at h
    · rename_i h1 h2
      simp only [List.all_cons, List.all_nil, Bool.and_true, inX, Bool.and_eq_true, decide_eq_true_eq] at h2
      exact ⟨h1, h2⟩
    · simp at h
  · simp at h
theorem atsF_pair (xs : List Ent) (i k : Int) : atsF xs [i, k] = if atsF xs [i] = 0 then atsF xs [k] else atsF xs [i] := by
  unfold atsF
  cases catB xs <;> cases hi : inX xs i <;> cases hk : inX xs k <;> simp [hi, hk]
theorem find_miss {α : Type} (p : α → Bool) (xs : List α) (k : Nat) (hk : k < xs.length) (h : p xs[k] = false) (h0 : (xs.take k).find? p = none) : (xs.take (k + 1)).find? p = none := by
  rw [List.take_succ_eq_append_getElem hk, List.find?_append, h0, List.find?_cons, h]
  rfl
theorem find_hit {α : Type} (p : α → Bool) (xs : List α) (k : Nat) (hk : k < xs.length) (h : p xs[k] = true) (h0 : (xs.take k).find? p = none) : xs.find? p = some xs[k] := by
  have hx : xs = xs.take k ++ xs[k] :: xs.drop (k + 1) := by
    rw [← List.drop_eq_getElem_cons hk, List.take_append_drop]
  conv => lhs; rw [hx]
  rw [List.find?_append, h0, List.find?_cons, h]
  rfl
set_option maxHeartbeats 400000 in
theorem spec_l05In (is : List Int) (A : Option Addr) (cap : Nat) (v : Int) (w : World) (hR : Rd encI64 w A is) (hn : is.length ≤ 1048576) :
    Calls Tryd.prog 58 #[.slice A is.length cap, .int .i64 v] w fun e w' => e = .returned (.bool (hasI is v)) ∧ Ext w w' := by
  go_enter Tryd.func58, Tryd.ntmps58
  go_wp2
  go_loopg [5] is.length (fun g i wr => ∃ k : Nat, g = is.length - k ∧ k ≤ is.length ∧ i = .int .i64 k ∧ Ext w wr ∧ (is.take k).any (fun y => y == v) = false)
  case atStart => exact ⟨0, by omega, by omega, rfl, Ext.refl _, by rw [List.take_zero]; rfl⟩
  case round =>
    obtain ⟨k, hg, hk, rfl, hw, hQ⟩ := hrel
    by_cases hkl : k < is.length
    · obtain ⟨b, off, hA, hlt, _⟩ := hR k hkl
      subst hA
      have m0 := (hR.ext hw).i64 k hkl
      have hs := any_take (fun y => y == v) is k hkl
      rw [hQ, Bool.false_or] at hs
      by_cases q : is[k] = v
      · have hv := hd (show hasI is v = true from any_hit _ is k hkl (by simp [q]))
        clear hs hQ
        go_wp2
        go_ret
        exact ⟨by rw [hv.out]; rfl, hw⟩
      · have hs2 := hd (hs.trans (show (is[k] == v) = false by simp [q]))
        clear hs hQ
        go_wp2
        go_roundg (is.length - (k + 1))
        case rel => exact ⟨k + 1, rfl, hkl, rfl, hw, hs2.out⟩
        case measure => omega
    · obtain rfl : k = is.length := by omega
      rw [List.take_length] at hQ
      have hv := hd (show hasI is v = false from hQ)
      clear hQ
      go_wp2
      go_ret
      exact ⟨by rw [hv.out]; rfl, hw⟩
set_option maxHeartbeats 400000 in
theorem slices_Index_i64 (is : List Int) (A : Option Addr) (n cap : Nat) (v : Int) (w : World) (hnx : n = is.length) (hR : Rd encI64 w A is) (hn : n ≤ 1048576) :
    Calls Tryd.prog 76 #[.slice A n cap, .int .i64 v] w fun e w' => e = .returned (.int .i64 (fidx (fun y => y == v) is)) ∧ Ext w w' := by
  subst hnx
  go_enter Tryd.func76, Tryd.ntmps76
  go_wp2
  go_loopg [8] is.length (fun g i wr => ∃ k : Nat, g = is.length - k ∧ k ≤ is.length ∧ i = .int .i64 k ∧ Ext w wr ∧ (is.take k).any (fun y => y == v) = false)
  case atStart => exact ⟨0, by omega, by omega, rfl, Ext.refl _, by rw [List.take_zero]; rfl⟩
  case round =>
    obtain ⟨k, hg, hk, rfl, hw, hQ⟩ := hrel
    by_cases hkl : k < is.length
    · obtain ⟨b, off, hA, hlt, _⟩ := hR k hkl
      subst hA
      have m0 := (hR.ext hw).i64 k hkl
      have hs := any_take (fun y => y == v) is k hkl
      rw [hQ, Bool.false_or] at hs
      by_cases q : is[k] = v
      · have hv := hd (fidx_hit (fun y => y == v) is k hkl (by simp [q]) hQ)
        have q2 : (v = is[k]) = True := by simp [q]
        clear hs hQ
        go_wp2
        go_ret
        exact ⟨by rw [hv.out]; rfl, hw⟩
      · have hs2 := hd (hs.trans (show (is[k] == v) = false by simp [q]))
        have q2 : (v = is[k]) = False := by simp only [eq_iff_iff, iff_false]; exact fun h => q h.symm
        clear hs hQ
        go_wp2
        go_roundg (is.length - (k + 1))
        case rel => exact ⟨k + 1, rfl, hkl, rfl, hw, hs2.out⟩
        case measure => omega
    · obtain rfl : k = is.length := by omega
      rw [List.take_length] at hQ
      have hv := hd (fidx_none (fun y => y == v) is hQ)
      clear hQ
      go_wp2
      go_ret
      exact ⟨by rw [hv.out]; rfl, hw⟩
set_option maxHeartbeats 400000 in
theorem slices_Contains_i64 (is : List Int) (A : Option Addr) (n cap : Nat) (v : Int) (w : World) (hnx : n = is.length) (hR : Rd encI64 w A is) (hn : n ≤ 1048576) :
    Calls Tryd.prog 60 #[.slice A n cap, .int .i64 v] w fun e w' => e = .returned (.bool (hasI is v)) ∧ Ext w w' := by
  subst hnx
  have hm : hasI is v = decide (fidx (fun y => y == v) is ≥ 0) := by
    rw [Bool.eq_iff_iff, decide_eq_true_iff]
    exact (fidx_ge _ is).symm
  have hI := slices_Index_i64 is A _ cap v w rfl hR hn
  generalize fidx (fun y => y == v) is = q at hm hI
  rw [hm]
  clear hm
  go_enter Tryd.func60, Tryd.ntmps60
  go_wp2_with fail
  refine Calls.mono (hI) ?_
  rintro e w1 ⟨rfl, hb1⟩
  go_wp2
  go_ret
  exact ⟨rfl, by ((repeat (first | with_reducible exact Ext.refl _ | with_reducible exact hw | with_reducible exact hb9 | with_reducible exact hb8 | with_reducible exact hb7 | with_reducible exact hb6 | with_reducible exact hb5 | with_reducible exact hb4 | with_reducible exact hb3 | with_reducible exact hb2 | with_reducible exact hb1 | with_reducible refine Ext.alloc ?_ _ | with_reducible refine Ext.drew ?_ | ((with_reducible refine Ext.set ?_ ?_ _); focus (dsimp only; omega)) | with_reducible refine Ext.trans ?_ hb9 | with_reducible refine Ext.trans ?_ hb8 | with_reducible refine Ext.trans ?_ hb7 | with_reducible refine Ext.trans ?_ hb6 | with_reducible refine Ext.trans ?_ hb5 | with_reducible refine Ext.trans ?_ hb4 | with_reducible refine Ext.trans ?_ hb3 | with_reducible refine Ext.trans ?_ hb2 | with_reducible refine Ext.trans ?_ hb1 | with_reducible refine Ext.trans ?_ hw)))⟩
theorem info_i64 : (Tryd.prog.info? 2).map (fun i => (i.zero, i.size, i.bytes)) = some (some (.int .i64 0), encI64.sz, 8) := by kernel_rfl
set_option maxHeartbeats 400000 in
theorem impl_pathUp (xs : List Ent) (A : Option Addr) (cap : Nat) (i : Int) (w : World) (hR : Rd encEnt w A xs) (hcat : catB xs = true) (h0 : 0 ≤ i) (h1 : i < xs.length) :
    Calls Tryd.prog 43 #[.slice A xs.length cap, .int .i64 i] w fun e w' => ∃ v, e = .returned v ∧ Ow encI64 2 w' w.heap.size v (pathL xs i) ∧ Ext w w' := by
  have hlen := cat_len hcat
  have hS := cat_stands hcat
  have hf := firstF_in hS i h0 h1
  have hT := tops_at (cat_tops hcat) _ hf.1 hf.2
  have hpl : pathL xs i = pathFrom xs xs.length (firstF xs i) := rfl
  generalize pathL xs i = pl at hpl
  go_enter Tryd.func43, Tryd.ntmps43
  go_wp2_with fail
  refine Calls.mono (impl_preferred xs A cap i _ (hR.ext (by ((repeat (first | with_reducible exact Ext.refl _ | with_reducible exact hw | with_reducible exact hb9 | with_reducible exact hb8 | with_reducible exact hb7 | with_reducible exact hb6 | with_reducible exact hb5 | with_reducible exact hb4 | with_reducible exact hb3 | with_reducible exact hb2 | with_reducible exact hb1 | with_reducible refine Ext.alloc ?_ _ | with_reducible refine Ext.drew ?_ | ((with_reducible refine Ext.set ?_ ?_ _); focus (dsimp only; omega)) | with_reducible refine Ext.trans ?_ hb9 | with_reducible refine Ext.trans ?_ hb8 | with_reducible refine Ext.trans ?_ hb7 | with_reducible refine Ext.trans ?_ hb6 | with_reducible refine Ext.trans ?_ hb5 | with_reducible refine Ext.trans ?_ hb4 | with_reducible refine Ext.trans ?_ hb3 | with_reducible refine Ext.trans ?_ hb2 | with_reducible refine Ext.trans ?_ hb1 | with_reducible refine Ext.trans ?_ hw))))) h0 h1 (by omega)) ?_
  rintro e w1 ⟨rfl, hb1⟩
  generalize firstF xs i = a0 at hf hT hpl
  have hB1 : Ow encI64 2 w1 w.heap.size (.slice (some ⟨w.heap.size, 0, none⟩) 0 0) [] := (Ow.made0 rfl (Nat.le_refl _)).ext hb1
  have hw1 : Ext w w1 := by ((repeat (first | with_reducible exact Ext.refl _ | with_reducible exact hw | with_reducible exact hb9 | with_reducible exact hb8 | with_reducible exact hb7 | with_reducible exact hb6 | with_reducible exact hb5 | with_reducible exact hb4 | with_reducible exact hb3 | with_reducible exact hb2 | with_reducible exact hb1 | with_reducible refine Ext.alloc ?_ _ | with_reducible refine Ext.drew ?_ | ((with_reducible refine Ext.set ?_ ?_ _); focus (dsimp only; omega)) | with_reducible refine Ext.trans ?_ hb9 | with_reducible refine Ext.trans ?_ hb8 | with_reducible refine Ext.trans ?_ hb7 | with_reducible refine Ext.trans ?_ hb6 | with_reducible refine Ext.trans ?_ hb5 | with_reducible refine Ext.trans ?_ hb4 | with_reducible refine Ext.trans ?_ hb3 | with_reducible refine Ext.trans ?_ hb2 | with_reducible refine Ext.trans ?_ hb1 | with_reducible refine Ext.trans ?_ hw)))
  clear hb1
  go_wp2
  go_loopg [6, 5] xs.length (fun g a v wr => ∃ j : Nat, ∃ n : Int, ∃ ws : List Int, g = xs.length - j ∧ j ≤ xs.length ∧ a = .int .i64 n ∧ ws.length = j ∧ climb xs j a0 = n ∧ Ext w wr ∧ Ow encI64 2 wr w.heap.size v ws ∧ pl = ws ++ pathFrom xs (xs.length - j) n)
  case atStart => exact ⟨0, a0, [], by omega, by omega, rfl, rfl, rfl, hw1, hB1, hpl⟩
  case round =>
    obtain ⟨j, n, ws, hg, hj, rfl, hl, hcl, hw, hO, hP⟩ := hrel
    have hin := climb_in hS j (a := a0) (.inr hf)
    have hm := climb_more hT j hj
    rw [hcl] at hin hm
    have hcl2 := hd hcl
    clear hcl hT
    by_cases q : n = -1
    · subst q
      have hv : pl = ws := by rw [hP, pathFrom_end, List.append_nil]
      clear hP hpl
      go_wp2
      go_ret
      exact ⟨_, rfl, by rw [hv]; exact hO, hw⟩
    · have q2 : (n != -1) = true := by simp [q]
      obtain ⟨k, rfl⟩ : ∃ k : Nat, n = k := ⟨n.toNat, by unfold InC at hin; omega⟩
      have hkl : k < xs.length := by unfold InC at hin; omega
      have hjl : j < xs.length := hm (by omega)
      obtain ⟨b, off, hA, hlt, _⟩ := hR k hkl
      subst hA
      have hP2 : pl = (ws ++ [(k : Int)]) ++ pathFrom xs (xs.length - (j + 1)) xs[k].br := by
        rw [hP, show xs.length - j = xs.length - (j + 1) + 1 by omega, pathFrom, if_neg q, Int.toNat_natCast, getBang xs k hkl, List.append_assoc]
        rfl
      have hsu := hd (show climb xs (j + 1) a0 = xs[k].br by
        rw [climb_succ, hcl2.out]
        unfold stepUp
        rw [if_pos (by omega), Int.toNat_natCast, getBang xs k hkl])
      have hP3 := hd hP2
      clear hP hP2 hpl hm hin
      go_wp2_with (at_builtin; refine wpList_push (w0 := w) (base := w.heap.size) (xs := ws) encI64 (by rfl) _ _ 24 (.int .i64 0) 8 (by rfl) Tryd.underlying24 info_i64 (by rfl) (k : Int) (by rfl) (by rfl) hO hw.size (Nat.le_refl _) hw (by omega) (by omega) ?_)
      intro v3 w3 hO3 hb3 hg3 _
      obtain ⟨n0, n1, n2, n3⟩ := (hR.ext hb3).ent k hkl
      go_wp2
      go_roundg (xs.length - (j + 1))
      case rel => exact ⟨j + 1, xs[k].br, ws ++ [(k : Int)], rfl, by omega, rfl, by rw [List.length_append, hl]; rfl, hsu.out, hb3, hO3, hP3.out⟩
      case measure => omega

set_option maxHeartbeats 400000 in
theorem spec_l05Path (xs : List Ent) (A : Option Addr) (cap : Nat) (i : Int) (w : World) (hR : Rd encEnt w A xs) (hcat : catB xs = true) (h0 : 0 ≤ i) (h1 : i < xs.length) :
    Calls Tryd.prog 40 #[.slice A xs.length cap, .int .i64 i] w fun e w' => ∃ v, e = .returned v ∧ Ow encI64 2 w' w.heap.size v (pathL xs i) ∧ Ext w w' := by
  have hlen := cat_len hcat
  have hS := cat_stands hcat
  have hf := firstF_in hS i h0 h1
  have hT := tops_at (cat_tops hcat) _ hf.1 hf.2
  have hpl : pathL xs i = pathFrom xs xs.length (firstF xs i) := rfl
  generalize pathL xs i = pl at hpl
  go_enter Tryd.func40, Tryd.ntmps40
  go_wp2_with fail
  refine Calls.mono (spec_l05First xs A cap i _ (hR.ext (by ((repeat (first | with_reducible exact Ext.refl _ | with_reducible exact hw | with_reducible exact hb9 | with_reducible exact hb8 | with_reducible exact hb7 | with_reducible exact hb6 | with_reducible exact hb5 | with_reducible exact hb4 | with_reducible exact hb3 | with_reducible exact hb2 | with_reducible exact hb1 | with_reducible refine Ext.alloc ?_ _ | with_reducible refine Ext.drew ?_ | ((with_reducible refine Ext.set ?_ ?_ _); focus (dsimp only; omega)) | with_reducible refine Ext.trans ?_ hb9 | with_reducible refine Ext.trans ?_ hb8 | with_reducible refine Ext.trans ?_ hb7 | with_reducible refine Ext.trans ?_ hb6 | with_reducible refine Ext.trans ?_ hb5 | with_reducible refine Ext.trans ?_ hb4 | with_reducible refine Ext.trans ?_ hb3 | with_reducible refine Ext.trans ?_ hb2 | with_reducible refine Ext.trans ?_ hb1 | with_reducible refine Ext.trans ?_ hw))))) h0 h1 (by omega)) ?_
  rintro e w1 ⟨rfl, hb1⟩
  generalize firstF xs i = a0 at hf hT hpl
  have hB1 : Ow encI64 2 w1 w.heap.size (.slice (some ⟨w.heap.size, 0, none⟩) 0 0) [] := (Ow.made0 rfl (Nat.le_refl _)).ext hb1
  have hw1 : Ext w w1 := by ((repeat (first | with_reducible exact Ext.refl _ | with_reducible exact hw | with_reducible exact hb9 | with_reducible exact hb8 | with_reducible exact hb7 | with_reducible exact hb6 | with_reducible exact hb5 | with_reducible exact hb4 | with_reducible exact hb3 | with_reducible exact hb2 | with_reducible exact hb1 | with_reducible refine Ext.alloc ?_ _ | with_reducible refine Ext.drew ?_ | ((with_reducible refine Ext.set ?_ ?_ _); focus (dsimp only; omega)) | with_reducible refine Ext.trans ?_ hb9 | with_reducible refine Ext.trans ?_ hb8 | with_reducible refine Ext.trans ?_ hb7 | with_reducible refine Ext.trans ?_ hb6 | with_reducible refine Ext.trans ?_ hb5 | with_reducible refine Ext.trans ?_ hb4 | with_reducible refine Ext.trans ?_ hb3 | with_reducible refine Ext.trans ?_ hb2 | with_reducible refine Ext.trans ?_ hb1 | with_reducible refine Ext.trans ?_ hw)))
  clear hb1
  go_wp2
  go_loopg [6, 5] xs.length (fun g a v wr => ∃ j : Nat, ∃ n : Int, ∃ ws : List Int, g = xs.length - j ∧ j ≤ xs.length ∧ a = .int .i64 n ∧ ws.length = j ∧ climb xs j a0 = n ∧ Ext w wr ∧ Ow encI64 2 wr w.heap.size v ws ∧ pl = ws ++ pathFrom xs (xs.length - j) n)
  case atStart => exact ⟨0, a0, [], by omega, by omega, rfl, rfl, rfl, hw1, hB1, hpl⟩
  case round =>
    obtain ⟨j, n, ws, hg, hj, rfl, hl, hcl, hw, hO, hP⟩ := hrel
    have hin := climb_in hS j (a := a0) (.inr hf)
    have hm := climb_more hT j hj
    rw [hcl] at hin hm
    have hcl2 := hd hcl
    clear hcl hT
    by_cases q : n = -1
    · subst q
      have hv : pl = ws := by rw [hP, pathFrom_end, List.append_nil]
      clear hP hpl
      go_wp2
      go_ret
      exact ⟨_, rfl, by rw [hv]; exact hO, hw⟩
    · have q2 : (n != -1) = true := by simp [q]
      obtain ⟨k, rfl⟩ : ∃ k : Nat, n = k := ⟨n.toNat, by unfold InC at hin; omega⟩
      have hkl : k < xs.length := by unfold InC at hin; omega
      have hjl : j < xs.length := hm (by omega)
      obtain ⟨b, off, hA, hlt, _⟩ := hR k hkl
      subst hA
      have hP2 : pl = (ws ++ [(k : Int)]) ++ pathFrom xs (xs.length - (j + 1)) xs[k].br := by
        rw [hP, show xs.length - j = xs.length - (j + 1) + 1 by omega, pathFrom, if_neg q, Int.toNat_natCast, getBang xs k hkl, List.append_assoc]
        rfl
      have hsu := hd (show climb xs (j + 1) a0 = xs[k].br by
        rw [climb_succ, hcl2.out]
        unfold stepUp
        rw [if_pos (by omega), Int.toNat_natCast, getBang xs k hkl])
      have hP3 := hd hP2
      clear hP hP2 hpl hm hin
      go_wp2_with (at_builtin; refine wpList_push (w0 := w) (base := w.heap.size) (xs := ws) encI64 (by rfl) _ _ 24 (.int .i64 0) 8 (by rfl) Tryd.underlying24 info_i64 (by rfl) (k : Int) (by rfl) (by rfl) hO hw.size (Nat.le_refl _) hw (by omega) (by omega) ?_)
      intro v3 w3 hO3 hb3 hg3 _
      obtain ⟨n0, n1, n2, n3⟩ := (hR.ext hb3).ent k hkl
      go_wp2
      go_roundg (xs.length - (j + 1))
      case rel => exact ⟨j + 1, xs[k].br, ws ++ [(k : Int)], rfl, by omega, rfl, by rw [List.length_append, hl]; rfl, hsu.out, hb3, hO3, hP3.out⟩
      case measure => omega

