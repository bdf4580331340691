/-
  FSY: the texts K1 G8 F20 MA F23 F25 F26 H0 G0 G1 G10 L9 AN DA DB in one (written by merge.py).
-/
import Derived.Test.YtdlpifgkponnmaaDoorK0
import Derived.Test.YtdlpifgkponnmaaDoorF18
import Derived.Test.YtdlpifgkponnmaaDoorC8
import Derived.Test.YtdlpifgkponnmaaDoorMI
import Derived.Test.YtdlpifgkponnmaaDoorF19
import Derived.Test.YtdlpifgkponnmaaDoorL5
import Derived.Test.YtdlpifgkponnmaaDoorP1
import Derived.Test.YtdlpifgkponnmaaDoorF5
import Derived.Test.YtdlpifgkponnmaaDoorF6
import Derived.Test.YtdlpifgkponnmaaDoorShelf
import Derived.Lib.OwnBridge
import Derived.Lib.QuoteBits
import Derived.Test.YtdlpifgkponnmaaDoorL6
set_option linter.unusedVariables false
set_option linter.unusedSimpArgs false
namespace Go.Proofs.YtdlpifgkponnmaaDoor
open Go.RowKit
set_option maxHeartbeats 400000 in
theorem laws_toCard (x : Crd) (w : World) :
    Calls Tryd.prog 35 #[.agg #[.string x.nm, .int .u64 (lo x.m), .int .u64 (hi x.m)]] w fun e w' => e = .returned (.agg #[.string x.nm, .int .u64 (lo x.m), .int .u64 (hi x.m)]) ∧ Ext w w' := by
  go_enter Tryd.func35, Tryd.ntmps35
  go_wp2_with fail
  refine Calls.mono (laws_toMask _ _) ?_
  rintro e w1 ⟨rfl, hb1⟩
  obtain ⟨hc1, hf1, hz1⟩ := bcell3 hb1
  try simp at hz1
  have hz1_0 : w.heap.size < w1.heap.size := by omega
  have hz1_1 : w.heap.size + 1 < w1.heap.size := by omega
  have hz1_2 : w.heap.size + 1 + 1 < w1.heap.size := by omega
  go_wp2
  have c0 : w1.cell? ⟨w.heap.size + 1, 0, none⟩ = some (.string ⟨#[]⟩) := by go_simp
  have c1 : w1.cell? ⟨w.heap.size + 1, 1, none⟩ = some (.int .u64 0) := by go_simp
  have c2 : w1.cell? ⟨w.heap.size + 1, 2, none⟩ = some (.int .u64 0) := by go_simp
  try clear hc1 hf1
  try clear hc2 hf2
  try clear hc3 hf3
  try clear hc4 hf4
  try clear hc5 hf5
  try clear hc6 hf6
  try clear hc7 hf7
  try clear hc8 hf8
  try clear hc9 hf9
  refine bodyPost_ret (v := .agg #[.string x.nm, .int .u64 (lo x.m), .int .u64 (hi x.m)]) (by simp [results, Tryd.results35, go_sem, c0, c1, c2]) rfl ⟨rfl, ?_⟩
  (repeat (first | with_reducible exact Ext.refl _ | with_reducible exact hw | with_reducible exact hb9 | with_reducible exact hb8 | with_reducible exact hb7 | with_reducible exact hb6 | with_reducible exact hb5 | with_reducible exact hb4 | with_reducible exact hb3 | with_reducible exact hb2 | with_reducible exact hb1 | with_reducible refine Ext.alloc ?_ _ | with_reducible refine Ext.drew ?_ | ((with_reducible refine Ext.set ?_ ?_ _); focus (dsimp only; omega)) | with_reducible refine Ext.trans ?_ hb9 | with_reducible refine Ext.trans ?_ hb8 | with_reducible refine Ext.trans ?_ hb7 | with_reducible refine Ext.trans ?_ hb6 | with_reducible refine Ext.trans ?_ hb5 | with_reducible refine Ext.trans ?_ hb4 | with_reducible refine Ext.trans ?_ hb3 | with_reducible refine Ext.trans ?_ hb2 | with_reducible refine Ext.trans ?_ hb1 | with_reducible refine Ext.trans ?_ hw))
set_option maxHeartbeats 400000 in
theorem laws_eqCard (x y : Crd) (w : World) :
    Calls Tryd.prog 40 #[.agg #[.string x.nm, .int .u64 (lo x.m), .int .u64 (hi x.m)], .agg #[.string y.nm, .int .u64 (lo y.m), .int .u64 (hi y.m)]] w fun e w' => e = .returned (.bool (crdB x y)) ∧ Ext w w' := by
  unfold crdB
  cases h1 : (x.nm.toList == y.nm.toList)
  · go_enter Tryd.func40, Tryd.ntmps40
    go_wp2
    go_ret
    refine ⟨rfl, ?_⟩
    (repeat (first | with_reducible exact Ext.refl _ | with_reducible exact hw | with_reducible exact hb9 | with_reducible exact hb8 | with_reducible exact hb7 | with_reducible exact hb6 | with_reducible exact hb5 | with_reducible exact hb4 | with_reducible exact hb3 | with_reducible exact hb2 | with_reducible exact hb1 | with_reducible refine Ext.alloc ?_ _ | with_reducible refine Ext.drew ?_ | ((with_reducible refine Ext.set ?_ ?_ _); focus (dsimp only; omega)) | with_reducible refine Ext.trans ?_ hb9 | with_reducible refine Ext.trans ?_ hb8 | with_reducible refine Ext.trans ?_ hb7 | with_reducible refine Ext.trans ?_ hb6 | with_reducible refine Ext.trans ?_ hb5 | with_reducible refine Ext.trans ?_ hb4 | with_reducible refine Ext.trans ?_ hb3 | with_reducible refine Ext.trans ?_ hb2 | with_reducible refine Ext.trans ?_ hb1 | with_reducible refine Ext.trans ?_ hw))
  · cases h2 : meqB x.m y.m
    all_goals
      go_enter Tryd.func40, Tryd.ntmps40
      go_wp2_with fail
      refine Calls.mono (laws_eqMask _ _ _) ?_
      rintro e w1 ⟨rfl, hb1⟩
      obtain ⟨hc1, hf1, hz1⟩ := bcell3 hb1
      try simp at hz1
      have hz1_0 : w.heap.size < w1.heap.size := by omega
      have hz1_1 : w.heap.size + 1 < w1.heap.size := by omega
      go_wp2
      go_ret
      refine ⟨rfl, ?_⟩
      (repeat (first | with_reducible exact Ext.refl _ | with_reducible exact hw | with_reducible exact hb9 | with_reducible exact hb8 | with_reducible exact hb7 | with_reducible exact hb6 | with_reducible exact hb5 | with_reducible exact hb4 | with_reducible exact hb3 | with_reducible exact hb2 | with_reducible exact hb1 | with_reducible refine Ext.alloc ?_ _ | with_reducible refine Ext.drew ?_ | ((with_reducible refine Ext.set ?_ ?_ _); focus (dsimp only; omega)) | with_reducible refine Ext.trans ?_ hb9 | with_reducible refine Ext.trans ?_ hb8 | with_reducible refine Ext.trans ?_ hb7 | with_reducible refine Ext.trans ?_ hb6 | with_reducible refine Ext.trans ?_ hb5 | with_reducible refine Ext.trans ?_ hb4 | with_reducible refine Ext.trans ?_ hb3 | with_reducible refine Ext.trans ?_ hb2 | with_reducible refine Ext.trans ?_ hb1 | with_reducible refine Ext.trans ?_ hw))
set_option maxHeartbeats 400000 in
theorem laws_szCard (x : Crd) (left : Int) (h0 : 0 ≤ left) (h1 : left ≤ 1048576) (hx : x.nm.size ≤ 9223372036854775807) (w : World) :
    Calls Tryd.prog 30 #[.agg #[.string x.nm, .int .u64 (lo x.m), .int .u64 (hi x.m)], .int .i64 left] w fun e w' => e = .returned (.int .i64 (szF x.nm.size left)) ∧ Ext w w' := by
  by_cases hh : (x.nm.size : Int) ≤ left
  · have hv : szF x.nm.size left = left - x.nm.size := if_pos hh
    rw [hv]
    clear hv
    go_enter Tryd.func30, Tryd.ntmps30
    go_wp2
    go_ret
    exact ⟨rfl, by ((repeat (first | with_reducible exact Ext.refl _ | with_reducible exact hw | with_reducible exact hb9 | with_reducible exact hb8 | with_reducible exact hb7 | with_reducible exact hb6 | with_reducible exact hb5 | with_reducible exact hb4 | with_reducible exact hb3 | with_reducible exact hb2 | with_reducible exact hb1 | with_reducible refine Ext.alloc ?_ _ | with_reducible refine Ext.drew ?_ | ((with_reducible refine Ext.set ?_ ?_ _); focus (dsimp only; omega)) | with_reducible refine Ext.trans ?_ hb9 | with_reducible refine Ext.trans ?_ hb8 | with_reducible refine Ext.trans ?_ hb7 | with_reducible refine Ext.trans ?_ hb6 | with_reducible refine Ext.trans ?_ hb5 | with_reducible refine Ext.trans ?_ hb4 | with_reducible refine Ext.trans ?_ hb3 | with_reducible refine Ext.trans ?_ hb2 | with_reducible refine Ext.trans ?_ hb1 | with_reducible refine Ext.trans ?_ hw)))⟩
  · have hv : szF x.nm.size left = -1 := if_neg hh
    rw [hv]
    clear hv
    go_enter Tryd.func30, Tryd.ntmps30
    go_wp2
    go_ret
    exact ⟨rfl, by ((repeat (first | with_reducible exact Ext.refl _ | with_reducible exact hw | with_reducible exact hb9 | with_reducible exact hb8 | with_reducible exact hb7 | with_reducible exact hb6 | with_reducible exact hb5 | with_reducible exact hb4 | with_reducible exact hb3 | with_reducible exact hb2 | with_reducible exact hb1 | with_reducible refine Ext.alloc ?_ _ | with_reducible refine Ext.drew ?_ | ((with_reducible refine Ext.set ?_ ?_ _); focus (dsimp only; omega)) | with_reducible refine Ext.trans ?_ hb9 | with_reducible refine Ext.trans ?_ hb8 | with_reducible refine Ext.trans ?_ hb7 | with_reducible refine Ext.trans ?_ hb6 | with_reducible refine Ext.trans ?_ hb5 | with_reducible refine Ext.trans ?_ hb4 | with_reducible refine Ext.trans ?_ hb3 | with_reducible refine Ext.trans ?_ hb2 | with_reducible refine Ext.trans ?_ hb1 | with_reducible refine Ext.trans ?_ hw)))⟩
set_option maxHeartbeats 400000 in
theorem impl_isCard (x : Crd) (hx : x.nm.size ≤ 9223372036854775807) (w : World) :
    Calls Tryd.prog 60 #[.agg #[.string x.nm, .int .u64 (lo x.m), .int .u64 (hi x.m)]] w fun e w' => e = .returned (.bool (isCardB x)) ∧ Ext w w' := by
  unfold isCardB
  cases h1 : isNameB x.nm
  · go_enter Tryd.func60, Tryd.ntmps60
    go_wp2_with fail
    refine Calls.mono (impl_isName _ _ hx) ?_
    rintro e w1 ⟨rfl, hb1⟩
    obtain ⟨hc1, hf1, hz1⟩ := bcell3 hb1
    try simp at hz1
    have hz1_0 : w.heap.size < w1.heap.size := by omega
    go_wp2
    go_ret
    refine ⟨rfl, ?_⟩
    (repeat (first | with_reducible exact Ext.refl _ | with_reducible exact hw | with_reducible exact hb9 | with_reducible exact hb8 | with_reducible exact hb7 | with_reducible exact hb6 | with_reducible exact hb5 | with_reducible exact hb4 | with_reducible exact hb3 | with_reducible exact hb2 | with_reducible exact hb1 | with_reducible refine Ext.alloc ?_ _ | with_reducible refine Ext.drew ?_ | ((with_reducible refine Ext.set ?_ ?_ _); focus (dsimp only; omega)) | with_reducible refine Ext.trans ?_ hb9 | with_reducible refine Ext.trans ?_ hb8 | with_reducible refine Ext.trans ?_ hb7 | with_reducible refine Ext.trans ?_ hb6 | with_reducible refine Ext.trans ?_ hb5 | with_reducible refine Ext.trans ?_ hb4 | with_reducible refine Ext.trans ?_ hb3 | with_reducible refine Ext.trans ?_ hb2 | with_reducible refine Ext.trans ?_ hb1 | with_reducible refine Ext.trans ?_ hw))
  · cases h2 : isMaskB x.m
    all_goals
      go_enter Tryd.func60, Tryd.ntmps60
      go_wp2_with fail
      refine Calls.mono (impl_isName _ _ hx) ?_
      rintro e w1 ⟨rfl, hb1⟩
      obtain ⟨hc1, hf1, hz1⟩ := bcell3 hb1
      try simp at hz1
      have hz1_0 : w.heap.size < w1.heap.size := by omega
      go_wp2_with fail
      refine Calls.mono (impl_isMask _ _) ?_
      rintro e w2 ⟨rfl, hb2⟩
      obtain ⟨hc2, hf2, hz2⟩ := bcell3 hb2
      try simp at hz2
      have hz2_0 : w.heap.size < w2.heap.size := by omega
      go_wp2
      go_ret
      refine ⟨rfl, ?_⟩
      (repeat (first | with_reducible exact Ext.refl _ | with_reducible exact hw | with_reducible exact hb9 | with_reducible exact hb8 | with_reducible exact hb7 | with_reducible exact hb6 | with_reducible exact hb5 | with_reducible exact hb4 | with_reducible exact hb3 | with_reducible exact hb2 | with_reducible exact hb1 | with_reducible refine Ext.alloc ?_ _ | with_reducible refine Ext.drew ?_ | ((with_reducible refine Ext.set ?_ ?_ _); focus (dsimp only; omega)) | with_reducible refine Ext.trans ?_ hb9 | with_reducible refine Ext.trans ?_ hb8 | with_reducible refine Ext.trans ?_ hb7 | with_reducible refine Ext.trans ?_ hb6 | with_reducible refine Ext.trans ?_ hb5 | with_reducible refine Ext.trans ?_ hb4 | with_reducible refine Ext.trans ?_ hb3 | with_reducible refine Ext.trans ?_ hb2 | with_reducible refine Ext.trans ?_ hb1 | with_reducible refine Ext.trans ?_ hw))
set_option maxHeartbeats 400000 in
theorem spec_l01Ok (x : Crd) (hx : x.nm.size ≤ 9223372036854775807) (b o : Nat) (w : World) (hb : b < w.heap.size) (g0 : w.cell? ⟨b, o, none⟩ = some (.string x.nm)) (g1 : w.cell? ⟨b, o + 1, none⟩ = some (.int .u64 (lo x.m)))
    (g2 : w.cell? ⟨b, o + 1 + 1, none⟩ = some (.int .u64 (hi x.m))) :
    Calls Tryd.prog 54 #[.pointer (some ⟨b, o, none⟩)] w fun e w' => e = .returned (.bool (isCardB x)) ∧ Ext w w' := by
  unfold isCardB
  cases h1 : isNameB x.nm
  · go_enter Tryd.func54, Tryd.ntmps54
    go_wp2_with fail
    refine Calls.mono (spec_l01Name _ _ hx) ?_
    rintro e w1 ⟨rfl, hb1⟩
    obtain ⟨hc1, hf1, hz1⟩ := bcell3 hb1
    try simp at hz1
    go_wp2
    go_ret
    refine ⟨rfl, ?_⟩
    (repeat (first | with_reducible exact Ext.refl _ | with_reducible exact hw | with_reducible exact hb9 | with_reducible exact hb8 | with_reducible exact hb7 | with_reducible exact hb6 | with_reducible exact hb5 | with_reducible exact hb4 | with_reducible exact hb3 | with_reducible exact hb2 | with_reducible exact hb1 | with_reducible refine Ext.alloc ?_ _ | with_reducible refine Ext.drew ?_ | ((with_reducible refine Ext.set ?_ ?_ _); focus (dsimp only; omega)) | with_reducible refine Ext.trans ?_ hb9 | with_reducible refine Ext.trans ?_ hb8 | with_reducible refine Ext.trans ?_ hb7 | with_reducible refine Ext.trans ?_ hb6 | with_reducible refine Ext.trans ?_ hb5 | with_reducible refine Ext.trans ?_ hb4 | with_reducible refine Ext.trans ?_ hb3 | with_reducible refine Ext.trans ?_ hb2 | with_reducible refine Ext.trans ?_ hb1 | with_reducible refine Ext.trans ?_ hw))
  · cases h2 : isMaskB x.m
    all_goals
      go_enter Tryd.func54, Tryd.ntmps54
      go_wp2_with fail
      refine Calls.mono (spec_l01Name _ _ hx) ?_
      rintro e w1 ⟨rfl, hb1⟩
      obtain ⟨hc1, hf1, hz1⟩ := bcell3 hb1
      try simp at hz1
      go_wp2_with fail
      refine Calls.mono (spec_l01Mask _ _) ?_
      rintro e w2 ⟨rfl, hb2⟩
      obtain ⟨hc2, hf2, hz2⟩ := bcell3 hb2
      try simp at hz2
      go_wp2
      go_ret
      refine ⟨rfl, ?_⟩
      (repeat (first | with_reducible exact Ext.refl _ | with_reducible exact hw | with_reducible exact hb9 | with_reducible exact hb8 | with_reducible exact hb7 | with_reducible exact hb6 | with_reducible exact hb5 | with_reducible exact hb4 | with_reducible exact hb3 | with_reducible exact hb2 | with_reducible exact hb1 | with_reducible refine Ext.alloc ?_ _ | with_reducible refine Ext.drew ?_ | ((with_reducible refine Ext.set ?_ ?_ _); focus (dsimp only; omega)) | with_reducible refine Ext.trans ?_ hb9 | with_reducible refine Ext.trans ?_ hb8 | with_reducible refine Ext.trans ?_ hb7 | with_reducible refine Ext.trans ?_ hb6 | with_reducible refine Ext.trans ?_ hb5 | with_reducible refine Ext.trans ?_ hb4 | with_reducible refine Ext.trans ?_ hb3 | with_reducible refine Ext.trans ?_ hb2 | with_reducible refine Ext.trans ?_ hb1 | with_reducible refine Ext.trans ?_ hw))
end Go.Proofs.YtdlpifgkponnmaaDoor
set_option linter.unusedVariables false
namespace Go.Proofs.YtdlpifgkponnmaaDoor
open Go.RowKit
/-- Are all cards valid, and no two of the same name? -/
def okD (ds : List Crd) : Bool := ds.all isCardB && decide ((ds.map Crd.nm).Nodup)
def deckB (ds : List Crd) : Bool := decide (ds.length ≤ 80) && okD ds
theorem okD_nil : okD [] = true := by simp [okD]
theorem okD_snoc (ds : List Crd) (c : Crd) : okD (ds ++ [c]) = (okD ds && (isCardB c && !ds.any (fun x => decide (x.nm = c.nm)))) := by
  rw [Bool.eq_iff_iff]
  simp only [okD, List.all_append, List.all_cons, List.all_nil, Bool.and_true, Bool.and_eq_true, decide_eq_true_eq, List.map_append, List.map_cons, List.map_nil, Bool.not_eq_true', List.any_eq_false]
  rw [List.nodup_append]
  constructor
  · rintro ⟨⟨h1, h2⟩, h3, _, h5⟩
    exact ⟨⟨h1, h3⟩, h2, fun x hx h => h5 _ (List.mem_map_of_mem hx) c.nm (by simp) h⟩
  · rintro ⟨⟨h1, h3⟩, h2, h4⟩
    refine ⟨⟨h1, h2⟩, h3, by simp, fun a ha b hb hab => ?_⟩
    obtain ⟨x, hx, rfl⟩ := List.mem_map.1 ha
    rw [List.mem_singleton] at hb
    exact h4 x hx (hab.trans hb)
theorem okD_perm {xs ys : List Crd} (h : xs.Perm ys) : okD xs = okD ys := by
  unfold okD
  rw [h.all_eq, Bool.eq_iff_iff]
  simp only [Bool.and_eq_true, decide_eq_true_eq]
  rw [(h.map Crd.nm).nodup_iff]
theorem deckB_perm {xs ys : List Crd} (h : xs.Perm ys) : deckB xs = deckB ys := by unfold deckB; rw [okD_perm h, h.length_eq]
/-- Two decks put together by a key. -/
def mergeF (key : Crd → Int) (a b : List Crd) : List Crd := List.merge a b fun x y => decide (key x ≤ key y)
theorem mergeF_perm (key : Crd → Int) (a b : List Crd) : (mergeF key a b).Perm (a ++ b) := List.merge_perm_append _
theorem mergeF_ok (key : Crd → Int) (a b : List Crd) : deckB (mergeF key a b) = deckB (a ++ b) := deckB_perm (mergeF_perm key a b)
theorem mergeF_right (key : Crd → Int) (x y : Crd) (a b : List Crd) (h : key y < key x) : mergeF key (x :: a) (y :: b) = y :: mergeF key (x :: a) b := by
  unfold mergeF; rw [List.cons_merge_cons_neg]; simpa using h
theorem mergeF_left (key : Crd → Int) (x y : Crd) (a b : List Crd) (h : ¬ key y < key x) : mergeF key (x :: a) (y :: b) = x :: mergeF key a (y :: b) := by
  unfold mergeF; rw [List.cons_merge_cons_pos]; simpa using h
theorem mergeF_nil (key : Crd → Int) (a : List Crd) : mergeF key a [] = a := by unfold mergeF; exact List.merge_right _
theorem nil_mergeF (key : Crd → Int) (b : List Crd) : mergeF key [] b = b := by unfold mergeF; exact List.nil_merge _
end Go.Proofs.YtdlpifgkponnmaaDoor
set_option linter.unusedVariables false
set_option linter.unusedSimpArgs false
set_option maxRecDepth 100000
namespace Go.Proofs.YtdlpifgkponnmaaDoor
open Go.RowKit
def fldEqB (x y : Fld) : Bool := (x.nm.toList == y.nm.toList) && ((x.kd == y.kd) && ((x.st == y.st) && (x.sz == y.sz)))
theorem fldEqB_refl (x : Fld) : fldEqB x x = true := by simp [fldEqB]
end Go.Proofs.YtdlpifgkponnmaaDoor
set_option linter.unusedVariables false
namespace Go.Proofs.YtdlpifgkponnmaaDoor
open Go.RowKit
section
variable {α β : Type} {e : Enc α} {f : Enc β} {T U : TypeId} {w w' w1 : World} {base base' : Nat} {v v' : Value} {xs : List α} {ys : List β}
/-- Two slices of the call's own, the one made behind the other. -/
def Apart (v v' : Value) : Prop := v.ownBlock = none ∨ v.ownBlock ≠ v'.ownBlock
theorem Apart.of (h : Ow e T w base v xs) (h' : Ow f U w' base' v' ys) (hb : w.heap.size ≤ base') : Apart v v' := by
  cases hv : v.ownBlock with
  | none => exact .inl hv
  | some k =>
    refine .inr ?_
    rw [hv]
    intro he
    have h1 := (h.lt k hv).2
    have h2 := (h'.lt k he.symm).1
    omega
theorem Apart.of' (h : Ow e T w base v xs) (h' : Ow f U w' base' v' ys) (hb : w.heap.size ≤ base') : Apart v' v := by
  cases hv : v'.ownBlock with
  | none => exact .inl hv
  | some k =>
    refine .inr ?_
    rw [hv]
    intro he
    have h1 := (h.lt k he.symm).2
    have h2 := (h'.lt k hv).1
    omega
theorem Ow.apart (h : Ow e T w base v xs) (hg : w.grownBy w' v'.ownBlock) (ha : Apart v v') : Ow e T w' base v xs := h.grown hg ha
theorem Ext.mark {w0 : World} (h : Ext w0 w) (hO : Ow e T w1 base v xs) (hb : w0.heap.size ≤ base) (hg : w.grownBy w' v.ownBlock) : Ext w0 w' :=
  h.trans' hg (fun k hk => Nat.le_trans hb (hO.lt k hk).1)
theorem Ow.rdA {A : Option Addr} {n cap : Nat} (h : Ow e T w base (.slice A n cap) xs) : Rd e w A xs := by
  obtain ⟨A', c, h1, _, h2⟩ := h.slice
  simp only [Value.slice.injEq] at h1
  obtain ⟨rfl, _⟩ := h1
  exact h2
end
end Go.Proofs.YtdlpifgkponnmaaDoor
set_option linter.unusedVariables false
set_option linter.unusedSimpArgs false
set_option maxRecDepth 100000
namespace Go.Proofs.YtdlpifgkponnmaaDoor
open Go.RowKit
/-- A field's value in a mask, -1 if there is none. -/
def valF (m : Mask) (f : Fld) : Int := if (valueF f m).2 = 6 then -1 else (valueF f m).1
/-- Can a field be read? -/
def readsB (m : Mask) (f : Fld) : Bool := !decide ((valueF f m).2 = 8)
/-- What ValuesOf returns. -/
def valuesF (xs : List Fld) (c : Crd) : List Int × Int :=
  if (schB xs && isCardB c) = true then (if xs.all (readsB c.m) = true then (xs.map (valF c.m), 0) else ([], 8)) else ([], 1)
theorem values_bad {xs : List Fld} {c : Crd} (h : (schB xs && isCardB c) = false) : valuesF xs c = ([], 1) := by unfold valuesF; rw [h]; rfl
theorem values_err {xs : List Fld} {c : Crd} (h : (schB xs && isCardB c) = true) (k : Nat) (hk : k < xs.length) (h8 : (valueF xs[k] c.m).2 = 8) : valuesF xs c = ([], 8) := by
  unfold valuesF
  rw [if_pos h, all_miss (readsB c.m) xs k hk (by unfold readsB; rw [decide_eq_true h8]; rfl)]
  rfl
theorem values_good {xs : List Fld} {c : Crd} (h : (schB xs && isCardB c) = true) (ha : xs.all (readsB c.m) = true) : valuesF xs c = (xs.map (valF c.m), 0) := by unfold valuesF; rw [if_pos h, if_pos ha]
theorem values_len (xs : List Fld) (c : Crd) (h : xs.length ≤ 1048576) : (valuesF xs c).1.length ≤ 1048576 := by
  unfold valuesF
  split
  · split
    · simpa using h
    · simp
  · simp
theorem map_take_succ {α β : Type} (f : α → β) (xs : List α) (k : Nat) (hk : k < xs.length) : (xs.take (k + 1)).map f = (xs.take k).map f ++ [f xs[k]] := by rw [List.take_succ_eq_append_getElem hk, List.map_append]; rfl
attribute [irreducible] valuesF
end Go.Proofs.YtdlpifgkponnmaaDoor
set_option linter.unusedVariables false
set_option linter.unusedSimpArgs false
set_option maxRecDepth 100000
namespace Go.Proofs.YtdlpifgkponnmaaDoor
open Go.RowKit
/-- The elements of a slice of doubts. -/
def encDbt : Enc (Int × Int) where
  enc d := [.int .i64 d.1, .int .i64 d.2]
  sz := 2
  len _ := rfl
  one d u hu := by
    simp only [List.mem_cons, List.not_mem_nil, or_false] at hu
    rcases hu with rfl | rfl <;> rfl
  pos := by decide
theorem Rd.dbt {w : World} {b off : Nat} {xs : List (Int × Int)} (h : Rd encDbt w (some ⟨b, off, none⟩) xs) (k : Nat) (hk : k < xs.length) :
    w.cell? ⟨b, off + k * 2, none⟩ = some (.int .i64 xs[k].1) ∧ w.cell? ⟨b, off + k * 2 + 1, none⟩ = some (.int .i64 xs[k].2) ∧ b < w.heap.size := by
  obtain ⟨b', off', e1, hlt, hc⟩ := h k hk
  simp only [Option.some.injEq, Addr.mk.injEq, and_true] at e1
  obtain ⟨rfl, rfl⟩ := e1
  exact ⟨hc 0 _ rfl, hc 1 _ rfl, hlt⟩
def dbtB (x y : Int × Int) : Bool := (x.1 == y.1) && (x.2 == y.2)
theorem dbtB_refl (x : Int × Int) : dbtB x x = true := by simp [dbtB]
/-- The doubts of the first fields of one card. -/
def rowTo (xs : List Fld) (m : Mask) (i : Nat) : Nat → List (Int × Int)
  | 0 => []
  | k + 1 => if (valueF xs[k]! m).2 = 8 then rowTo xs m i k ++ [((i : Int), (k : Int))] else rowTo xs m i k
theorem rowTo_zero (xs : List Fld) (m : Mask) (i : Nat) : rowTo xs m i 0 = [] := rfl
theorem rowTo_hit {xs : List Fld} {m : Mask} {i k : Nat} (hk : k < xs.length) (h : (valueF xs[k] m).2 = 8) : rowTo xs m i (k + 1) = rowTo xs m i k ++ [((i : Int), (k : Int))] := by rw [rowTo, getF xs k hk, if_pos h]
theorem rowTo_miss {xs : List Fld} {m : Mask} {i k : Nat} (hk : k < xs.length) (h : ¬ (valueF xs[k] m).2 = 8) : rowTo xs m i (k + 1) = rowTo xs m i k := by rw [rowTo, getF xs k hk, if_neg h]
theorem rowTo_len (xs : List Fld) (m : Mask) (i : Nat) : ∀ k, (rowTo xs m i k).length ≤ k
  | 0 => Nat.le_refl _
  | k + 1 => by
    have := rowTo_len xs m i k
    rw [rowTo]
    split
    · rw [List.length_append, List.length_singleton]; omega
    · omega
theorem getC (cs : List Crd) (k : Nat) (hk : k < cs.length) : cs[k]! = cs[k] := getElem!_pos cs k hk
/-- The doubts of the first cards. -/
def doubTo (xs : List Fld) (cs : List Crd) : Nat → List (Int × Int)
  | 0 => []
  | i + 1 => doubTo xs cs i ++ rowTo xs cs[i]!.m i xs.length
theorem doubTo_zero (xs : List Fld) (cs : List Crd) : doubTo xs cs 0 = [] := rfl
theorem doubTo_succ (xs : List Fld) (cs : List Crd) (i : Nat) (hi : i < cs.length) : doubTo xs cs (i + 1) = doubTo xs cs i ++ rowTo xs cs[i].m i xs.length := by rw [doubTo, getC cs i hi]
theorem doubTo_len (xs : List Fld) (cs : List Crd) : ∀ i, (doubTo xs cs i).length ≤ i * xs.length
  | 0 => by simp [doubTo]
  | i + 1 => by
    have h1 := doubTo_len xs cs i
    have h2 := rowTo_len xs cs[i]!.m i xs.length
    rw [doubTo, List.length_append, Nat.succ_mul]
    omega
/-- What DoubtsOf returns. -/
def doubtsF (xs : List Fld) (cs : List Crd) : List (Int × Int) × Int :=
  if (schB xs && cs.all isCardB) = true then (if 60 < cs.length then ([], 2) else (doubTo xs cs cs.length, 0)) else ([], 1)
theorem doubts_bad {xs : List Fld} {cs : List Crd} (h : (schB xs && cs.all isCardB) = false) : doubtsF xs cs = ([], 1) := by unfold doubtsF; rw [h]; rfl
theorem doubts_long {xs : List Fld} {cs : List Crd} (h : (schB xs && cs.all isCardB) = true) (h2 : 60 < cs.length) : doubtsF xs cs = ([], 2) := by unfold doubtsF; rw [if_pos h, if_pos h2]
theorem doubts_good {xs : List Fld} {cs : List Crd} (h : (schB xs && cs.all isCardB) = true) (h2 : ¬ 60 < cs.length) : doubtsF xs cs = (doubTo xs cs cs.length, 0) := by unfold doubtsF; rw [if_pos h, if_neg h2]
theorem doubts_len (xs : List Fld) (cs : List Crd) : (doubtsF xs cs).1.length ≤ 1048576 := by
  unfold doubtsF
  split
  · rename_i h
    rw [Bool.and_eq_true] at h
    split
    · simp
    · rename_i h2
      have h12 := (sch_all h.1).1
      have h3 := doubTo_len xs cs cs.length
      have h4 : cs.length * xs.length ≤ 60 * 12 := Nat.mul_le_mul (by omega) h12
      show (doubTo xs cs cs.length).length ≤ 1048576
      omega
  · simp
attribute [irreducible] doubtsF rowTo doubTo
theorem laws_toCardS_info : (Tryd.prog.info? 60).map (fun i => (i.zero, i.size, i.bytes)) = some (some (.agg #[.string ⟨#[]⟩, .int .u64 0, .int .u64 0]), (encCrd).sz, 32) := by kernel_rfl
theorem laws_toCardS_size : (Tryd.prog.info? 60).map (·.size) = some (encCrd).sz := by kernel_rfl
set_option maxHeartbeats 400000 in
theorem laws_toCardS (xs : List Crd) (A : Option Addr) (cap : Nat) (w : World) (hR : Rd encCrd w A xs) (hn : xs.length ≤ 1048576) :
    Calls Tryd.prog 10 #[.slice A xs.length cap] w fun e w' => ∃ v, e = .returned v ∧ Ow encCrd 60 w' w.heap.size v xs ∧ Ext w w' := by
  go_enter Tryd.func10, Tryd.ntmps10
  go_wp2_with (at_make; refine wpList_made encCrd (by rfl) _ _ 29 (by rfl) (Crd.z) (.agg #[.string ⟨#[]⟩, .int .u64 0, .int .u64 0]) 32 Tryd.underlying29 laws_toCardS_info (by rfl) .i64 .i64 xs.length (by rfl) (by rfl) (by omega) (by omega) (Nat.le_refl _) (Nat.le_refl _) (Ext.refl w) ?_)
  intro w1 hO hb1 hg1
  go_wp2
  go_loopg [4] xs.length (fun g i wr => ∃ k : Nat, g = xs.length - k ∧ k ≤ xs.length ∧ i = .int .i64 k ∧ Ext w wr ∧ Ow encCrd 60 wr w.heap.size (.slice (some ⟨w.heap.size, 0, none⟩) xs.length xs.length) (fill xs (Crd.z) k))
  case atStart => exact ⟨0, by omega, by omega, rfl, hb1, by rw [fill_zero]; exact hO⟩
  case round =>
    obtain ⟨k, hg, hk, rfl, hw, hO⟩ := hrel
    by_cases hkl : k < xs.length
    · obtain ⟨b, off, hA, hlt, _⟩ := hR k hkl
      subst hA
      obtain ⟨m0, m1, m2, m3⟩ := (hR.ext hw).crd k hkl
      go_wp2_with fail
      refine Calls.mono (laws_toCard xs[k] _) ?_
      rintro e w2 ⟨rfl, hb2⟩
      go_wp2_with (refine wpList_put encCrd (by rfl) _ _ _ (by rfl) laws_toCardS_size (hO.ext hb2) k hkl (by rfl) xs[k] (by rfl) (Nat.le_refl _) (hw.trans hb2) ?_)
      intro w3 hO3 hb3 hg3
      go_wp2
      go_roundg (xs.length - (k + 1))
      case rel => exact ⟨k + 1, rfl, hkl, rfl, hb3, by rw [← fill_set xs (Crd.z) k hkl]; exact hO3⟩
      case measure => omega
    · obtain rfl : k = xs.length := by omega
      go_wp2
      go_ret
      rw [fill_full] at hO
      exact ⟨_, rfl, hO, hw⟩

set_option maxHeartbeats 400000 in
theorem laws_eqCardS (xs ys : List Crd) (A B : Option Addr) (cap cap' : Nat) (w : World) (hR : Rd encCrd w A xs) (hS : Rd encCrd w B ys) (hn : xs.length ≤ 1048576) (hm : ys.length ≤ 1048576) :
    Calls Tryd.prog 13 #[.slice A xs.length cap, .slice B ys.length cap'] w fun e w' => e = .returned (.bool (eqL crdB xs ys)) ∧ Ext w w' := by
  have hx := @ExtOf.cell
  by_cases hl : xs.length = ys.length
  · go_enter Tryd.func13, Tryd.ntmps13
    go_wp2
    go_loopg [5] xs.length (fun g i wr => ∃ k : Nat, g = xs.length - k ∧ k ≤ xs.length ∧ i = .int .i64 k ∧ Ext w wr ∧ eqL crdB xs ys = eqL crdB (xs.drop k) (ys.drop k))
    case atStart => exact ⟨0, by omega, by omega, rfl, Ext.refl _, rfl⟩
    case round =>
      obtain ⟨k, hg, hk, rfl, hw, hQ⟩ := hrel
      by_cases hkl : k < xs.length
      · have hky : k < ys.length := by omega
        rw [eqL_drop crdB xs ys k hkl hky] at hQ
        obtain ⟨b, off, hA, hlt, _⟩ := hR k hkl
        subst hA
        obtain ⟨b', off', hB, hlt', _⟩ := hS k hky
        subst hB
        obtain ⟨m0, m1, m2, m3⟩ := (hR.ext hw).crd k hkl
        obtain ⟨n0, n1, n2, n3⟩ := (hS.ext hw).crd k hky
        cases hq : crdB xs[k] ys[k] with
        | true =>
          rw [hq, Bool.true_and] at hQ
          go_wp2
          refine wp_region_ext (by kernel_rfl) (by kernel_rfl) ?_
          repeat (first | go_big_quiet_step ((go_at_call 40; with_reducible exact Calls.ext_of (laws_eqCard xs[k] ys[k] _))) | quiet_step ((go_at_call 40; with_reducible exact Calls.ext_of (laws_eqCard xs[k] ys[k] _))))
          refine wpQuiet_nil ?_
          intro w1 hq1
          have hb1 := ext_of_class hq1
          clear hq1
          obtain ⟨hc1, hf1, hz1⟩ := bcell3 hb1
          try simp at hz1
          go_wp2
          go_roundg (xs.length - (k + 1))
          case rel => exact ⟨k + 1, rfl, hkl, rfl, by ((repeat (first | with_reducible exact Ext.refl _ | with_reducible exact hw | with_reducible exact hb9 | with_reducible exact hb8 | with_reducible exact hb7 | with_reducible exact hb6 | with_reducible exact hb5 | with_reducible exact hb4 | with_reducible exact hb3 | with_reducible exact hb2 | with_reducible exact hb1 | with_reducible refine Ext.alloc ?_ _ | with_reducible refine Ext.drew ?_ | ((with_reducible refine Ext.set ?_ ?_ _); focus (dsimp only; omega)) | with_reducible refine Ext.trans ?_ hb9 | with_reducible refine Ext.trans ?_ hb8 | with_reducible refine Ext.trans ?_ hb7 | with_reducible refine Ext.trans ?_ hb6 | with_reducible refine Ext.trans ?_ hb5 | with_reducible refine Ext.trans ?_ hb4 | with_reducible refine Ext.trans ?_ hb3 | with_reducible refine Ext.trans ?_ hb2 | with_reducible refine Ext.trans ?_ hb1 | with_reducible refine Ext.trans ?_ hw))), hQ⟩
          case measure => omega
        | false =>
          rw [hq, Bool.false_and] at hQ
          go_wp2
          refine wp_region_ext (by kernel_rfl) (by kernel_rfl) ?_
          repeat (first | go_big_quiet_step ((go_at_call 40; with_reducible exact Calls.ext_of (laws_eqCard xs[k] ys[k] _))) | quiet_step ((go_at_call 40; with_reducible exact Calls.ext_of (laws_eqCard xs[k] ys[k] _))))
          refine wpQuiet_nil ?_
          intro w1 hq1
          have hb1 := ext_of_class hq1
          clear hq1
          obtain ⟨hc1, hf1, hz1⟩ := bcell3 hb1
          try simp at hz1
          go_wp2
          go_ret
          exact ⟨by rw [hQ]; rfl, by ((repeat (first | with_reducible exact Ext.refl _ | with_reducible exact hw | with_reducible exact hb9 | with_reducible exact hb8 | with_reducible exact hb7 | with_reducible exact hb6 | with_reducible exact hb5 | with_reducible exact hb4 | with_reducible exact hb3 | with_reducible exact hb2 | with_reducible exact hb1 | with_reducible refine Ext.alloc ?_ _ | with_reducible refine Ext.drew ?_ | ((with_reducible refine Ext.set ?_ ?_ _); focus (dsimp only; omega)) | with_reducible refine Ext.trans ?_ hb9 | with_reducible refine Ext.trans ?_ hb8 | with_reducible refine Ext.trans ?_ hb7 | with_reducible refine Ext.trans ?_ hb6 | with_reducible refine Ext.trans ?_ hb5 | with_reducible refine Ext.trans ?_ hb4 | with_reducible refine Ext.trans ?_ hb3 | with_reducible refine Ext.trans ?_ hb2 | with_reducible refine Ext.trans ?_ hb1 | with_reducible refine Ext.trans ?_ hw)))⟩
      · rw [eqL_end crdB xs ys k (by omega) (by omega)] at hQ
        go_wp2
        go_ret
        exact ⟨by rw [hQ]; rfl, hw⟩
  · rw [eqL_len crdB xs ys hl]
    go_enter Tryd.func13, Tryd.ntmps13
    go_wp2
    go_ret
    exact ⟨rfl, Ext.refl _⟩

set_option maxHeartbeats 400000 in
theorem laws_szCardS (xs : List Crd) (A : Option Addr) (cap : Nat) (left : Int) (h0 : 0 ≤ left) (h1 : left ≤ 1048576) (hn : xs.length ≤ 9223372036854775807) (w : World) (hR : Rd encCrd w A xs) (hok : ∀ x ∈ xs, x.nm.size ≤ 9223372036854775807) :
    Calls Tryd.prog 7 #[.slice A xs.length cap, .int .i64 left] w fun e w' => ∃ r : Int, e = .returned (.int .i64 r) ∧ (r < 0 ∨ (0 ≤ r ∧ r ≤ left ∧ (xs.length : Int) ≤ left)) ∧ Ext w w' := by
  by_cases hl : (xs.length : Int) ≤ left
  · go_enter Tryd.func7, Tryd.ntmps7
    go_wp2
    go_loopg [5, 1] xs.length (fun g i l wr => ∃ k : Nat, ∃ c : Int, g = xs.length - k ∧ k ≤ xs.length ∧ i = .int .i64 k ∧ l = .int .i64 c ∧ 0 ≤ c ∧ c ≤ left ∧ Ext w wr)
    case atStart => exact ⟨0, left - xs.length, by omega, by omega, rfl, rfl, by omega, by omega, Ext.refl _⟩
    case round =>
      obtain ⟨k, c, hg, hk, rfl, rfl, hc0, hc1, hw⟩ := hrel
      by_cases hkl : k < xs.length
      · obtain ⟨b, off, hA, hlt, _⟩ := hR k hkl
        subst hA
        obtain ⟨m0, m1, m2, m3⟩ := (hR.ext hw).crd k hkl
        have hok1 := hok xs[k] (List.getElem_mem hkl)
        go_wp2_with fail
        refine Calls.mono (laws_szCard xs[k] c hc0 (by omega) hok1 _) ?_
        rintro e w1 ⟨rfl, hb1⟩
        by_cases hr : szF (xs[k].nm.size) c < 0
        · generalize szF (xs[k].nm.size) c = r at hr
          go_wp2
          go_ret
          exact ⟨_, rfl, .inl (by omega), by ((repeat (first | with_reducible exact Ext.refl _ | with_reducible exact hw | with_reducible exact hb9 | with_reducible exact hb8 | with_reducible exact hb7 | with_reducible exact hb6 | with_reducible exact hb5 | with_reducible exact hb4 | with_reducible exact hb3 | with_reducible exact hb2 | with_reducible exact hb1 | with_reducible refine Ext.alloc ?_ _ | with_reducible refine Ext.drew ?_ | ((with_reducible refine Ext.set ?_ ?_ _); focus (dsimp only; omega)) | with_reducible refine Ext.trans ?_ hb9 | with_reducible refine Ext.trans ?_ hb8 | with_reducible refine Ext.trans ?_ hb7 | with_reducible refine Ext.trans ?_ hb6 | with_reducible refine Ext.trans ?_ hb5 | with_reducible refine Ext.trans ?_ hb4 | with_reducible refine Ext.trans ?_ hb3 | with_reducible refine Ext.trans ?_ hb2 | with_reducible refine Ext.trans ?_ hb1 | with_reducible refine Ext.trans ?_ hw)))⟩
        · have hr2 : szF (xs[k].nm.size) c ≤ c := by unfold szF; split <;> omega
          generalize szF (xs[k].nm.size) c = r at hr hr2
          go_wp2
          go_roundg (xs.length - (k + 1))
          case rel => exact ⟨k + 1, r, rfl, hkl, rfl, rfl, by omega, by omega, by ((repeat (first | with_reducible exact Ext.refl _ | with_reducible exact hw | with_reducible exact hb9 | with_reducible exact hb8 | with_reducible exact hb7 | with_reducible exact hb6 | with_reducible exact hb5 | with_reducible exact hb4 | with_reducible exact hb3 | with_reducible exact hb2 | with_reducible exact hb1 | with_reducible refine Ext.alloc ?_ _ | with_reducible refine Ext.drew ?_ | ((with_reducible refine Ext.set ?_ ?_ _); focus (dsimp only; omega)) | with_reducible refine Ext.trans ?_ hb9 | with_reducible refine Ext.trans ?_ hb8 | with_reducible refine Ext.trans ?_ hb7 | with_reducible refine Ext.trans ?_ hb6 | with_reducible refine Ext.trans ?_ hb5 | with_reducible refine Ext.trans ?_ hb4 | with_reducible refine Ext.trans ?_ hb3 | with_reducible refine Ext.trans ?_ hb2 | with_reducible refine Ext.trans ?_ hb1 | with_reducible refine Ext.trans ?_ hw)))⟩
          case measure => omega
      · go_wp2
        go_ret
        exact ⟨c, rfl, .inr ⟨hc0, hc1, hl⟩, hw⟩
  · go_enter Tryd.func7, Tryd.ntmps7
    go_wp2
    go_ret
    exact ⟨-1, rfl, .inl (by omega), Ext.refl _⟩

def markD (k : Nat) : Int × Int := ((k : Int), (k : Int) + 1)
/-- The marked doubts from k on, n of them. -/
def upDb (k : Nat) : Nat → List (Int × Int)
  | 0 => []
  | n + 1 => markD k :: upDb (k + 2) n
theorem upDb_len : ∀ (n k : Nat), (upDb k n).length = n
  | 0, _ => rfl
  | n + 1, k => by rw [upDb, List.length_cons, upDb_len n]
theorem upDb_get : ∀ (n k i : Nat) (h : i < (upDb k n).length), (upDb k n)[i] = markD (k + 2 * i)
  | 0, _, _, h => by simp [upDb] at h
  | n + 1, k, 0, _ => rfl
  | n + 1, k, i + 1, h => by
    show (upDb (k + 2) n)[i]'_ = _
    rw [upDb_get n (k + 2) i, show k + 2 + 2 * i = k + 2 * (i + 1) by omega]
theorem upDb_snoc : ∀ (n k : Nat), upDb k (n + 1) = upDb k n ++ [markD (k + 2 * n)]
  | 0, _ => rfl
  | n + 1, k => by
    rw [upDb, upDb_snoc n (k + 2), show k + 2 + 2 * n = k + 2 * (n + 1) by omega]
    rfl
def markDTo (xs : List (Int × Int)) (k i : Nat) : List (Int × Int) := (upDb k i) ++ xs.drop i
theorem markDTo_len (xs : List (Int × Int)) (k i : Nat) (h : i ≤ xs.length) : (markDTo xs k i).length = xs.length := by
  unfold markDTo
  rw [List.length_append, upDb_len, List.length_drop]
  omega
theorem markDTo_set (xs : List (Int × Int)) (k i : Nat) (h : i < xs.length) : (markDTo xs k i).set i (markD (k + 2 * i)) = markDTo xs k (i + 1) := by
  unfold markDTo
  rw [List.set_append_right _ _ (by rw [upDb_len]; omega), upDb_len, Nat.sub_self, List.drop_eq_getElem_cons h, List.set_cons_zero, upDb_snoc, List.append_assoc]
  rfl
theorem markDTo_all (xs : List (Int × Int)) (k : Nat) : markDTo xs k xs.length = upDb k xs.length := by
  unfold markDTo
  rw [List.drop_length, List.append_nil]
set_option maxHeartbeats 1000000 in
theorem laws_markCardS (xs : List Crd) (v : Value) (k base : Nat) (w : World) (hO : Ow encCrd 60 w base v xs) (hn : xs.length ≤ 1048576) (hk : k ≤ 10000000) :
    Calls Tryd.prog 14 #[v, .int .i64 k] w fun e w' => e = .returned (.int .i64 ((k : Int) + 3 * xs.length)) ∧ w.grownBy w' v.ownBlock := by
  rcases hO.shape with ⟨rfl, rfl⟩ | ⟨g, cap, rfl, hg, hgl⟩
  · go_enter Tryd.func14, Tryd.ntmps14
    go_wp2
    refine wp_loop_rounds 1 ?_
    rw [rounds_succ]
    go_wp2
    go_ret
    exact ⟨by simp, grownBy_refl _ _⟩
  · go_enter Tryd.func14, Tryd.ntmps14
    go_wp2
    go_loopg [5, 1] xs.length (fun g' i m wr => ∃ (j q : Nat) (ys : List Crd), g' = xs.length - j ∧ j ≤ xs.length ∧ i = .int .i64 j ∧ m = .int .i64 q ∧ q = k + 3 * j ∧ ys.length = xs.length ∧ Ow encCrd 60 wr base (.slice (some ⟨g, 0, none⟩) xs.length cap) ys ∧ w.grownBy wr (some g))
    case atStart => exact ⟨0, k, xs, by omega, by omega, rfl, rfl, rfl, rfl, hO, grownBy_refl _ _⟩
    case round =>
      obtain ⟨j, q, ys, hg', hj, rfl, rfl, hq, hys, hO', hgr⟩ := hrel
      have hq2 := hd hq
      have hqb : q ≤ 100000000 := by omega
      have hys2 := hd hys
      by_cases hjl : j < xs.length
      · have hjy : j < ys.length := by omega
        clear hq hys
        go_wp2_with fail
        refine Calls.mono (laws_markText q (by omega) _) ?_
        rintro e w1 ⟨rfl, hb1⟩
        have hO1 := hO'.ext hb1
        have hgr1 := grownBy_ext hgr hb1
        clear hO' hgr hb1
        obtain ⟨c0, c1, c2, hbl⟩ := hO1.rd.crd j hjy
        simp only [Nat.zero_add] at c0 c1 c2
        have f0 := hO1.frozen (j * 3)
        have f1 := hO1.frozen (j * 3 + 1)
        have f2 := hO1.frozen (j * 3 + 2)
        have wq1 : IntKind.u64.wrap ((q : Int) + 1) = (q : Int) + 1 := IntWalk.u64_in _ (by omega)
        have wq2 : IntKind.u64.wrap ((q : Int) + 1 + 1) = (q : Int) + 1 + 1 := IntWalk.u64_in _ (by omega)
        have z0 := hO1.set1 j 0 (.string (markS q)) ⟨markS q, ys[j].m⟩ hjy (by decide) rfl
        have hm1 : lo (mof ((q : Int) + 1) (hi ys[j].m)) = (q : Int) + 1 := lo_mof (by omega) (by omega) (hi_ge _) (hi_lt _)
        have hm2 : hi (mof ((q : Int) + 1) (hi ys[j].m)) = hi ys[j].m := hi_mof (by omega) (by omega) (hi_ge _) (hi_lt _)
        have hm3 : lo (mof ((q : Int) + 1) ((q : Int) + 1 + 1)) = (q : Int) + 1 := lo_mof (by omega) (by omega) (by omega) (by omega)
        have hm4 : hi (mof ((q : Int) + 1) ((q : Int) + 1 + 1)) = (q : Int) + 1 + 1 := hi_mof (by omega) (by omega) (by omega) (by omega)
        have z1 := z0.set1 j 1 (.int .u64 ((q : Int) + 1)) ⟨markS q, mof ((q : Int) + 1) (hi ys[j].m)⟩ (by rw [List.length_set]; exact hjy) (by decide) (by rw [List.getElem_set_self]; simp only [encCrd]; rw [hm1, hm2]; rfl)
        have z2 := z1.set1 j 2 (.int .u64 ((q : Int) + 1 + 1)) ⟨markS q, mof ((q : Int) + 1) ((q : Int) + 1 + 1)⟩ (by rw [List.length_set, List.length_set]; exact hjy) (by decide) (by rw [List.getElem_set_self]; simp only [encCrd]; rw [hm1, hm2, hm3, hm4]; rfl)
        rw [show j * encCrd.sz + 0 = j * 3 from rfl, show j * encCrd.sz + 1 = j * 3 + 1 from rfl, show j * encCrd.sz + 2 = j * 3 + 2 from rfl] at z2
        have g2 := grownBy_set (grownBy_set (grownBy_set hgr1 (j * 3) (.string (markS q))) (j * 3 + 1) (.int .u64 ((q : Int) + 1))) (j * 3 + 2) (.int .u64 ((q : Int) + 1 + 1))
        clear z0 z1 hO1 hgr1 hm1 hm2 hm3 hm4
        go_wp2
        refine wp_loop_rounds 3 ?_
        rw [rounds_succ]
        go_wp2
        rw [rounds_succ]
        go_wp2
        rw [rounds_succ]
        go_wp2
        go_roundg (xs.length - (j + 1))
        case rel => exact ⟨j + 1, q + 3, _, rfl, hjl, rfl, by rw [show ((q + 3 : Nat) : Int) = (q : Int) + 1 + 1 + 1 by omega], by rw [hq2.out]; omega, by simp only [List.length_set]; exact hys2.out, z2, g2⟩
        case measure => omega
      · obtain rfl : j = xs.length := by omega
        subst hq
        go_wp2
        go_ret
        exact ⟨by simp, hgr⟩
end Go.Proofs.YtdlpifgkponnmaaDoor
set_option linter.unusedVariables false
set_option linter.unusedSimpArgs false
set_option maxRecDepth 100000
namespace Go.Proofs.YtdlpifgkponnmaaDoor
open Go.RowKit
/-- What is known of a card in memory. -/
def CrdIn (c : Crd) : Prop := c.nm.size ≤ 9223372036854775807
end Go.Proofs.YtdlpifgkponnmaaDoor
set_option linter.unusedVariables false
set_option linter.unusedSimpArgs false
namespace Go.Proofs.YtdlpifgkponnmaaDoor
open Go.RowKit
def nextC (s : Int) : Int := (1664525 * s % 4294967296 + 1013904223) % 4294967296
theorem nextC_ge (s : Int) : 0 ≤ nextC s := by unfold nextC; omega
theorem nextC_lt (s : Int) : nextC s < 4294967296 := by unfold nextC; omega
/-- The state behind k holes: the seed, what is torn, what is filled. -/
def chTo (c : Mask) (torn filled seed : Int) : Nat → Int × Mask × Mask
  | 0 => (seed, 0, 0)
  | k + 1 =>
    let st := chTo c torn filled seed k
    let s := nextC st.1
    if mhas c k = true then (if s / 65536 % 1000 < filled then (s, st.2.1, mjoin st.2.2 (mbit k)) else (s, st.2.1, st.2.2))
    else (if s / 65536 % 1000 < torn then (s, mjoin st.2.1 (mbit k), st.2.2) else (s, st.2.1, st.2.2))
theorem chTo_zero (c : Mask) (torn filled seed : Int) : chTo c torn filled seed 0 = (seed, 0, 0) := rfl
theorem chTo_fill (c : Mask) (torn filled seed : Int) (k : Nat) (h : mhas c k = true) (h2 : nextC (chTo c torn filled seed k).1 / 65536 % 1000 < filled) :
    chTo c torn filled seed (k + 1) = (nextC (chTo c torn filled seed k).1, (chTo c torn filled seed k).2.1, mjoin (chTo c torn filled seed k).2.2 (mbit k)) := by rw [chTo]; simp only [h, h2, if_true]
theorem chTo_keep1 (c : Mask) (torn filled seed : Int) (k : Nat) (h : mhas c k = true) (h2 : ¬ nextC (chTo c torn filled seed k).1 / 65536 % 1000 < filled) :
    chTo c torn filled seed (k + 1) = (nextC (chTo c torn filled seed k).1, (chTo c torn filled seed k).2.1, (chTo c torn filled seed k).2.2) := by rw [chTo]; simp only [h, h2, if_true, if_false]
theorem chTo_tear (c : Mask) (torn filled seed : Int) (k : Nat) (h : mhas c k = false) (h2 : nextC (chTo c torn filled seed k).1 / 65536 % 1000 < torn) :
    chTo c torn filled seed (k + 1) = (nextC (chTo c torn filled seed k).1, mjoin (chTo c torn filled seed k).2.1 (mbit k), (chTo c torn filled seed k).2.2) := by rw [chTo]; simp only [h, h2, if_true, Bool.false_eq_true, if_false]
theorem chTo_keep2 (c : Mask) (torn filled seed : Int) (k : Nat) (h : mhas c k = false) (h2 : ¬ nextC (chTo c torn filled seed k).1 / 65536 % 1000 < torn) :
    chTo c torn filled seed (k + 1) = (nextC (chTo c torn filled seed k).1, (chTo c torn filled seed k).2.1, (chTo c torn filled seed k).2.2) := by rw [chTo]; simp only [h, h2, Bool.false_eq_true, if_false]
attribute [irreducible] chTo nextC
end Go.Proofs.YtdlpifgkponnmaaDoor
namespace Go.Proofs.YtdlpifgkponnmaaDoor
/-- A row of numbers by chance: x goes to a x + c, of M. -/
def rowN (f : Nat → Nat) : Nat → Nat → Nat
  | 0, x => x
  | n + 1, x => rowN f n (f x)
theorem rowN_succ (f : Nat → Nat) (n x : Nat) : rowN f (n + 1) x = rowN f n (f x) := rfl
theorem rowN_zero (f : Nat → Nat) (x : Nat) : rowN f 0 x = x := rfl
theorem rowN_add (f : Nat → Nat) (n m x : Nat) : rowN f (n + m) x = rowN f m (rowN f n x) := by
  induction n generalizing x with
  | zero => rw [Nat.zero_add, rowN_zero]
  | succ n ih => rw [show n + 1 + m = (n + m) + 1 by omega, rowN_succ, rowN_succ, ih]
theorem rowN_lt {f : Nat → Nat} {M : Nat} (hf : ∀ x, f x < M) (n x : Nat) (h : x < M) : rowN f n x < M := by
  induction n generalizing x with
  | zero => rw [rowN_zero]; exact h
  | succ n ih => rw [rowN_succ]; exact ih _ (hf x)
def lcg (a c M x : Nat) : Nat := (a * x + c) % M
def lcgAC (a c M : Nat) : Nat → Nat × Nat
  | 0 => (a, c)
  | k + 1 => ((lcgAC a c M k).1 * (lcgAC a c M k).1 % M, ((lcgAC a c M k).1 * (lcgAC a c M k).2 + (lcgAC a c M k).2) % M)
theorem lin_twice (M A C x : Nat) : (A * ((A * x + C) % M) + C) % M = ((A * A % M) * x + (A * C + C) % M) % M := by
  have h1 : (A * ((A * x + C) % M) + C) % M = (A * (A * x + C) + C) % M := by
    rw [Nat.add_mod, Nat.mul_mod, Nat.mod_mod, ← Nat.mul_mod, ← Nat.add_mod]
  have h2 : ((A * A % M) * x + (A * C + C) % M) % M = ((A * A) * x + (A * C + C)) % M := by
    rw [Nat.add_mod, Nat.mod_mod, Nat.mul_mod, Nat.mod_mod, ← Nat.mul_mod, ← Nat.add_mod]
  rw [h1, h2]; congr 1; rw [Nat.mul_add, Nat.mul_assoc]; omega
theorem rowN_pow (a c M k x : Nat) : rowN (lcg a c M) (2 ^ k) x = ((lcgAC a c M k).1 * x + (lcgAC a c M k).2) % M := by
  induction k generalizing x with
  | zero => rw [show 2 ^ 0 = 0 + 1 from rfl, rowN_succ, rowN_zero]; unfold lcg; rw [lcgAC]
  | succ k ih => rw [Nat.pow_succ, Nat.mul_two, rowN_add, ih, ih, lin_twice, lcgAC]
theorem lcg_jump (a c B : Nat) (hO : ∀ k, k < B → (lcgAC a c (2 ^ B) k).1 % 2 ^ (k + 1) = 1 ∧ (lcgAC a c (2 ^ B) k).2 % 2 ^ (k + 1) = 2 ^ k) (k x : Nat) (hk : k < B) :
    rowN (lcg a c (2 ^ B)) (2 ^ k) x % 2 ^ (k + 1) = (x + 2 ^ k) % 2 ^ (k + 1) := by
  obtain ⟨h1, h2⟩ := hO k hk
  have hM : (2 : Nat) ^ B = 2 ^ (k + 1) * 2 ^ (B - (k + 1)) := by rw [← Nat.pow_add]; congr 1; omega
  rw [rowN_pow]
  generalize lcgAC a c (2 ^ B) k = p at *
  have h2' : 2 ^ k % 2 ^ (k + 1) = 2 ^ k := Nat.mod_eq_of_lt (Nat.pow_lt_pow_right (by omega) (by omega))
  rw [hM, Nat.mod_mul_right_mod, Nat.add_mod, Nat.mul_mod, h1, h2, Nat.one_mul, Nat.mod_mod, Nat.add_mod x, h2']
theorem lcg_hits (a c B : Nat) (hO : ∀ k, k < B → (lcgAC a c (2 ^ B) k).1 % 2 ^ (k + 1) = 1 ∧ (lcgAC a c (2 ^ B) k).2 % 2 ^ (k + 1) = 2 ^ k) (j : Nat) (hj : j ≤ B) (x y : Nat) (hx : x < 2 ^ B) (hy : y < 2 ^ B)
    (h : x % 2 ^ (B - j) = y % 2 ^ (B - j)) : ∃ r, rowN (lcg a c (2 ^ B)) r x = y := by
  induction j generalizing x with
  | zero => exact ⟨0, by rw [Nat.sub_zero, Nat.mod_eq_of_lt hx, Nat.mod_eq_of_lt hy] at h; rw [rowN_zero, h]⟩
  | succ j ih =>
    have e : B - j = (B - (j + 1)) + 1 := by omega
    have hk : B - (j + 1) < B := by omega
    generalize B - (j + 1) = k at h hk e
    rw [e] at ih
    by_cases he : x % 2 ^ (k + 1) = y % 2 ^ (k + 1)
    · exact ih (by omega) x hx he
    · have hx' : rowN (lcg a c (2 ^ B)) (2 ^ k) x < 2 ^ B := rowN_lt (fun x => Nat.mod_lt _ (Nat.pow_pos (by omega))) _ _ hx
      obtain ⟨r, hr⟩ := ih (by omega) _ hx' (by
        rw [lcg_jump a c B hO k x hk]
        have hp : 0 < 2 ^ k := Nat.pow_pos (by omega)
        rw [Nat.pow_succ] at he ⊢
        generalize 2 ^ k = P at *
        rw [Nat.mod_mul, Nat.mod_mul] at he
        rw [Nat.mod_mul, Nat.mod_mul, Nat.add_mod_right, h, Nat.add_div_right _ hp]
        rw [h] at he
        have h1 : x / P % 2 ≠ y / P % 2 := fun hh => he (by rw [hh])
        have h2 : (x / P + 1) % 2 = y / P % 2 := by omega
        rw [h2])
      exact ⟨2 ^ k + r, by rw [rowN_add, hr]⟩
theorem lcg_all (x y : Nat) (hx : x < 4294967296) (hy : y < 4294967296) : ∃ r, rowN (lcg 1664525 1013904223 4294967296) r x = y :=
  lcg_hits 1664525 1013904223 32 (by decide +kernel) 32 (Nat.le_refl _) x y hx hy (by rw [Nat.sub_self, Nat.pow_zero, Nat.mod_one, Nat.mod_one])
/-- From each number on some round meets each hole. -/
theorem lcg_hole (a n v : Nat) (ha : a < 4294967296) (hn : n ≤ 65536) (hv : v < n) : ∃ r, rowN (lcg 1664525 1013904223 4294967296) r a / 65536 % n = v := by
  obtain ⟨r, hr⟩ := lcg_all a (v * 65536) ha (by omega)
  exact ⟨r, by rw [hr, Nat.mul_div_cancel _ (by omega), Nat.mod_eq_of_lt hv]⟩
/-- There is a first round at which p holds. -/
theorem least_round {p : Nat → Prop} [DecidablePred p] (h : ∃ r, p r) : ∃ r, p r ∧ ∀ k, k < r → ¬ p k := by
  obtain ⟨r, hr⟩ := h
  induction r using Nat.strongRecOn with
  | ind r ih =>
    by_cases hk : ∃ k, k < r ∧ p k
    · obtain ⟨k, h1, h2⟩ := hk; exact ih k h1 h2
    · exact ⟨r, hr, fun k h1 h2 => hk ⟨k, h1, h2⟩⟩
end Go.Proofs.YtdlpifgkponnmaaDoor
set_option linter.unusedVariables false
namespace Go.Proofs.YtdlpifgkponnmaaDoor
open Go.RowKit
theorem pcf_countP (n x : Nat) : pcf n x = (List.range n).countP (fun i => x.testBit i) := by
  induction n generalizing x with
  | zero => simp [pcf]
  | succ n ih =>
    rw [List.range_succ_eq_map, List.countP_cons, List.countP_map, pcf, ih]
    have h1 : (fun i => (x / 2).testBit i) = ((fun i => x.testBit i) ∘ Nat.succ) := by funext i; simp [Nat.testBit_succ]
    rw [h1, Nat.testBit_zero]
    by_cases h : x % 2 = 1
    · rw [if_pos (by simpa using h), h]; omega
    · rw [if_neg (by simpa using h)]; omega
theorem mcount_countP (m : Mask) : mcount m = (((List.range 128).countP (fun i : Nat => mhas m i) : Nat) : Int) := by
  unfold mcount
  rw [show (18446744073709551616 : Nat) = 2 ^ 64 by decide, ← pcf_add, pcf_countP]
  congr 2
theorem countP_more {p q : Nat → Bool} (h : Nat) (hp : p h = false) (hq : ∀ i, q i = (p i || decide (i = h))) (n : Nat) : (List.range n).countP q = (List.range n).countP p + if h < n then 1 else 0 := by
  induction n with
  | zero => rfl
  | succ n ih =>
    rw [List.range_succ, List.countP_append, List.countP_append, ih, List.countP_singleton, List.countP_singleton, hq n]
    by_cases e : n = h
    · subst e; simp [hp]
    · simp only [e, decide_false, Bool.or_false]
      have e3 : (if h < n + 1 then 1 else 0) = if h < n then 1 else 0 := by
        by_cases e2 : h < n
        · rw [if_pos e2, if_pos (show h < n + 1 by omega)]
        · rw [if_neg e2, if_neg (show ¬ h < n + 1 by omega)]
      rw [e3]; omega
theorem countP_room {p : Nat → Bool} (st : Nat) : ∀ (n sz : Nat), st + sz ≤ n → (∀ i, i < sz → p (st + i) = true) → sz ≤ (List.range n).countP p
  | 0, sz, h, _ => by omega
  | n + 1, sz, h, hp => by
    rw [List.range_succ, List.countP_append, List.countP_singleton]
    by_cases e : st + sz ≤ n
    · have := countP_room st n sz e hp; omega
    · match sz, h, hp, e with
      | 0, _, _, _ => omega
      | s + 1, h, hp, e =>
        have h1 := countP_room st n s (by omega) (fun i hi => hp i (by omega))
        have h2 := hp s (by omega)
        rw [show st + s = n by omega] at h2
        rw [if_pos h2]; omega
theorem mhas_join_bit (m : Mask) (h : Nat) (hh : h < 128) (i : Nat) : mhas (mjoin m (mbit h)) i = (mhas m i || decide (i = h)) := by
  unfold mhas mjoin mbit
  rw [BitVec.getLsbD_or]
  congr 1
  simp only [Int.toNat_natCast]
  rw [BitVec.getLsbD_shiftLeft, BitVec.getLsbD_one]
  by_cases e : i = h
  · subst e; simp [hh]
  · simp only [e, decide_false]
    by_cases e2 : i < h
    · simp [e2]
    · have : ¬ i - h = 0 := by omega
      simp [this]
theorem mcount_new (m : Mask) (h : Nat) (hh : h < 128) (hm : mhas m h = false) : mcount (mjoin m (mbit h)) = mcount m + 1 := by
  rw [mcount_countP, mcount_countP, countP_more (p := fun i : Nat => mhas m i) (q := fun i : Nat => mhas (mjoin m (mbit h)) i) h hm (mhas_join_bit m h hh), if_pos hh]; omega
theorem mjoin_old (m : Mask) (h : Nat) (hh : h < 128) (hm : mhas m h = true) : mjoin m (mbit h) = m := by
  apply BitVec.eq_of_getLsbD_eq
  intro i hi
  have := mhas_join_bit m h hh i
  unfold mhas at this hm
  simp only [Int.toNat_natCast] at this hm
  rw [this]
  by_cases e : i = h
  · subst e; simp [hm]
  · simp [e]
theorem mcount_room (m : Mask) (st sz : Nat) (h : st + sz ≤ 128) (hc : mcount m < sz) : ∃ v, v < sz ∧ mhas m ((st + v : Nat) : Int) = false := by
  apply Classical.byContradiction
  intro hn
  have := countP_room (p := fun i : Nat => mhas m i) st 128 sz h (fun i hi => by
    cases e : mhas m ((st + i : Nat) : Int) with
    | true => rfl
    | false => exact absurd ⟨i, hi, e⟩ hn)
  rw [mcount_countP] at hc
  omega
/-- From a and m on there are k rounds, and r behind them. -/
inductive WH (st sz per : Int) : Nat → Int → Mask → Mask → Prop
  | done (a : Int) (m : Mask) (h : ¬ mcount m < per) : WH st sz per 0 a m m
  | step (k : Nat) (a : Int) (m r : Mask) (h : mcount m < per) (hs : WH st sz per k (nextC a) (mjoin m (mbit (st + nextC a / 65536 % sz))) r) : WH st sz per (k + 1) a m r
theorem nextC_lcg (a : Nat) : nextC (a : Int) = ((lcg 1664525 1013904223 4294967296 a : Nat) : Int) := by
  unfold nextC lcg; omega
theorem WH_from (st sz per : Nat) (h : st + sz ≤ 128) (h2 : per ≤ sz) (m : Mask) (hm : mcount m < per) (ih : ∀ (a : Nat) (m' : Mask), a < 4294967296 → mcount m' = mcount m + 1 → ∃ k r, WH st sz per k a m' r) :
    ∀ (n a : Nat), a < 4294967296 → mhas m ((st + rowN (lcg 1664525 1013904223 4294967296) n (lcg 1664525 1013904223 4294967296 a) / 65536 % sz : Nat) : Int) = false →
      ∃ k r, WH st sz per k a m r := by
  intro n
  induction n with
  | zero =>
    intro a ha hn
    rw [rowN_zero] at hn
    have hz : 0 < sz := by have := mcount_ge m; omega
    have hl : lcg 1664525 1013904223 4294967296 a / 65536 % sz < sz := Nat.mod_lt _ hz
    obtain ⟨k, r, hk⟩ := ih (lcg 1664525 1013904223 4294967296 a) _ (Nat.mod_lt _ (by omega)) (mcount_new m _ (by omega) hn)
    refine ⟨k + 1, r, .step k a m r hm ?_⟩
    rw [nextC_lcg]
    simpa using hk
  | succ n ihn =>
    intro a ha hn
    rw [rowN_succ] at hn
    have hz : 0 < sz := by have := mcount_ge m; omega
    have hl : lcg 1664525 1013904223 4294967296 a / 65536 % sz < sz := Nat.mod_lt _ hz
    have hlt : lcg 1664525 1013904223 4294967296 a < 4294967296 := Nat.mod_lt _ (by omega)
    cases e : mhas m ((st + lcg 1664525 1013904223 4294967296 a / 65536 % sz : Nat) : Int) with
    | false =>
      obtain ⟨k, r, hk⟩ := ih _ _ hlt (mcount_new m _ (by omega) e)
      refine ⟨k + 1, r, .step k a m r hm ?_⟩
      rw [nextC_lcg]
      simpa using hk
    | true =>
      obtain ⟨k, r, hk⟩ := ihn _ hlt hn
      refine ⟨k + 1, r, .step k a m r hm ?_⟩
      rw [nextC_lcg]
      have := mjoin_old m _ (by omega) e
      rw [← this] at hk
      simpa using hk
theorem WH_all (st sz per : Nat) (h : st + sz ≤ 128) (h2 : per ≤ sz) (d : Nat) : ∀ (a : Nat) (m : Mask), a < 4294967296 → (per : Int) ≤ mcount m + d → ∃ k r, WH st sz per k a m r := by
  induction d with
  | zero => intro a m ha hd; exact ⟨0, m, .done a m (by omega)⟩
  | succ d ih =>
    intro a m ha hd
    by_cases hm : mcount m < per
    · obtain ⟨v, hv, hf⟩ := mcount_room m st sz h (by omega)
      obtain ⟨n, hn⟩ := lcg_hole (lcg 1664525 1013904223 4294967296 a) sz v (Nat.mod_lt _ (by omega)) (by omega) hv
      exact WH_from st sz per h h2 m hm (fun a' m' ha' hm' => ih a' m' ha' (by omega)) n a ha (by rw [hn]; exact hf)
    · exact ⟨0, m, .done a m hm⟩
theorem WH_fun {st sz per : Int} {k a m r} (h : WH st sz per k a m r) : ∀ {k' r'}, WH st sz per k' a m r' → k = k' ∧ r = r' := by
  induction h with
  | done a m h => intro k' r' h'; cases h' with
    | done => exact ⟨rfl, rfl⟩
    | step _ _ _ _ h2 => exact absurd h2 h
  | step k a m r h hs ih => intro k' r' h'; cases h' with
    | done _ _ h2 => exact absurd h h2
    | step _ _ _ _ _ hs' => obtain ⟨rfl, rfl⟩ := ih hs'; exact ⟨rfl, rfl⟩
end Go.Proofs.YtdlpifgkponnmaaDoor
set_option linter.unusedVariables false
set_option linter.unusedSimpArgs false
namespace Go.Proofs.YtdlpifgkponnmaaDoor
open Go.RowKit
theorem rangeM_has (st : Nat) : ∀ (n : Nat), st + n ≤ 128 → ∀ i : Nat, mhas (rangeM st n) i = (decide (st ≤ i) && decide (i < st + n))
  | 0, _, i => by
    have h : rangeM st (0 : Nat) = 0 := rfl
    rw [h]
    by_cases e : st ≤ i
    · have e2 : ¬ i < st + 0 := by omega
      simp [mhas, e2]
    · simp [mhas, e]
  | n + 1, h, i => by
    have hs : rangeM st (n + 1 : Nat) = mjoin (rangeM st n) (mbit ((st + n : Nat) : Int)) := rfl
    rw [hs, mhas_join_bit _ _ (by omega), rangeM_has st n (by omega) i]
    by_cases e : i = st + n
    · subst e; simp
    · simp only [e, decide_false, Bool.or_false]
      have e2 : (i < st + (n + 1)) = (i < st + n) := propext ⟨fun h => by omega, fun h => by omega⟩
      simp only [e2]
theorem holesTo_range (st n : Nat) (h : st + n ≤ 128) : ∀ k, holesTo (rangeM st n) k = (List.range (min n (k - st))).map (fun j => ((st + j : Nat) : Int))
  | 0 => by simp [holesTo]
  | k + 1 => by
    by_cases e : st ≤ k
    · by_cases e2 : k < st + n
      · rw [holesTo_hit _ _ (by rw [rangeM_has st n h]; simp [e, e2]), holesTo_range st n h k, show min n (k + 1 - st) = min n (k - st) + 1 by omega, List.range_succ, List.map_append, List.map_cons, List.map_nil,
          show st + min n (k - st) = k by omega]
      · rw [holesTo_miss _ _ (by rw [rangeM_has st n h]; simp [e2]), holesTo_range st n h k, show min n (k + 1 - st) = min n (k - st) by omega]
    · rw [holesTo_miss _ _ (by rw [rangeM_has st n h]; simp [e]), holesTo_range st n h k, show min n (k + 1 - st) = min n (k - st) by omega]
theorem holes_range (st n : Nat) (h : st + n ≤ 128) : holesTo (rangeM st n) 128 = (List.range n).map (fun j => ((st + j : Nat) : Int)) := by
  rw [holesTo_range st n h, show min n (128 - st) = n by omega]
/-- A pass: the cards that stay, then those that drop. -/
def passF (ds : List Crd) (h : Int) : List Crd := ds.filter (fun c => !mhas c.m h) ++ ds.filter (fun c => mhas c.m h)
def passesF (ds : List Crd) (hs : List Int) : List Crd := hs.foldl passF ds
theorem passesF_take (ds : List Crd) (hs : List Int) (k : Nat) (hk : k < hs.length) : passesF ds (hs.take (k + 1)) = passF (passesF ds (hs.take k)) hs[k] := by
  unfold passesF
  rw [List.take_succ_eq_append_getElem hk, List.foldl_append]
  rfl
theorem passF_perm (ds : List Crd) (h : Int) : (passF ds h).Perm ds := by
  unfold passF
  exact List.perm_append_comm.trans (List.filter_append_perm (fun c : Crd => mhas c.m h) ds)
theorem passF_len (ds : List Crd) (h : Int) : (passF ds h).length = ds.length := (passF_perm ds h).length_eq
end Go.Proofs.YtdlpifgkponnmaaDoor
set_option linter.unusedVariables false
namespace Go.Proofs.YtdlpifgkponnmaaDoor
open Go.RowKit
section
variable {α : Type} {e : Enc α} {w0 : World} {xs : List α} {T : TypeId} {base : Nat} {v : Value}
theorem Rd.news {w : World} {B : Addr} {ys : List α} (h : Rd e w (some B) ys) : ∀ (j : Nat) (u : Value), (e.all ys)[j]? = some u → w.cell? (B.add j) = some u := by
  intro j u hu
  have hj : j < ys.length * e.sz := by rw [← e.all_length]; exact (List.getElem?_eq_some_iff.1 hu).1
  have hq : j / e.sz < ys.length := (Nat.div_lt_iff_lt_mul e.pos).2 hj
  have hr : j % e.sz < e.sz := Nat.mod_lt _ e.pos
  have hd : j / e.sz * e.sz + j % e.sz = j := by rw [Nat.mul_comm]; exact Nat.div_add_mod j e.sz
  have hg := e.all_get ys (j / e.sz) (j % e.sz) hq hr
  rw [hd, hu] at hg
  obtain ⟨b, off, hA, _, hc⟩ := h (j / e.sz) hq
  simp only [Option.some.injEq] at hA
  subst hA
  have := hc (j % e.sz) u hg.symm
  rw [Nat.add_assoc, hd] at this
  rw [Addr.add_lit]
  exact this
theorem wpList_addAll {P : Program} {ops : Array Oper} {rest : List Oper} {o : Oper} {a : Act} {Q : Exit → Act → World → Prop} (e : Enc α) {W : World} (hgd : o.guard = none) (s y : Operand) (t : TypeId) (z : Value) (bytes : Nat)
    (ho : o.op = .call { callee := .builtin .append, args := #[s, y], argTypes := #[t, t] })
    (ht : P.underlying t = some (.slice T)) (hinfo : (P.info? T).map (fun i => (i.zero, i.size, i.bytes)) = some (some z, e.sz, bytes)) (hz : z.cells.size = e.sz)
    (ys : List α) (B : Addr) (c : Nat) (hs : a.eval s = v) (hy : a.eval y = .slice (some B) ys.length c) (HR : Rd e W (some B) ys) (HO : Ow e T W base v xs) (hbase : base ≤ W.heap.size) (hw0 : w0.heap.size ≤ base) (HE : Ext w0 W)
    (hl : (xs.length + ys.length) * bytes ≤ 140737488355328) (hl2 : xs.length + ys.length ≤ 9223372036854775807)
    (h : ∀ v1 w1, Ow e T w1 base v1 (xs ++ ys) → Ext w0 w1 → W.grownBy w1 v.ownBlock → wpList P ops Q rest (a.put o.dst v1) w1) :
    wpList P ops Q (o :: rest) a W := by
  obtain ⟨i, hi, hz0, hz1, hz2⟩ := info_parts hinfo
  refine wpList_append_own_at W hgd s y t ho base T i z e.sz bytes ht hi hz0 hz1 hz2 hz e.pos v xs.length (e.all xs) hs HO B ys.length c (e.all ys) hy (by rw [e.all_length]) HR.news (e.all_one ys) (by unfold maxLen; omega) hl hbase ?_
  intro v1 w1 hown hg _ hat
  refine h v1 w1 (by rw [Ow, List.length_append, e.all_append]; exact hown) ?_ hg
  exact HE.trans' hg (fun k hk => by have := (HO.lt k hk).1; omega)
end
section
variable {α : Type} {w0 : World} {xs : List α} {T : TypeId} {base : Nat} {v : Value}
theorem step_addAll {P : Program} {ops : Array Oper} {o : Oper} {a : Act} {K : Act → World → Prop} {Q : Exit → Act → World → Prop} {E : Prop} (e : Enc α) {W : World} (hgd : o.guard = none) (s y : Operand) (t : TypeId) (z : Value) (bytes : Nat)
    (ho : o.op = .call { callee := .builtin .append, args := #[s, y], argTypes := #[t, t] })
    (ht : P.underlying t = some (.slice T)) (hinfo : (P.info? T).map (fun i => (i.zero, i.size, i.bytes)) = some (some z, e.sz, bytes)) (hz : z.cells.size = e.sz)
    (ys : List α) (B : Addr) (c : Nat) (hs : a.eval s = v) (hy : a.eval y = .slice (some B) ys.length c) (HR : Rd e W (some B) ys) (HO : Ow e T W base v xs) (hbase : base ≤ W.heap.size) (hw0 : w0.heap.size ≤ base) (HE : Ext w0 W)
    (hl : (xs.length + ys.length) * bytes ≤ 140737488355328) (hl2 : xs.length + ys.length ≤ 9223372036854775807)
    (h : ∀ v1 w1, Ow e T w1 base v1 (xs ++ ys) → Ext w0 w1 → W.grownBy w1 v.ownBlock → (v1.ownBlock = v.ownBlock ∨ ∃ b, v1.ownBlock = some b ∧ W.heap.size ≤ b) → K (a.put o.dst v1) w1) :
    if Region.wanted o (yielded ops a.tmps) = true then Oper.wp P o a W K Q else E := by
  obtain ⟨i, hi, hz0, hz1, hz2⟩ := info_parts hinfo
  have hw : Region.wanted o (yielded ops a.tmps) = true := by simp [Region.wanted, hgd]
  rw [if_pos hw]
  obtain ⟨v', w', hr, h2, h3, h4, h5⟩ := run_append_own_at (P := P) W base t o.type T i z e.sz bytes ht hi hz0 hz1 hz2 hz e.pos v xs.length (e.all xs) HO B ys.length c (e.all ys) (by rw [e.all_length]) HR.news (e.all_one ys) (by unfold maxLen; omega) hl hbase
  unfold Oper.wp execOp
  simp only [ho, resolve, invoke, builtin, Sem.run_bind, Sem.run_pure, Result.andThen_ok, List.map_toArray, List.map_cons, List.map_nil, hs, hy, hr]
  refine h v' w' (by rw [Ow, List.length_append, e.all_append]; exact h2) ?_ h3 (h5.imp id (fun e => ⟨_, e, Nat.le_refl _⟩))
  exact HE.trans' h3 (fun k hk => by have := (HO.lt k hk).1; omega)
end
end Go.Proofs.YtdlpifgkponnmaaDoor
set_option linter.unusedVariables false
set_option linter.unusedSimpArgs false
set_option maxRecDepth 100000
namespace Go.Proofs.YtdlpifgkponnmaaDoor
open Go.RowKit
theorem run_append_nilL {P : Program} (W : World) (t ty e : TypeId) (i : TypeInfo) (ht : P.underlying t = some (.slice e)) (hi : P.info? e = some i) (A : Option Addr) (n cap c : Nat) (hle : n ≤ cap) :
    (Builtin.append_ #[t, t] ty #[.slice A n cap, .slice none 0 c]).run P W = .ok (.slice A n cap) W := by
  cases A with
  | none => simp [Builtin.append_, run_underlying ht, sizeOf, typeInfo, hi, Builtin.lenOf, Builtin.firstCells, hle]
  | some a => simp [Builtin.append_, run_underlying ht, sizeOf, typeInfo, hi, Builtin.lenOf, Builtin.firstCells, hle, storeCells]
theorem wpList_addAny {α : Type} {w0 : World} {xs : List α} {T : TypeId} {base : Nat} {v : Value} {P : Program} {ops : Array Oper} {rest : List Oper} {o : Oper} {a : Act} {Q : Exit → Act → World → Prop} (e : Enc α) {W : World} (hgd : o.guard = none) (s y : Operand) (t : TypeId) (z : Value) (bytes : Nat)
    (ho : o.op = .call { callee := .builtin .append, args := #[s, y], argTypes := #[t, t] })
    (ht : P.underlying t = some (.slice T)) (hinfo : (P.info? T).map (fun i => (i.zero, i.size, i.bytes)) = some (some z, e.sz, bytes)) (hz : z.cells.size = e.sz)
    (ys : List α) (B : Option Addr) (c : Nat) (hs : a.eval s = v) (hy : a.eval y = .slice B ys.length c) (HR : Rd e W B ys) (HO : Ow e T W base v xs) (hbase : base ≤ W.heap.size) (hw0 : w0.heap.size ≤ base) (HE : Ext w0 W)
    (hl : (xs.length + ys.length) * bytes ≤ 140737488355328) (hl2 : xs.length + ys.length ≤ 9223372036854775807)
    (h : ∀ v1 w1, Ow e T w1 base v1 (xs ++ ys) → Ext w0 w1 → wpList P ops Q rest (a.put o.dst v1) w1) :
    wpList P ops Q (o :: rest) a W := by
  cases B with
  | some B => exact wpList_addAll e hgd s y t z bytes ho ht hinfo hz ys B c hs hy HR HO hbase hw0 HE hl hl2 (fun v1 w1 h1 h2 _ => h v1 w1 h1 h2)
  | none =>
    have hys : ys = [] := by
      cases ys with
      | nil => rfl
      | cons y ys => obtain ⟨b, off, hb, _⟩ := HR 0 (Nat.zero_lt_succ _); cases hb
    subst hys
    obtain ⟨i, hi, hz0, hz1, hz2⟩ := info_parts hinfo
    obtain ⟨A, cap, rfl, hle, _⟩ := HO.slice
    refine wpList_plain hgd fun K hK => ?_
    have hr := run_append_nilL (P := P) W t o.type T i ht hi A xs.length cap c hle
    unfold Oper.wp execOp
    simp only [ho, resolve, invoke, builtin, Sem.run_bind, Sem.run_pure, Result.andThen_ok, List.map_toArray, List.map_cons, List.map_nil, hs, hy, List.length_nil, hr]
    exact hK _ _ (h _ _ (by rw [List.append_nil]; exact HO) HE)
end Go.Proofs.YtdlpifgkponnmaaDoor
set_option linter.unusedVariables false
set_option linter.unusedSimpArgs false
set_option maxRecDepth 100000
namespace Go.Proofs.YtdlpifgkponnmaaDoor
open Go.RowKit
def hasNm (ds : List Crd) (nm : ByteArray) : Bool := ds.any fun y => y.nm.toList == nm.toList
theorem txt_eq (x y : ByteArray) : (x.toList == y.toList) = decide (x = y) := by
  rw [Bool.eq_iff_iff, beq_iff_eq, decide_eq_true_iff]
  refine ⟨fun h => ?_, fun h => by rw [h]⟩
  rw [Go.ByteArray.toList_eq, Go.ByteArray.toList_eq] at h
  cases x; cases y
  exact congrArg ByteArray.mk (Array.toList_inj.1 h)
theorem okD_take (ds : List Crd) (k : Nat) (h : okD ds = true) : okD (ds.take k) = true := by
  simp only [okD, Bool.and_eq_true, List.all_eq_true, decide_eq_true_eq] at h ⊢
  exact ⟨fun x hx => h.1 x (List.mem_of_mem_take hx), h.2.sublist ((List.take_sublist k ds).map _)⟩
theorem okD_next (ds : List Crd) (k : Nat) (hk : k < ds.length) : okD (ds.take (k + 1)) = (okD (ds.take k) && (isCardB ds[k] && !hasNm (ds.take k) ds[k].nm)) := by
  rw [List.take_succ_eq_append_getElem hk, okD_snoc]
  congr 3
  unfold hasNm
  congr 1
  funext y
  exact (txt_eq _ _).symm
theorem hasNm_zero (ds : List Crd) (nm : ByteArray) : hasNm (ds.take 0) nm = false := by rw [List.take_zero]; rfl
theorem hasNm_next (ds : List Crd) (j : Nat) (nm : ByteArray) (h : j < ds.length) : hasNm (ds.take (j + 1)) nm = (hasNm (ds.take j) nm || (ds[j].nm.toList == nm.toList)) := by
  unfold hasNm; rw [List.take_succ_eq_append_getElem h, List.any_append, List.any_cons, List.any_nil, Bool.or_false]
theorem hasNm_hit (ds : List Crd) (j : Nat) (nm : ByteArray) (h : j < ds.length) (e : (ds[j].nm.toList == nm.toList) = true) : hasNm (ds.take (j + 1)) nm = true := by rw [hasNm_next ds j nm h, e, Bool.or_true]
theorem hasNm_miss (ds : List Crd) (j : Nat) (nm : ByteArray) (h : j < ds.length) (e : (ds[j].nm.toList == nm.toList) = false) : hasNm (ds.take (j + 1)) nm = hasNm (ds.take j) nm := by rw [hasNm_next ds j nm h, e, Bool.or_false]
theorem hasNm_up (ds : List Crd) (j k : Nat) (nm : ByteArray) (h : j ≤ k) (e : hasNm (ds.take j) nm = true) : hasNm (ds.take k) nm = true := by
  unfold hasNm at *
  rw [List.any_eq_true] at *
  obtain ⟨y, hy, e⟩ := e
  exact ⟨y, (List.take_sublist_take_left h).subset hy, e⟩
theorem deck_far {ds : List Crd} (h : ¬ ds.length ≤ 80) : deckB ds = false := by unfold deckB; rw [decide_eq_false h]; rfl
theorem deck_near {ds : List Crd} (h : ds.length ≤ 80) : deckB ds = okD (ds.take ds.length) := by unfold deckB; rw [decide_eq_true h, List.take_length]; rfl
theorem deck_miss {ds : List Crd} {k : Nat} (hk : k < ds.length) (h : okD (ds.take (k + 1)) = false) : deckB ds = false := by
  cases e : deckB ds with
  | false => rfl
  | true =>
    unfold deckB at e
    rw [Bool.and_eq_true] at e
    rw [okD_take ds (k + 1) e.2] at h
    cases h
set_option maxHeartbeats 400000 in
theorem impl_isDeck1 (y : Crd) (nm : ByteArray) (bx : Nat) (w : World) (hx : w.cell? ⟨bx, 0, none⟩ = some (.string nm)) (hlt : bx < w.heap.size) :
    Calls Tryd.prog 62 #[.agg #[.string y.nm, .int .u64 (lo y.m), .int .u64 (hi y.m)], .pointer (some ⟨bx, 0, none⟩)] w fun e w' => e = .returned (.bool (y.nm.toList == nm.toList)) ∧ Ext w w' := by
  cases h : (y.nm.toList == nm.toList)
  all_goals
    go_enter Tryd.func62, Tryd.ntmps62
    go_wp2
    go_ret
    exact ⟨by first | rfl | simp [h], by ((repeat (first | with_reducible exact Ext.refl _ | with_reducible exact hw | with_reducible exact hb9 | with_reducible exact hb8 | with_reducible exact hb7 | with_reducible exact hb6 | with_reducible exact hb5 | with_reducible exact hb4 | with_reducible exact hb3 | with_reducible exact hb2 | with_reducible exact hb1 | with_reducible refine Ext.alloc ?_ _ | with_reducible refine Ext.drew ?_ | ((with_reducible refine Ext.set ?_ ?_ _); focus (dsimp only; omega)) | with_reducible refine Ext.trans ?_ hb9 | with_reducible refine Ext.trans ?_ hb8 | with_reducible refine Ext.trans ?_ hb7 | with_reducible refine Ext.trans ?_ hb6 | with_reducible refine Ext.trans ?_ hb5 | with_reducible refine Ext.trans ?_ hb4 | with_reducible refine Ext.trans ?_ hb3 | with_reducible refine Ext.trans ?_ hb2 | with_reducible refine Ext.trans ?_ hb1 | with_reducible refine Ext.trans ?_ hw)))⟩
set_option maxHeartbeats 400000 in
theorem slices_IndexFunc_sameCrd (xs : List Crd) (A : Option Addr) (n cap : Nat) (w : World) (hnx : n = xs.length) (hR : Rd encCrd w A xs) (hn : n ≤ 1048576) (nm : ByteArray) (bx : Nat) (hx : w.cell? ⟨bx, 0, none⟩ = some (.string nm)) (hbx : bx < w.heap.size) :
    Calls Tryd.prog 86 #[.slice A n cap, .func (.func 62) #[] #[.pointer (some ⟨bx, 0, none⟩)]] w fun e w' => e = .returned (.int .i64 (fidx (fun y : Crd => y.nm.toList == nm.toList) xs)) ∧ Ext w w' := by
  subst hnx
  go_enter Tryd.func86, Tryd.ntmps86
  go_wp2
  go_loopg [8] xs.length (fun g i wr => ∃ k : Nat, g = xs.length - k ∧ k ≤ xs.length ∧ i = .int .i64 k ∧ Ext w wr ∧ (xs.take k).any (fun y : Crd => y.nm.toList == nm.toList) = false)
  case atStart => exact ⟨0, by omega, by omega, rfl, Ext.refl _, by rw [List.take_zero]; rfl⟩
  case round =>
    obtain ⟨k, hg, hk, rfl, hw, hQ⟩ := hrel
    by_cases hkl : k < xs.length
    · obtain ⟨b, off, hA, hlt, _⟩ := hR k hkl
      subst hA
      obtain ⟨m0, m1, m2, m3⟩ := (hR.ext hw).crd k hkl
      have hs := any_take (fun y : Crd => y.nm.toList == nm.toList) xs k hkl
      rw [hQ, Bool.false_or] at hs
      cases hq : (fun y : Crd => y.nm.toList == nm.toList) xs[k] with
      | true =>
        have hM := fidx_hit (fun y : Crd => y.nm.toList == nm.toList) xs k hkl hq hQ
        try dsimp only at hq
        clear hs hQ
        go_wp2_with fail
        refine Calls.mono (impl_isDeck1 xs[k] nm bx _ (hw.cell hx) (Nat.lt_of_lt_of_le hbx hw.size)) ?_
        rintro e w1 ⟨rfl, hb1⟩
        simp only [hq]
        go_wp2
        go_ret
        exact ⟨by rw [hM]; rfl, by ((repeat (first | with_reducible exact Ext.refl _ | with_reducible exact hw | with_reducible exact hb9 | with_reducible exact hb8 | with_reducible exact hb7 | with_reducible exact hb6 | with_reducible exact hb5 | with_reducible exact hb4 | with_reducible exact hb3 | with_reducible exact hb2 | with_reducible exact hb1 | with_reducible refine Ext.alloc ?_ _ | with_reducible refine Ext.drew ?_ | ((with_reducible refine Ext.set ?_ ?_ _); focus (dsimp only; omega)) | with_reducible refine Ext.trans ?_ hb9 | with_reducible refine Ext.trans ?_ hb8 | with_reducible refine Ext.trans ?_ hb7 | with_reducible refine Ext.trans ?_ hb6 | with_reducible refine Ext.trans ?_ hb5 | with_reducible refine Ext.trans ?_ hb4 | with_reducible refine Ext.trans ?_ hb3 | with_reducible refine Ext.trans ?_ hb2 | with_reducible refine Ext.trans ?_ hb1 | with_reducible refine Ext.trans ?_ hw)))⟩
      | false =>
        have hs2 := hd (hs.trans hq)
        try dsimp only at hq
        clear hs hQ
        go_wp2_with fail
        refine Calls.mono (impl_isDeck1 xs[k] nm bx _ (hw.cell hx) (Nat.lt_of_lt_of_le hbx hw.size)) ?_
        rintro e w1 ⟨rfl, hb1⟩
        simp only [hq]
        go_wp2
        go_roundg (xs.length - (k + 1))
        case rel => exact ⟨k + 1, rfl, hkl, rfl, by ((repeat (first | with_reducible exact Ext.refl _ | with_reducible exact hw | with_reducible exact hb9 | with_reducible exact hb8 | with_reducible exact hb7 | with_reducible exact hb6 | with_reducible exact hb5 | with_reducible exact hb4 | with_reducible exact hb3 | with_reducible exact hb2 | with_reducible exact hb1 | with_reducible refine Ext.alloc ?_ _ | with_reducible refine Ext.drew ?_ | ((with_reducible refine Ext.set ?_ ?_ _); focus (dsimp only; omega)) | with_reducible refine Ext.trans ?_ hb9 | with_reducible refine Ext.trans ?_ hb8 | with_reducible refine Ext.trans ?_ hb7 | with_reducible refine Ext.trans ?_ hb6 | with_reducible refine Ext.trans ?_ hb5 | with_reducible refine Ext.trans ?_ hb4 | with_reducible refine Ext.trans ?_ hb3 | with_reducible refine Ext.trans ?_ hb2 | with_reducible refine Ext.trans ?_ hb1 | with_reducible refine Ext.trans ?_ hw))), hs2.out⟩
        case measure => omega
    · obtain rfl : k = xs.length := by omega
      rw [List.take_length] at hQ
      have hM := fidx_none (fun y : Crd => y.nm.toList == nm.toList) xs hQ
      go_wp2
      go_ret
      exact ⟨by rw [hM]; rfl, hw⟩

theorem hasNm_fidx (xs : List Crd) (nm : ByteArray) : hasNm xs nm = decide (fidx (fun y : Crd => y.nm.toList == nm.toList) xs ≥ 0) := by
  rw [Bool.eq_iff_iff, decide_eq_true_iff]
  exact (fidx_ge _ xs).symm
set_option maxHeartbeats 400000 in
theorem slices_ContainsFunc_sameCrd (xs : List Crd) (A : Option Addr) (n cap : Nat) (w : World) (hnx : n = xs.length) (hR : Rd encCrd w A xs) (hn : n ≤ 1048576) (nm : ByteArray) (bx : Nat) (hx : w.cell? ⟨bx, 0, none⟩ = some (.string nm)) (hbx : bx < w.heap.size) :
    Calls Tryd.prog 61 #[.slice A n cap, .func (.func 62) #[] #[.pointer (some ⟨bx, 0, none⟩)]] w fun e w' => e = .returned (.bool (hasNm xs nm)) ∧ Ext w w' := by
  subst hnx
  have hI := slices_IndexFunc_sameCrd xs A _ cap w rfl hR hn nm bx hx hbx
  have hm := hasNm_fidx xs nm
  generalize fidx (fun y : Crd => y.nm.toList == nm.toList) xs = q at hm hI
  rw [hm]
  clear hm
  go_enter Tryd.func61, Tryd.ntmps61
  go_wp2_with fail
  refine Calls.mono (hI) ?_
  rintro e w1 ⟨rfl, hb1⟩
  go_wp2
  go_ret
  exact ⟨rfl, by ((repeat (first | with_reducible exact Ext.refl _ | with_reducible exact hw | with_reducible exact hb9 | with_reducible exact hb8 | with_reducible exact hb7 | with_reducible exact hb6 | with_reducible exact hb5 | with_reducible exact hb4 | with_reducible exact hb3 | with_reducible exact hb2 | with_reducible exact hb1 | with_reducible refine Ext.alloc ?_ _ | with_reducible refine Ext.drew ?_ | ((with_reducible refine Ext.set ?_ ?_ _); focus (dsimp only; omega)) | with_reducible refine Ext.trans ?_ hb9 | with_reducible refine Ext.trans ?_ hb8 | with_reducible refine Ext.trans ?_ hb7 | with_reducible refine Ext.trans ?_ hb6 | with_reducible refine Ext.trans ?_ hb5 | with_reducible refine Ext.trans ?_ hb4 | with_reducible refine Ext.trans ?_ hb3 | with_reducible refine Ext.trans ?_ hb2 | with_reducible refine Ext.trans ?_ hb1 | with_reducible refine Ext.trans ?_ hw)))⟩
set_option maxHeartbeats 2000000 in
theorem impl_isDeck (ds : List Crd) (A : Option Addr) (cap : Nat) (w : World) (hR : Rd encCrd w A ds) (hcap : ds.length ≤ cap) (hn : ds.length ≤ 1048576) (hok : ∀ c ∈ ds, CrdIn c) :
    Calls Tryd.prog 36 #[.slice A ds.length cap] w fun e w' => e = .returned (.bool (deckB ds)) ∧ Ext w w' := by
  by_cases h80 : ds.length ≤ 80
  · have hv := hd (deck_near h80)
    have hnx := fun k h => okD_next ds k h
    have hmi := fun k h => deck_miss (ds := ds) (k := k) h
    have hQ0 : okD (ds.take 0) = true := by rw [List.take_zero]; exact okD_nil
    go_enter Tryd.func36, Tryd.ntmps36
    go_wp2
    go_loopg [10] ds.length (fun g i wr => ∃ k : Nat, g = ds.length - k ∧ k ≤ ds.length ∧ i = .int .i64 k ∧ Ext w wr ∧ Hd (okD (ds.take k) = true))
    case atStart => exact ⟨0, by omega, by omega, rfl, Ext.refl _, hd hQ0⟩
    case round =>
      obtain ⟨k, hg, hk, rfl, hw, hQ⟩ := hrel
      by_cases hkl : k < ds.length
      · obtain ⟨b, off, hA, hlt, _⟩ := hR k hkl
        subst hA
        have hRr := hR.ext hw
        obtain ⟨m0, m1, m2, m3⟩ := hRr.crd k hkl
        have hic := impl_isCard ds[k] (hok _ (List.getElem_mem hkl))
        have hnx := hnx k hkl
        rw [hQ.out, Bool.true_and] at hnx
        have hmi := hmi k hkl
        have hco := fun (W : World) (hE : Ext wr W) => slices_ContainsFunc_sameCrd (ds.take k) (some ⟨b, off, none⟩) k cap W (by rw [List.length_take]; omega) ((hRr.ext hE).take k) (by omega) ds[k].nm wr.heap.size
        have lw : wr.heap.size < wr.heap.size + 1 := Nat.lt_succ_self _
        generalize hasNm (ds.take k) ds[k].nm = hh at hnx hco
        generalize isCardB ds[k] = hc at hnx hic
        generalize ds[k] = c at m0 m1 m2 hic hco
        cases hc with
        | false =>
          have hv2 := hd (hmi hnx)
          clear hnx hmi
          go_wp2_with fail
          refine Calls.mono (hic _) ?_
          rintro e w2 ⟨rfl, hb2⟩
          go_wp2
          go_ret
          exact ⟨by rw [hv2.out]; rfl, (hw.alloc _).trans hb2⟩
        | true =>
          have hbx : BoxAt (wr.alloc (.cells #[.string c.nm, .int .u64 (lo c.m), .int .u64 (hi c.m)] 60)) wr.heap.size #[.string c.nm, .int .u64 (lo c.m), .int .u64 (hi c.m)] 60 := BoxAt.new' rfl
          go_wp2_with fail
          refine Calls.mono (hic _) ?_
          rintro e w2 ⟨rfl, hb2⟩
          have hbx := hbx.ext hb2
          have hE2 := ((Ext.refl wr).alloc _).trans hb2
          have hco := hco w2 hE2 (hbx.cell 0) hbx.lt
          have hkk : (0 : Int) ≤ k ∧ (k : Int) ≤ cap := ⟨by omega, by omega⟩
          cases hh with
          | true =>
            have hv2 := hd (hmi hnx)
            clear hnx hmi
            go_wp2_with fail
            refine Calls.mono hco ?_
            rintro e w3 ⟨rfl, hb3⟩
            go_wp2
            go_ret
            exact ⟨by rw [hv2.out]; rfl, (hw.trans hE2).trans hb3⟩
          | false =>
            have hQ2 := hd hnx
            clear hnx hmi
            go_wp2_with fail
            refine Calls.mono hco ?_
            rintro e w3 ⟨rfl, hb3⟩
            go_wp2
            go_roundg (ds.length - (k + 1))
            case rel => exact ⟨k + 1, rfl, hkl, by simp, (hw.trans hE2).trans hb3, hQ2⟩
            case measure => omega
      · obtain rfl : k = ds.length := by omega
        go_wp2
        go_ret
        exact ⟨by rw [hv.out, hQ.out]; rfl, hw⟩
  · have hv := hd (deck_far h80)
    go_enter Tryd.func36, Tryd.ntmps36
    go_wp2
    go_ret
    exact ⟨by rw [hv.out]; rfl, Ext.refl _⟩
set_option maxHeartbeats 2000000 in
theorem spec_l02Ok (ds : List Crd) (A : Option Addr) (cap : Nat) (w : World) (hR : Rd encCrd w A ds) (hn : ds.length ≤ 1048576) (hok : ∀ c ∈ ds, CrdIn c) :
    Calls Tryd.prog 31 #[.slice A ds.length cap] w fun e w' => e = .returned (.bool (deckB ds)) ∧ Ext w w' := by
  have hx := @ExtOf.cell
  by_cases h80 : ds.length ≤ 80
  · have hv := hd (deck_near h80)
    have hnx := fun k h => okD_next ds k h
    have hmi := fun k h => deck_miss (ds := ds) (k := k) h
    have hQ0 : okD (ds.take 0) = true := by rw [List.take_zero]; exact okD_nil
    have hz := fun nm => hasNm_zero ds nm
    have hh1 := fun j nm h e => hasNm_hit ds j nm h e
    have hh2 := fun j nm h e => hasNm_miss ds j nm h e
    have hup := fun j k nm (h : j ≤ k) (e : hasNm (ds.take j) nm = true) => hasNm_up ds j k nm h e
    go_enter Tryd.func31, Tryd.ntmps31
    go_wp2
    go_loopg [3] ds.length (fun g i wr => ∃ k : Nat, g = ds.length - k ∧ k ≤ ds.length ∧ i = .int .i64 k ∧ Ext w wr ∧ Hd (okD (ds.take k) = true))
    case atStart => exact ⟨0, by omega, by omega, rfl, Ext.refl _, hd hQ0⟩
    case round =>
      obtain ⟨k, hg, hk, rfl, hw, hQ⟩ := hrel
      obtain ⟨wo, hwo⟩ : ∃ x, x = wr := ⟨_, rfl⟩
      subst hwo
      by_cases hkl : k < ds.length
      · obtain ⟨b, off, hA, hlt, _⟩ := hR k hkl
        subst hA
        have hRr := hR.ext hw
        obtain ⟨m0, m1, m2, m3⟩ := hRr.crd k hkl
        have hic := spec_l01Ok ds[k] (hok _ (List.getElem_mem hkl)) b (off + k * 3) wo m3 m0 m1 m2
        have hnx := hnx k hkl
        rw [hQ.out, Bool.true_and] at hnx
        have hmi := hmi k hkl
        have hk0 : (0 : Int) ≤ k ∧ (k : Int) < ds.length := ⟨by omega, by omega⟩
        generalize hcc : isCardB ds[k] = hc at hnx hic
        cases hc with
        | false =>
          have hv2 := hd (hmi hnx)
          clear hnx hmi hh1 hh2 hup hz
          go_wp2_with fail
          refine Calls.mono hic ?_
          rintro e w2 ⟨rfl, hb2⟩
          go_wp2
          go_ret
          exact ⟨by rw [hv2.out]; rfl, hw.trans hb2⟩
        | true =>
          go_wp2_with fail
          refine Calls.mono hic ?_
          rintro e w2 ⟨rfl, hb2⟩
          have hup := fun j (h : j ≤ k) => hup j k ds[k].nm h
          have hw2 := hw.trans hb2
          have hz := hd (hz ds[k].nm)
          clear m0 m1 m2 m3 hic hb2 hcc
          go_wp2
          go_loopg [4] k (fun g i wr => ∃ j : Nat, g = k - j ∧ j ≤ k ∧ i = .int .i64 j ∧ Ext w2 wr ∧ Hd (hasNm (ds.take j) ds[k].nm = false))
          case atStart => exact ⟨0, by omega, by omega, rfl, Ext.refl _, hz⟩
          case round =>
            obtain ⟨j, hg2, hj, rfl, hE, hN⟩ := hrel
            have hR2 := hR.ext (hw2.trans hE)
            by_cases hjk : j < k
            · obtain ⟨m0, m1, m2, m3⟩ := hR2.crd k hkl
              obtain ⟨n0, n1, n2, n3⟩ := hR2.crd j (by omega)
              have hh1 := hh1 j ds[k].nm (by omega)
              have hh2 := hh2 j ds[k].nm (by omega)
              have hup := hup (j + 1) (by omega)
              have hjl : (j : Int) < ds.length := by omega
              rw [hN.out] at hh2
              generalize ds[j]'(by omega) = y at n0 n1 n2 hh1 hh2
              generalize hck : ds[k] = c at m0 m1 m2 hh1 hh2 hup hnx hN
              have hck := hd hck
              cases he : (y.nm.toList == c.nm.toList) with
              | true =>
                rw [hup (hh1 he)] at hnx
                have hv2 := hd (hmi hnx)
                clear hnx hmi hh1 hh2 hup hz
                go_wp2
                refine wp_region_ext (by kernel_rfl) (by kernel_rfl) ?_
                repeat (first | go_big_quiet_step (fail) | quiet_step (fail))
                refine wpQuiet_nil ?_
                intro w7 hq7
                have hb7 := ext_of_class hq7
                clear hq7
                obtain ⟨hc7, hf7, hz7⟩ := bcell3 hb7
                try simp at hz7
                go_wp2
                go_ret
                exact ⟨by rw [hv2.out]; rfl, (hw2.trans hE).trans hb7⟩
              | false =>
                have hN2 := hd (hh2 he)
                clear hnx hmi hh1 hh2 hup hz
                go_wp2
                refine wp_region_ext (by kernel_rfl) (by kernel_rfl) ?_
                repeat (first | go_big_quiet_step (fail) | quiet_step (fail))
                refine wpQuiet_nil ?_
                intro w7 hq7
                have hb7 := ext_of_class hq7
                clear hq7
                obtain ⟨hc7, hf7, hz7⟩ := bcell3 hb7
                try simp at hz7
                go_wp2
                go_roundg (k - (j + 1))
                case rel => exact ⟨j + 1, rfl, hjk, by simp, hE.trans hb7, by rw [hck.out]; exact hN2⟩
                case measure => omega
            · obtain rfl : j = k := by omega
              rw [hN.out] at hnx
              have hQ2 := hd hnx
              clear hnx hmi hh1 hh2 hup hz
              go_wp2
              go_roundg (ds.length - (j + 1))
              case rel => exact ⟨j + 1, rfl, hkl, by simp, hw2.trans hE, hQ2⟩
              case measure => omega
      · obtain rfl : k = ds.length := by omega
        go_wp2
        go_ret
        exact ⟨by rw [hv.out, hQ.out]; rfl, hw⟩
  · have hv := hd (deck_far h80)
    go_enter Tryd.func31, Tryd.ntmps31
    go_wp2
    go_ret
    exact ⟨by rw [hv.out]; rfl, Ext.refl _⟩
end Go.Proofs.YtdlpifgkponnmaaDoor
set_option linter.unusedVariables false
set_option linter.unusedSimpArgs false
set_option maxRecDepth 100000
namespace Go.Proofs.YtdlpifgkponnmaaDoor
open Go.RowKit
def stayTo (ds : List Crd) (h : Int) (k : Nat) : List Crd := (ds.take k).filter fun c => !mhas c.m h
def dropTo (ds : List Crd) (h : Int) (k : Nat) : List Crd := (ds.take k).filter fun c => mhas c.m h
theorem stay_zero (ds : List Crd) (h : Int) : stayTo ds h 0 = [] := by unfold stayTo; rw [List.take_zero]; rfl
theorem drop_zero (ds : List Crd) (h : Int) : dropTo ds h 0 = [] := by unfold dropTo; rw [List.take_zero]; rfl
theorem stay_hit {ds : List Crd} {h : Int} {k : Nat} (hk : k < ds.length) (e : mhas ds[k].m h = true) : stayTo ds h (k + 1) = stayTo ds h k ∧ dropTo ds h (k + 1) = dropTo ds h k ++ [ds[k]] := by
  unfold stayTo dropTo; rw [List.take_succ_eq_append_getElem hk, List.filter_append, List.filter_append]; simp [e]
theorem stay_miss {ds : List Crd} {h : Int} {k : Nat} (hk : k < ds.length) (e : mhas ds[k].m h = false) : stayTo ds h (k + 1) = stayTo ds h k ++ [ds[k]] ∧ dropTo ds h (k + 1) = dropTo ds h k := by
  unfold stayTo dropTo; rw [List.take_succ_eq_append_getElem hk, List.filter_append, List.filter_append]; simp [e]
theorem stay_len (ds : List Crd) (h : Int) (k : Nat) : (stayTo ds h k).length ≤ k ∧ (dropTo ds h k).length ≤ k := by
  unfold stayTo dropTo
  have h1 := List.length_filter_le (fun c : Crd => !mhas c.m h) (ds.take k)
  have h2 := List.length_filter_le (fun c : Crd => mhas c.m h) (ds.take k)
  rw [List.length_take] at h1 h2
  omega
theorem stay_all (ds : List Crd) (h : Int) : stayTo ds h ds.length ++ dropTo ds h ds.length = passF ds h := by unfold stayTo dropTo passF; rw [List.take_length]
attribute [irreducible] stayTo dropTo
theorem passes_len (ds : List Crd) (hs : List Int) (k : Nat) : (passesF ds (hs.take k)).length = ds.length := by
  unfold passesF
  generalize hs.take k = l
  induction l generalizing ds with
  | nil => rfl
  | cons h l ih => rw [List.foldl_cons, ih, passF_len]
theorem info_Crd : (Tryd.prog.info? 60).map (fun i => (i.zero, i.size, i.bytes)) = some (some (.agg #[.string ⟨#[]⟩, .int .u64 0, .int .u64 0]), encCrd.sz, 32) := by kernel_rfl
set_option maxHeartbeats 2000000 in
theorem impl_split (ds : List Crd) (A : Option Addr) (cap : Nat) (h : Int) (h0 : 0 ≤ h) (h1 : h < 128) (w : World) (hR : Rd encCrd w A ds) (hn : ds.length ≤ 1048576) :
    Calls Tryd.prog 65 #[.slice A ds.length cap, .int .i64 h] w fun e w' => ∃ v u, e = .returned (.tuple #[v, u]) ∧ Ow encCrd 60 w' w.heap.size v (stayTo ds h ds.length) ∧ Ow encCrd 60 w' w.heap.size u (dropTo ds h ds.length) ∧ Ext w w' := by
  have hz1 := stay_zero ds h
  have hz2 := drop_zero ds h
  have hhit := fun k hk => stay_hit (ds := ds) (h := h) (k := k) hk
  have hmiss := fun k hk => stay_miss (ds := ds) (h := h) (k := k) hk
  have hlen := stay_len ds h
  go_enter Tryd.func65, Tryd.ntmps65
  go_wp2
  go_loopg [6, 7, 14] ds.length (fun g v u i wr => ∃ k : Nat, g = ds.length - k ∧ k ≤ ds.length ∧ i = .int .i64 k ∧ Ext w wr ∧ Ow encCrd 60 wr w.heap.size v (stayTo ds h k) ∧ Ow encCrd 60 wr w.heap.size u (dropTo ds h k) ∧ ∀ b, v.ownBlock = some b → u.ownBlock ≠ some b)
  case atStart => exact ⟨0, by omega, by omega, rfl, ((Ext.refl _).alloc _).alloc _, by rw [hz1]; exact (Ow.made0 rfl (Nat.le_refl _)).ext ((Ext.refl _).alloc _), by rw [hz2]; exact Ow.made0 (by simp) (by omega), fun b hb e => by have h1 : w.heap.size = b := Option.some.inj hb; have h2 : w.heap.size + 1 = b := Option.some.inj e; omega⟩
  case round =>
    obtain ⟨k, hg, hk, rfl, hw, hV, hU, hne⟩ := hrel
    by_cases hkl : k < ds.length
    · obtain ⟨b, off, hA, hlt, _⟩ := hR k hkl
      subst hA
      obtain ⟨m0, m1, m2, m3⟩ := (hR.ext hw).crd k hkl
      have hhit := hhit k hkl
      have hmiss := hmiss k hkl
      obtain ⟨l1, l2⟩ := hlen k
      have hca := impl_has ds[k].m h h0 h1
      generalize ds[k] = c at m0 m1 m2 hca hhit hmiss
      generalize stayTo ds h k = ss at hV hhit hmiss l1
      generalize dropTo ds h k = dd at hU hhit hmiss l2
      have hbx : BoxAt (wr.alloc (.cells #[.string c.nm, .int .u64 (lo c.m), .int .u64 (hi c.m)] 60)) wr.heap.size #[.string c.nm, .int .u64 (lo c.m), .int .u64 (hi c.m)] 60 := BoxAt.new' rfl
      have hwA := hw.alloc (.cells #[.string c.nm, .int .u64 (lo c.m), .int .u64 (hi c.m)] 60)
      have hVA := hV.ext ((Ext.refl wr).alloc (.cells #[.string c.nm, .int .u64 (lo c.m), .int .u64 (hi c.m)] 60))
      have hUA := hU.ext ((Ext.refl wr).alloc (.cells #[.string c.nm, .int .u64 (lo c.m), .int .u64 (hi c.m)] 60))
      go_wp2_with fail
      refine Calls.mono (hca _) ?_
      rintro e w2 ⟨rfl, hb2⟩
      replace hbx := hbx.ext hb2
      have hw2 := hwA.trans hb2
      have hV2 := hVA.ext hb2
      have hU2 := hUA.ext hb2
      have hltV := hV2.lt
      have hltU := hU2.lt
      clear hV hU hw hVA hUA hwA hb2 hca m0 m1 m2 m3 hlen
      have x0 : w2.cell? ⟨wr.heap.size, 0, none⟩ = some (.string c.nm) := hbx.cell 0
      have x1 : w2.cell? ⟨wr.heap.size, 1, none⟩ = some (.int .u64 (lo c.m)) := hbx.cell 1
      have x2 : w2.cell? ⟨wr.heap.size, 2, none⟩ = some (.int .u64 (hi c.m)) := hbx.cell 2
      have lB := hbx.lt
      have hs2 := hw2.size
      cases hh : mhas c.m h with
      | true =>
        obtain ⟨e1, e2⟩ := hhit hh
        have e1 := hd e1
        have e2 := hd e2
        clear hhit hmiss hh
        go_wp2_with (at_builtin; refine wpList_push2 (w0 := w) (base := w.heap.size) (xs := dd) encCrd (by rfl) _ _ 29 (.agg #[.string ⟨#[]⟩, .int .u64 0, .int .u64 0]) 32 (by rfl) Tryd.underlying29 info_Crd (by rfl) (c) (by rfl) (by rfl) (by simp) (hU2) (by have := (hw2 : Ext w _).size; simp at this ⊢; omega) (by omega) (hw2) (by omega) (by omega) ?_)
        intro v3 w3 hO3 hb3 hg3 ho3
        have hV3 := hV2.grown hg3 (by
          cases hv : u6.ownBlock with
          | none => exact .inl rfl
          | some b => exact .inr fun e => hne b hv e.symm)
        have hne3 : ∀ b, u6.ownBlock = some b → v3.ownBlock ≠ some b := fun b hb e => by
          rcases ho3 with h1 | ⟨bb, h1, h2⟩
          · exact hne b hb (h1.symm.trans e)
          · rw [h1] at e
            have := (hltV _ hb).2
            have := Option.some.inj e
            omega
        go_wp2
        go_roundg (ds.length - (k + 1))
        case rel => exact ⟨k + 1, rfl, hkl, by simp, hb3, by rw [e1.out]; exact hV3, by rw [e2.out]; exact hO3, hne3⟩
        case measure => omega
      | false =>
        obtain ⟨e1, e2⟩ := hmiss hh
        have e1 := hd e1
        have e2 := hd e2
        clear hhit hmiss hh
        go_wp2_with (at_builtin; refine wpList_push2 (w0 := w) (base := w.heap.size) (xs := ss) encCrd (by rfl) _ _ 29 (.agg #[.string ⟨#[]⟩, .int .u64 0, .int .u64 0]) 32 (by rfl) Tryd.underlying29 info_Crd (by rfl) (c) (by rfl) (by rfl) (by simp) (hV2) (by have := (hw2 : Ext w _).size; simp at this ⊢; omega) (by omega) (hw2) (by omega) (by omega) ?_)
        intro v3 w3 hO3 hb3 hg3 ho3
        have hU3 := hU2.grown hg3 (by
          cases hv : u7.ownBlock with
          | none => exact .inl rfl
          | some b => exact .inr fun e => hne b e.symm hv)
        have hne3 : ∀ b, v3.ownBlock = some b → u7.ownBlock ≠ some b := fun b hb e => by
          rcases ho3 with h1 | ⟨bb, h1, h2⟩
          · exact hne b (h1.symm.trans hb) e
          · rw [h1] at hb
            have := (hltU _ e).2
            have := Option.some.inj hb
            omega
        go_wp2
        go_roundg (ds.length - (k + 1))
        case rel => exact ⟨k + 1, rfl, hkl, by simp, hb3, by rw [e1.out]; exact hO3, by rw [e2.out]; exact hU3, hne3⟩
        case measure => omega
    · obtain rfl : k = ds.length := by omega
      go_wp2
      refine bodyPost_ret (v := .tuple #[u6, u7]) (by simp [results, Tryd.results65, go_sem]) rfl ⟨u6, u7, rfl, hV, hU, hw⟩
set_option maxHeartbeats 2000000 in
theorem spec_l02Split (ds : List Crd) (A : Option Addr) (cap : Nat) (h : Int) (h0 : 0 ≤ h) (h1 : h < 128) (w : World) (hR : Rd encCrd w A ds) (hn : ds.length ≤ 1048576) :
    Calls Tryd.prog 58 #[.slice A ds.length cap, .int .i64 h] w fun e w' => ∃ v u, e = .returned (.tuple #[v, u]) ∧ Ow encCrd 60 w' w.heap.size v (stayTo ds h ds.length) ∧ Ow encCrd 60 w' w.heap.size u (dropTo ds h ds.length) ∧ Ext w w' := by
  have hz1 := stay_zero ds h
  have hz2 := drop_zero ds h
  have hhit := fun k hk => stay_hit (ds := ds) (h := h) (k := k) hk
  have hmiss := fun k hk => stay_miss (ds := ds) (h := h) (k := k) hk
  have hlen := stay_len ds h
  go_enter Tryd.func58, Tryd.ntmps58
  go_wp2
  go_loopg [6, 7, 8] ds.length (fun g v u i wr => ∃ k : Nat, g = ds.length - k ∧ k ≤ ds.length ∧ i = .int .i64 k ∧ Ext w wr ∧ Ow encCrd 60 wr w.heap.size v (stayTo ds h k) ∧ Ow encCrd 60 wr w.heap.size u (dropTo ds h k) ∧ ∀ b, v.ownBlock = some b → u.ownBlock ≠ some b)
  case atStart => exact ⟨0, by omega, by omega, rfl, ((Ext.refl _).alloc _).alloc _, by rw [hz1]; exact (Ow.made0 rfl (Nat.le_refl _)).ext ((Ext.refl _).alloc _), by rw [hz2]; exact Ow.made0 (by simp) (by omega), fun b hb e => by have h1 : w.heap.size = b := Option.some.inj hb; have h2 : w.heap.size + 1 = b := Option.some.inj e; omega⟩
  case round =>
    obtain ⟨k, hg, hk, rfl, hw, hV, hU, hne⟩ := hrel
    by_cases hkl : k < ds.length
    · obtain ⟨b, off, hA, hlt, _⟩ := hR k hkl
      subst hA
      obtain ⟨m0, m1, m2, m3⟩ := (hR.ext hw).crd k hkl
      have hhit := hhit k hkl
      have hmiss := hmiss k hkl
      obtain ⟨l1, l2⟩ := hlen k
      have hca := spec_l01Has ds[k].m h h0 h1
      generalize ds[k] = c at m0 m1 m2 hca hhit hmiss
      generalize stayTo ds h k = ss at hV hhit hmiss l1
      generalize dropTo ds h k = dd at hU hhit hmiss l2
      have hk0 : (0 : Int) ≤ k ∧ (k : Int) < ds.length := ⟨by omega, by omega⟩
      go_wp2_with fail
      refine Calls.mono (hca _) ?_
      rintro e w2 ⟨rfl, hb2⟩
      have hw2 := hw.trans hb2
      have hV2 := hV.ext hb2
      have hU2 := hU.ext hb2
      have hltV := hV2.lt
      have hltU := hU2.lt
      have x0 := hb2.cell m0
      have x1 := hb2.cell m1
      have x2 := hb2.cell m2
      have x3 := Nat.lt_of_lt_of_le m3 hb2.size
      clear hV hU hw hb2 hca m0 m1 m2 m3 hlen
      have hs2 := hw2.size
      cases hh : mhas c.m h with
      | true =>
        obtain ⟨e1, e2⟩ := hhit hh
        have e1 := hd e1
        have e2 := hd e2
        clear hhit hmiss hh
        go_wp2_with (at_builtin; refine wpList_push2 (w0 := w) (base := w.heap.size) (xs := dd) encCrd (by rfl) _ _ 29 (.agg #[.string ⟨#[]⟩, .int .u64 0, .int .u64 0]) 32 (by rfl) Tryd.underlying29 info_Crd (by rfl) (c) (by rfl) (by rfl) (by simp) (hU2) (by have := (hw2 : Ext w _).size; simp at this ⊢; omega) (by omega) (hw2) (by omega) (by omega) ?_)
        intro v3 w3 hO3 hb3 hg3 ho3
        have hV3 := hV2.grown hg3 (by
          cases hv : u6.ownBlock with
          | none => exact .inl rfl
          | some b => exact .inr fun e => hne b hv e.symm)
        have hne3 : ∀ b, u6.ownBlock = some b → v3.ownBlock ≠ some b := fun b hb e => by
          rcases ho3 with h1 | ⟨bb, h1, h2⟩
          · exact hne b hb (h1.symm.trans e)
          · rw [h1] at e
            have := (hltV _ hb).2
            have := Option.some.inj e
            omega
        go_wp2
        go_roundg (ds.length - (k + 1))
        case rel => exact ⟨k + 1, rfl, hkl, by simp, hb3, by rw [e1.out]; exact hV3, by rw [e2.out]; exact hO3, hne3⟩
        case measure => omega
      | false =>
        obtain ⟨e1, e2⟩ := hmiss hh
        have e1 := hd e1
        have e2 := hd e2
        clear hhit hmiss hh
        go_wp2_with (at_builtin; refine wpList_push2 (w0 := w) (base := w.heap.size) (xs := ss) encCrd (by rfl) _ _ 29 (.agg #[.string ⟨#[]⟩, .int .u64 0, .int .u64 0]) 32 (by rfl) Tryd.underlying29 info_Crd (by rfl) (c) (by rfl) (by rfl) (by simp) (hV2) (by have := (hw2 : Ext w _).size; simp at this ⊢; omega) (by omega) (hw2) (by omega) (by omega) ?_)
        intro v3 w3 hO3 hb3 hg3 ho3
        have hU3 := hU2.grown hg3 (by
          cases hv : u7.ownBlock with
          | none => exact .inl rfl
          | some b => exact .inr fun e => hne b e.symm hv)
        have hne3 : ∀ b, v3.ownBlock = some b → u7.ownBlock ≠ some b := fun b hb e => by
          rcases ho3 with h1 | ⟨bb, h1, h2⟩
          · exact hne b (h1.symm.trans hb) e
          · rw [h1] at hb
            have := (hltU _ e).2
            have := Option.some.inj hb
            omega
        go_wp2
        go_roundg (ds.length - (k + 1))
        case rel => exact ⟨k + 1, rfl, hkl, by simp, hb3, by rw [e1.out]; exact hO3, by rw [e2.out]; exact hU3, hne3⟩
        case measure => omega
    · obtain rfl : k = ds.length := by omega
      go_wp2
      refine bodyPost_ret (v := .tuple #[u6, u7]) (by simp [results, Tryd.results58, go_sem]) rfl ⟨u6, u7, rfl, hV, hU, hw⟩
set_option maxHeartbeats 2000000 in
theorem impl_passMany (ds : List Crd) (A : Option Addr) (cap : Nat) (hs : List Int) (B : Option Addr) (cap' : Nat) (w : World) (hR : Rd encCrd w A ds) (hn : ds.length ≤ 1048576) (hS : Rd encI64 w B hs) (hm : hs.length ≤ 1048576) (hin : ∀ h ∈ hs, 0 ≤ h ∧ h < 128) :
    Calls Tryd.prog 38 #[.slice A ds.length cap, .slice B hs.length cap'] w fun e w' => ∃ v, e = .returned v ∧ Ow encCrd 60 w' w.heap.size v (passesF ds hs) ∧ Ext w w' := by
  have htk := fun k hk => passesF_take ds hs k hk
  have hlen := fun k => passes_len ds hs k
  have hz : passesF ds (hs.take 0) = ds := by rw [List.take_zero]; rfl
  have hall : passesF ds (hs.take hs.length) = passesF ds hs := by rw [List.take_length]
  have hst := stay_all
  have hsl := stay_len
  go_enter Tryd.func38, Tryd.ntmps38
  go_wp2_with (at_builtin; refine wpList_addAny (w0 := w) (base := w.heap.size) (xs := []) encCrd (by rfl) _ _ 29 (.agg #[.string ⟨#[]⟩, .int .u64 0, .int .u64 0]) 32 (by rfl) Tryd.underlying29 info_Crd (by rfl) ds A cap (by rfl) (by rfl) (hR.ext ((Ext.refl _).alloc _)) (Ow.made0 rfl (Nat.le_refl _)) (by simp) (Nat.le_refl _) ((Ext.refl _).alloc _) (by simp only [List.length_nil]; omega) (by simp only [List.length_nil]; omega) ?_)
  intro v1 w1 hO1 hb1
  have hO1 : Ow encCrd 60 w1 w.heap.size v1 ds := hO1
  go_wp2
  go_loopg [5, 15] hs.length (fun g v i wr => ∃ k : Nat, g = hs.length - k ∧ k ≤ hs.length ∧ i = .int .i64 k ∧ Ext w wr ∧ Ow encCrd 60 wr w.heap.size v (passesF ds (hs.take k)))
  case atStart => exact ⟨0, by omega, by omega, rfl, hb1, by rw [hz]; exact hO1⟩
  case round =>
    obtain ⟨k, hg, hk, rfl, hw, hO⟩ := hrel
    by_cases hkl : k < hs.length
    · obtain ⟨b, off, hB, hlt, _⟩ := hS k hkl
      subst hB
      have l0 := (hS.ext hw).i64 k hkl
      have l1 := World.block_lt_of_cell? _ _ l0
      dsimp only at l1
      have htk := htk k hkl
      have hl := hlen k
      obtain ⟨g0, g1⟩ := hin _ (List.getElem_mem hkl)
      generalize hs[k] = z at l0 htk g0 g1
      have hk0 : (0 : Int) ≤ k ∧ (k : Int) < hs.length := ⟨by omega, by omega⟩
      obtain ⟨C, c, rfl, hle, _⟩ := hO.slice
      rw [hl] at hO ⊢
      have hcall := fun W (hE : Ext wr W) => impl_split (passesF ds (hs.take k)) C c z g0 g1 W (hO.rdA.ext hE) (by omega)
      rw [hl] at hcall
      obtain ⟨q1, q2⟩ := hsl (passesF ds (hs.take k)) z ds.length
      have hst := hst (passesF ds (hs.take k)) z
      rw [← htk, hl] at hst
      have hst := hd hst
      clear htk hsl hlen hle
      generalize passesF ds (hs.take k) = ps at hcall hO q1 q2 hst
      go_wp2_with fail
      refine Calls.mono (hcall _ (Ext.refl _)) ?_
      rintro e w2 ⟨v2, u2, rfl, hV, hU, hb2⟩
      have hw2 := hw.trans hb2
      obtain ⟨C2, c2, rfl, _, _⟩ := hU.slice
      have hs2 := hw.size
      have hs3 := hb2.size
      go_wp2_with (at_builtin; refine wpList_addAny (w0 := w) (base := w.heap.size) (xs := stayTo ps z ds.length) encCrd (by rfl) _ _ 29 (.agg #[.string ⟨#[]⟩, .int .u64 0, .int .u64 0]) 32 (by rfl) Tryd.underlying29 info_Crd (by rfl) (dropTo ps z ds.length) C2 c2 (by rfl) (by rfl) hU.rdA (hV.lower hs2) (by omega) (Nat.le_refl _) hw2 (by omega) (by omega) ?_)
      intro v3 w3 hO3 hb3
      go_wp2
      go_roundg (hs.length - (k + 1))
      case rel => exact ⟨k + 1, rfl, hkl, by simp, hb3, by rw [← hst.out]; exact hO3⟩
      case measure => omega
    · obtain rfl : k = hs.length := by omega
      rw [hall] at hO
      go_wp2
      go_ret
      exact ⟨_, rfl, hO, hw⟩
set_option maxHeartbeats 2000000 in
theorem spec_l02Many (ds : List Crd) (A : Option Addr) (cap : Nat) (hs : List Int) (B : Option Addr) (cap' : Nat) (w : World) (hR : Rd encCrd w A ds) (hn : ds.length ≤ 1048576) (hS : Rd encI64 w B hs) (hm : hs.length ≤ 1048576) (hin : ∀ h ∈ hs, 0 ≤ h ∧ h < 128) :
    Calls Tryd.prog 33 #[.slice A ds.length cap, .slice B hs.length cap'] w fun e w' => ∃ v, e = .returned v ∧ Ow encCrd 60 w' w.heap.size v (passesF ds hs) ∧ Ext w w' := by
  have htk := fun k hk => passesF_take ds hs k hk
  have hlen := fun k => passes_len ds hs k
  have hz : passesF ds (hs.take 0) = ds := by rw [List.take_zero]; rfl
  have hall : passesF ds (hs.take hs.length) = passesF ds hs := by rw [List.take_length]
  have hst := stay_all
  have hsl := stay_len
  go_enter Tryd.func33, Tryd.ntmps33
  go_wp2_with (at_builtin; refine wpList_addAny (w0 := w) (base := w.heap.size) (xs := []) encCrd (by rfl) _ _ 29 (.agg #[.string ⟨#[]⟩, .int .u64 0, .int .u64 0]) 32 (by rfl) Tryd.underlying29 info_Crd (by rfl) ds A cap (by rfl) (by rfl) (hR.ext ((Ext.refl _).alloc _)) (Ow.made0 rfl (Nat.le_refl _)) (by simp) (Nat.le_refl _) ((Ext.refl _).alloc _) (by simp only [List.length_nil]; omega) (by simp only [List.length_nil]; omega) ?_)
  intro v1 w1 hO1 hb1
  have hO1 : Ow encCrd 60 w1 w.heap.size v1 ds := hO1
  go_wp2
  go_loopg [5, 6] hs.length (fun g v i wr => ∃ k : Nat, g = hs.length - k ∧ k ≤ hs.length ∧ i = .int .i64 k ∧ Ext w wr ∧ Ow encCrd 60 wr w.heap.size v (passesF ds (hs.take k)))
  case atStart => exact ⟨0, by omega, by omega, rfl, hb1, by rw [hz]; exact hO1⟩
  case round =>
    obtain ⟨k, hg, hk, rfl, hw, hO⟩ := hrel
    by_cases hkl : k < hs.length
    · obtain ⟨b, off, hB, hlt, _⟩ := hS k hkl
      subst hB
      have l0 := (hS.ext hw).i64 k hkl
      have l1 := World.block_lt_of_cell? _ _ l0
      dsimp only at l1
      have htk := htk k hkl
      have hl := hlen k
      obtain ⟨g0, g1⟩ := hin _ (List.getElem_mem hkl)
      generalize hs[k] = z at l0 htk g0 g1
      have hk0 : (0 : Int) ≤ k ∧ (k : Int) < hs.length := ⟨by omega, by omega⟩
      obtain ⟨C, c, rfl, hle, _⟩ := hO.slice
      rw [hl] at hO ⊢
      have hcall := fun W (hE : Ext wr W) => spec_l02Split (passesF ds (hs.take k)) C c z g0 g1 W (hO.rdA.ext hE) (by omega)
      rw [hl] at hcall
      obtain ⟨q1, q2⟩ := hsl (passesF ds (hs.take k)) z ds.length
      have hst := hst (passesF ds (hs.take k)) z
      rw [← htk, hl] at hst
      have hst := hd hst
      clear htk hsl hlen hle
      generalize passesF ds (hs.take k) = ps at hcall hO q1 q2 hst
      go_wp2_with fail
      refine Calls.mono (hcall _ (Ext.refl _)) ?_
      rintro e w2 ⟨v2, u2, rfl, hV, hU, hb2⟩
      have hw2 := hw.trans hb2
      obtain ⟨C2, c2, rfl, _, _⟩ := hU.slice
      have hs2 := hw.size
      have hs3 := hb2.size
      go_wp2_with (at_builtin; refine wpList_addAny (w0 := w) (base := w.heap.size) (xs := stayTo ps z ds.length) encCrd (by rfl) _ _ 29 (.agg #[.string ⟨#[]⟩, .int .u64 0, .int .u64 0]) 32 (by rfl) Tryd.underlying29 info_Crd (by rfl) (dropTo ps z ds.length) C2 c2 (by rfl) (by rfl) hU.rdA (hV.lower hs2) (by omega) (Nat.le_refl _) hw2 (by omega) (by omega) ?_)
      intro v3 w3 hO3 hb3
      go_wp2
      go_roundg (hs.length - (k + 1))
      case rel => exact ⟨k + 1, rfl, hkl, by simp, hb3, by rw [← hst.out]; exact hO3⟩
      case measure => omega
    · obtain rfl : k = hs.length := by omega
      rw [hall] at hO
      go_wp2
      go_ret
      exact ⟨_, rfl, hO, hw⟩
end Go.Proofs.YtdlpifgkponnmaaDoor
set_option linter.unusedVariables false
set_option linter.unusedSimpArgs false
set_option maxRecDepth 100000
namespace Go.Proofs.YtdlpifgkponnmaaDoor
open Go.RowKit
def upF (st : Int) (n : Nat) : List Int := (List.range n).map fun j : Nat => st + (j : Int)
def downF (st : Int) (n : Nat) : List Int := (List.range n).map fun j : Nat => st + (n : Int) - 1 - (j : Int)
theorem upF_len (st : Int) (n : Nat) : (upF st n).length = n := by unfold upF; rw [List.length_map, List.length_range]
theorem downF_len (st : Int) (n : Nat) : (downF st n).length = n := by unfold downF; rw [List.length_map, List.length_range]
theorem upF_at (st : Int) (n k : Nat) (h : k < (upF st n).length) : (upF st n)[k] = st + (k : Int) := by simp only [upF, List.getElem_map, List.getElem_range]
theorem downF_at (st : Int) (n k : Nat) (h : k < (downF st n).length) : (downF st n)[k] = st + (n : Int) - 1 - (k : Int) := by simp only [downF, List.getElem_map, List.getElem_range]
theorem upF_take (st : Int) (n k : Nat) (h : k ≤ n) : (upF st n).take k = upF st k := by unfold upF; rw [← List.map_take, List.take_range, Nat.min_eq_left h]
theorem upF_rev (st : Int) (n : Nat) : (upF st n).reverse = downF st n := by
  refine List.ext_getElem (by rw [List.length_reverse, upF_len, downF_len]) (fun k h1 h2 => ?_)
  rw [List.getElem_reverse, upF_at, downF_at, upF_len]
  rw [downF_len] at h2
  omega
def wideF (f : Fld) : Nat := (manyF f.kd f.sz).toNat
def sortN (f : Fld) : Nat := if f.kd = 3 then wideF f - 1 else wideF f
def sortF (f : Fld) : List Int := if f.kd = 0 then upF f.st (sortN f) else downF f.st (sortN f)
theorem wide_bd {f : Fld} (h : fldB f = true) : (wideF f : Int) = manyF f.kd f.sz ∧ 1 ≤ wideF f ∧ 0 ≤ f.st ∧ f.st + (wideF f : Int) ≤ 96 := by
  obtain ⟨_, k0, k3, s0, z0, z1, z2⟩ := fldB_parts h
  have hm : 1 ≤ manyF f.kd f.sz := by unfold manyF; split <;> (try split) <;> (try split) <;> omega
  unfold wideF
  omega
theorem holes_part {f : Fld} (h : fldB f = true) : holesTo (partF f) 96 = upF f.st (wideF f) := by
  obtain ⟨h1, h2, h3, h4⟩ := wide_bd h
  obtain ⟨s, hs⟩ : ∃ s : Nat, f.st = s := ⟨f.st.toNat, by omega⟩
  unfold partF
  rw [← h1, hs, holesTo_range s (wideF f) (by omega) 96, show min (wideF f) (96 - s) = wideF f by omega]
  unfold upF
  refine List.map_congr_left (fun j _ => by omega)
theorem sort_in {f : Fld} (h : fldB f = true) : ∀ z ∈ sortF f, 0 ≤ z ∧ z < 128 := by
  obtain ⟨h1, h2, h3, h4⟩ := wide_bd h
  have hn : sortN f ≤ wideF f := by unfold sortN; split <;> omega
  intro z hz
  unfold sortF at hz
  split at hz
  · obtain ⟨j, hj, rfl⟩ := List.mem_map.1 hz
    have := List.mem_range.1 hj
    omega
  · obtain ⟨j, hj, rfl⟩ := List.mem_map.1 hz
    have := List.mem_range.1 hj
    omega
theorem sort_len {f : Fld} (h : fldB f = true) : (sortF f).length ≤ 96 := by
  obtain ⟨h1, h2, h3, h4⟩ := wide_bd h
  have hn : sortN f ≤ wideF f := by unfold sortN; split <;> omega
  unfold sortF
  split
  · rw [upF_len]; omega
  · rw [downF_len]; omega
theorem all_i64 (xs : List Int) : encI64.all xs = xs.map (Value.int .i64) := by
  unfold Enc.all
  induction xs with
  | nil => rfl
  | cons x xs ih => rw [List.flatMap_cons, ih]; rfl
theorem slices_Reverse1 (xs : List Int) (n : Nat) (hn : n ≤ xs.length) (hx : xs.length ≤ 1048576) (h0 : 0 < xs.length) (A : Option Addr) (cap base : Nat) (w : World) (hO : Ow encI64 2 w base (.slice A xs.length cap) xs) :
    Calls Tryd.prog 68 #[.slice A n cap] w fun e w' => e = .returned (.tuple #[]) ∧ Rd encI64 w' A (xs.take n).reverse ∧ (∀ w0 : World, Ext w0 w → w0.heap.size ≤ base → Ext w0 w') := by
  have hv : Value.slice A xs.length cap ≠ .slice none 0 0 := fun h => by
    have h2 : xs.length = 0 := by injection h
    omega
  have hO2 : w.ownsRow base 2 1 (.slice A xs.length cap) xs.length (xs.map (Value.int .i64)) := by rw [← all_i64]; exact hO
  obtain ⟨g, cap', he, hbg, hgl, hle, hm, _, hH⟩ := Go.Lib.holds_of_ownsRow hO2 hv
  injection he with he1 _ he3
  subst he1
  have hP : Go.Sort.Holds (Value.int .i64) w g 0 (xs.take n).toArray := fun j hj => by
    have hj2 : j < n := by simp at hj; omega
    have := hH j (by simp; omega)
    simpa [hj2, getElem!_pos, show j < xs.length by omega, show j < min n xs.length by omega] using this
  have hD := Tryd.slices_Reverse_int g 0 cap (xs.take n) w hP (by rw [List.length_take]; omega)
  rw [List.length_take, Nat.min_eq_left hn] at hD
  refine hD.mono ?_
  rintro e w' ⟨rfl, q, rfl⟩
  refine ⟨rfl, ?_, fun w0 h0 hb => Go.Lib.below_putRow h0 (Nat.le_trans hb hbg)⟩
  have hP2 : Go.Sort.Holds (Value.int .i64) (Go.Sort.ahead w q) g 0 (xs.take n).toArray := fun j hj => hP j hj
  have hQ := Go.Sort.holds_putRow (Value.int .i64) (Go.Sort.ahead w q) g 0 _ (xs.take n).reverse.toArray hP2 (by simp)
  intro k hk
  have hk2 := hQ k (by simpa using hk)
  refine ⟨g, 0, rfl, World.block_lt_of_cell? _ _ hk2.1, fun j u hu => ?_⟩
  have hj : j = 0 := by
    have := (List.getElem?_eq_some_iff.1 hu).1
    have e1 : (encI64.enc ((xs.take n).reverse[k])).length = 1 := rfl
    omega
  subst hj
  have hu2 : Value.int .i64 ((xs.take n).reverse[k]) = u := by simpa [encI64] using hu
  rw [← hu2]
  have := hk2.1
  simp only [List.getElem!_toArray, getElem!_pos, hk] at this
  simpa [encI64] using this
theorem sort_0 {nm : ByteArray} {st sz : Int} : sortF ⟨nm, 0, st, sz⟩ = upF st (wideF ⟨nm, 0, st, sz⟩) := by unfold sortF sortN; rw [if_pos rfl, if_neg (fun h => by cases h)]
theorem sort_3 {nm : ByteArray} {st sz : Int} : sortF ⟨nm, 3, st, sz⟩ = ((upF st (wideF ⟨nm, 3, st, sz⟩)).take (wideF ⟨nm, 3, st, sz⟩ - 1)).reverse := by
  rw [upF_take _ _ _ (Nat.sub_le _ _), upF_rev]; unfold sortF sortN; rw [if_neg (fun h => by cases h), if_pos rfl]
theorem sort_m {nm : ByteArray} {kd st sz : Int} (h0 : kd ≠ 0) (h3 : kd ≠ 3) : sortF ⟨nm, kd, st, sz⟩ = ((upF st (wideF ⟨nm, kd, st, sz⟩)).take (wideF ⟨nm, kd, st, sz⟩)).reverse := by
  rw [upF_take _ _ _ (Nat.le_refl _), upF_rev]; unfold sortF sortN; rw [if_neg h0, if_neg h3]
set_option maxHeartbeats 2000000 in
theorem impl_sorting (f : Fld) (hf : fldB f = true) (w : World) :
    Calls Tryd.prog 39 #[.agg #[.string f.nm, .int .i8 f.kd, .int .i16 f.st, .int .i16 f.sz]] w fun e w' => ∃ B c, e = .returned (.slice B (sortF f).length c) ∧ Rd encI64 w' B (sortF f) ∧ Ext w w' := by
  have hpa := impl_part f.nm f.kd f.st f.sz hf
  have hho := impl_holes (partF f)
  rw [holes_part hf] at hho
  obtain ⟨h1, h2, h3, h4⟩ := wide_bd hf
  obtain ⟨_, k0, k3, _⟩ := fldB_parts hf
  obtain ⟨nm, kd, st, sz⟩ := f
  dsimp only at hpa k0 k3 h3 h4
  have s0 := sort_0 (nm := nm) (st := st) (sz := sz)
  have s3 := sort_3 (nm := nm) (st := st) (sz := sz)
  have sm := sort_m (nm := nm) (kd := kd) (st := st) (sz := sz)
  have hul := upF_len st (wideF ⟨nm, kd, st, sz⟩)
  have hX : BoxAt (w.alloc (.cells #[.string nm, .int .i8 kd, .int .i16 st, .int .i16 sz] 33)) w.heap.size #[.string nm, .int .i8 kd, .int .i16 st, .int .i16 sz] 33 := BoxAt.new' rfl
  generalize partF ⟨nm, kd, st, sz⟩ = pm at hpa hho
  have hsl : (sortF ⟨nm, kd, st, sz⟩).length = sortN ⟨nm, kd, st, sz⟩ := by unfold sortF; split; exact upF_len _ _; exact downF_len _ _
  have hsn : sortN ⟨nm, kd, st, sz⟩ = if kd = 3 then wideF ⟨nm, kd, st, sz⟩ - 1 else wideF ⟨nm, kd, st, sz⟩ := rfl
  rw [hsl]
  clear hsl
  by_cases e0 : kd = 0
  · subst e0
    rw [s0]
    rw [hsn, if_neg (by decide)]
    clear s0 s3 sm hsn
    generalize wideF ⟨nm, 0, st, sz⟩ = n at *
    go_enter Tryd.func39, Tryd.ntmps39
    go_wp2_with fail
    refine Calls.mono (hpa _) ?_
    rintro e w1 ⟨rfl, hb1⟩
    go_wp2_with fail
    refine Calls.mono (hho _) ?_
    rintro e w2 ⟨v2, rfl, hO2, hb2⟩
    have hw2 := ((Ext.refl w).alloc _).trans (hb1.trans hb2)
    have hX2 := hX.ext (hb1.trans hb2)
    obtain ⟨B, c, rfl, _, hRB⟩ := hO2.slice
    rw [hul]
    have x1 : w2.cell? ⟨w.heap.size, 1, none⟩ = some (.int .i8 0) := hX2.cell 1
    have lX := hX2.lt
    go_wp2
    go_ret
    exact ⟨B, c, rfl, hRB, hw2⟩
  · by_cases e3 : kd = 3
    · subst e3
      rw [s3]
      rw [hsn, if_pos rfl]
      clear s0 s3 sm hsn
      generalize wideF ⟨nm, 3, st, sz⟩ = n at *
      obtain ⟨p, rfl⟩ : ∃ p, n = p + 1 := ⟨n - 1, by omega⟩
      rw [Nat.add_sub_cancel]
      have hrv := fun A c base W => slices_Reverse1 (upF st (p + 1)) p (by omega) (by omega) (by omega) A c base W
      rw [hul] at hrv
      have hp : p ≤ 95 := by omega
      go_enter Tryd.func39, Tryd.ntmps39
      go_wp2_with fail
      refine Calls.mono (hpa _) ?_
      rintro e w1 ⟨rfl, hb1⟩
      go_wp2_with fail
      refine Calls.mono (hho _) ?_
      rintro e w2 ⟨v2, rfl, hO2, hb2⟩
      have hw2 := ((Ext.refl w).alloc _).trans (hb1.trans hb2)
      have hX2 := hX.ext (hb1.trans hb2)
      have hs1 : w.heap.size ≤ w1.heap.size := (((Ext.refl w).alloc _).trans hb1).size
      obtain ⟨B, c, rfl, hlc, _⟩ := hO2.slice
      rw [hul] at hO2 hlc ⊢
      obtain ⟨bB, oB, rfl, _, _⟩ := hO2.rdA 0 (by omega)
      have x1 : w2.cell? ⟨w.heap.size, 1, none⟩ = some (.int .i8 3) := hX2.cell 1
      have lX := hX2.lt
      have hn1 : (p : Int) ≤ c := by omega
      clear h1 h2 k0 k3 hlc hpa hho hX hX2 hb1 hb2
      go_wp2_with fail
      refine Calls.mono (hrv _ _ _ _ hO2) ?_
      rintro e w3 ⟨rfl, hR3, hE3⟩
      have hw3 := hE3 w hw2 hs1
      go_wp2
      go_ret
      exact ⟨_, _, rfl, hR3, hw3⟩
    · rw [sm e0 e3]
      rw [hsn, if_neg e3]
      have g0 : (kd == 0) = false := beq_eq_false_iff_ne.2 e0
      have g3 : (kd == 3) = false := beq_eq_false_iff_ne.2 e3
      clear s0 s3 sm hsn
      generalize wideF ⟨nm, kd, st, sz⟩ = n at *
      have hrv := fun A c base W => slices_Reverse1 (upF st n) n (by omega) (by omega) (by omega) A c base W
      rw [hul] at hrv
      go_enter Tryd.func39, Tryd.ntmps39
      go_wp2_with fail
      refine Calls.mono (hpa _) ?_
      rintro e w1 ⟨rfl, hb1⟩
      go_wp2_with fail
      refine Calls.mono (hho _) ?_
      rintro e w2 ⟨v2, rfl, hO2, hb2⟩
      have hw2 := ((Ext.refl w).alloc _).trans (hb1.trans hb2)
      have hX2 := hX.ext (hb1.trans hb2)
      have hs1 : w.heap.size ≤ w1.heap.size := (((Ext.refl w).alloc _).trans hb1).size
      obtain ⟨B, c, rfl, hlc, _⟩ := hO2.slice
      rw [hul] at hO2 hlc ⊢
      have x1 : w2.cell? ⟨w.heap.size, 1, none⟩ = some (.int .i8 kd) := hX2.cell 1
      have lX := hX2.lt
      go_wp2_with fail
      refine Calls.mono (hrv _ _ _ _ hO2) ?_
      rintro e w3 ⟨rfl, hR3, hE3⟩
      have hw3 := hE3 w hw2 hs1
      go_wp2
      go_ret
      exact ⟨_, _, rfl, hR3, hw3⟩
theorem sort_at {nm : ByteArray} {kd st sz : Int} (k : Nat) (h : k < (sortF ⟨nm, kd, st, sz⟩).length) : (kd = 0 → (sortF ⟨nm, kd, st, sz⟩)[k] = st + (k : Int)) ∧ (kd ≠ 0 → (sortF ⟨nm, kd, st, sz⟩)[k] = st + (sortN ⟨nm, kd, st, sz⟩ : Int) - 1 - (k : Int)) := by
  constructor
  · intro e; simp only [sortF, e, if_true]; exact upF_at _ _ _ _
  · intro e; simp only [sortF, e, if_false]; exact downF_at _ _ _ _
set_option maxHeartbeats 2000000 in
theorem spec_l02Holes (f : Fld) (hf : fldB f = true) (hz0 : -32768 ≤ f.sz) (hz1 : f.sz < 32768) (b o : Nat) (w : World) (hF : FldAt w b o f) :
    Calls Tryd.prog 34 #[.pointer (some ⟨b, o, none⟩)] w fun e w' => ∃ v, e = .returned v ∧ Ow encI64 2 w' w.heap.size v (sortF f) ∧ Ext w w' := by
  have hwi := fun (W : World) (h : FldAt W b o f) => spec_l01Width b o f hz0 hz1 W h
  obtain ⟨h1, h2, h3, h4⟩ := wide_bd hf
  obtain ⟨_, k0, k3, _⟩ := fldB_parts hf
  have hsl : (sortF f).length = sortN f := by unfold sortF; split; exact upF_len _ _; exact downF_len _ _
  have hsn : sortN f = if f.kd = 3 then wideF f - 1 else wideF f := rfl
  have hat : ∀ k (h : k < (sortF f).length), (f.kd = 0 → (sortF f)[k] = f.st + (k : Int)) ∧ (f.kd ≠ 0 → (sortF f)[k] = f.st + (sortN f : Int) - 1 - (k : Int)) := by
    obtain ⟨nm, kd, st, sz⟩ := f
    exact fun k h => sort_at k h
  rw [← h1] at hwi
  have htk : ∀ k (h : k < (sortF f).length), (sortF f).take (k + 1) = (sortF f).take k ++ [(sortF f)[k]] := fun k h => List.take_succ_eq_append_getElem h
  have hall : (sortF f).take (sortF f).length = sortF f := List.take_length
  have hln : ∀ k, ((sortF f).take k).length ≤ k := fun k => by rw [List.length_take]; omega
  generalize hs : sortF f = xs at hat htk hall hsl hln
  generalize hnn : sortN f = n at hat hsl hsn
  generalize wideF f = W0 at *
  obtain ⟨nm, kd, st, sz⟩ := f
  dsimp only at hat hsn k0 k3 h3 h4
  clear hs hnn h1 hf
  obtain ⟨g0, g1, g2, g3⟩ := hF
  dsimp only at g0 g1 g2 g3
  have lS := World.block_lt_of_cell? _ _ g0
  dsimp only at lS
  have hnb : n ≤ 96 := by rw [hsn]; split <;> omega
  go_enter Tryd.func34, Tryd.ntmps34
  go_wp2_with fail
  refine Calls.mono (hwi _ ⟨((Ext.refl w).alloc _).cell g0, ((Ext.refl w).alloc _).cell g1, ((Ext.refl w).alloc _).cell g2, ((Ext.refl w).alloc _).cell g3⟩) ?_
  rintro e w1 ⟨rfl, hb1⟩
  have hw1 := ((Ext.refl w).alloc _).trans hb1
  have hO1 : Ow encI64 2 w1 w.heap.size (.slice (some ⟨w.heap.size, 0, none⟩) 0 0) [] := (Ow.made0 rfl (Nat.le_refl _)).ext hb1
  have c1 := hw1.cell g1
  have l1 := Nat.lt_of_lt_of_le lS hw1.size
  have hn3 : IntKind.i64.wrap ((W0 : Int) - 1) = (W0 : Int) - 1 := IntWalk.i64_in _ (by omega)
  by_cases e3 : kd = 3
  · have q3 : (kd == 3) = true := beq_iff_eq.2 e3
    have q0 : (kd == 0) = false := beq_eq_false_iff_ne.2 (by omega)
    rw [if_pos e3] at hsn
    have hWn : (W0 : Int) - 1 = n := by omega
    have e0 : kd ≠ 0 := by omega
    clear hsn h2 k0 k3 e3 hb1
    go_wp2
    go_loopg [3, 5] n (fun g v i wr => ∃ k : Nat, g = n - k ∧ k ≤ n ∧ i = .int .i64 k ∧ Ext w wr ∧ Ow encI64 2 wr w.heap.size v (xs.take k))
    case atStart => exact ⟨0, by omega, by omega, rfl, hw1, by rw [List.take_zero]; exact hO1⟩
    case round =>
      obtain ⟨k, hg, hk, rfl, hw, hO⟩ := hrel
      by_cases hkl : k < n
      · have d1 := hw.cell g1
        have d2 := hw.cell g2
        have ld := Nat.lt_of_lt_of_le lS hw.size
        have hx := (hat k (by omega)).2 e0
        have htk := htk k (by omega)
        rw [hx] at htk
        have htk := hd htk
        have hl := hln k
        generalize xs.take k = ys at hO htk hl
        clear hx hat hln
        go_wp2_with (at_builtin; refine wpList_push2 (w0 := w) (base := w.heap.size) (xs := ys) encI64 (by rfl) _ _ 49 (.int .i64 0) 8 (by rfl) Tryd.underlying49 info_i64 (by rfl) ((st + (n : Int) - 1 - (k : Int))) (by rfl) (by rfl) (by simp) (hO) (by have := (hw : Ext w _).size; simp at this ⊢; omega) (by omega) (hw) (by omega) (by omega) ?_)
        intro v3 w3 hO3 hb3 hg3 ho3
        go_wp2
        go_roundg (n - (k + 1))
        case rel => exact ⟨k + 1, rfl, hkl, by simp, hb3, by rw [htk.out]; exact hO3⟩
        case measure => omega
      · obtain rfl : k = n := by omega
        rw [← hsl, hall] at hO
        go_wp2
        go_ret
        exact ⟨_, rfl, hO, hw⟩
  · have q3 : (kd == 3) = false := beq_eq_false_iff_ne.2 e3
    rw [if_neg e3] at hsn
    subst hsn
    by_cases e0 : kd = 0
    · have q0 : (kd == 0) = true := beq_iff_eq.2 e0
      clear h2 k0 k3 e3 hb1
      go_wp2
      go_loopg [3, 5] n (fun g v i wr => ∃ k : Nat, g = n - k ∧ k ≤ n ∧ i = .int .i64 k ∧ Ext w wr ∧ Ow encI64 2 wr w.heap.size v (xs.take k))
      case atStart => exact ⟨0, by omega, by omega, rfl, hw1, by rw [List.take_zero]; exact hO1⟩
      case round =>
        obtain ⟨k, hg, hk, rfl, hw, hO⟩ := hrel
        by_cases hkl : k < n
        · have d1 := hw.cell g1
          have d2 := hw.cell g2
          have ld := Nat.lt_of_lt_of_le lS hw.size
          have hx := (hat k (by omega)).1 e0
          have htk := htk k (by omega)
          rw [hx] at htk
          have htk := hd htk
          have hl := hln k
          generalize xs.take k = ys at hO htk hl
          clear hx hat hln
          go_wp2_with (at_builtin; refine wpList_push2 (w0 := w) (base := w.heap.size) (xs := ys) encI64 (by rfl) _ _ 49 (.int .i64 0) 8 (by rfl) Tryd.underlying49 info_i64 (by rfl) ((st + (k : Int))) (by rfl) (by rfl) (by simp) (hO) (by have := (hw : Ext w _).size; simp at this ⊢; omega) (by omega) (hw) (by omega) (by omega) ?_)
          intro v3 w3 hO3 hb3 hg3 ho3
          go_wp2
          go_roundg (n - (k + 1))
          case rel => exact ⟨k + 1, rfl, hkl, by simp, hb3, by rw [htk.out]; exact hO3⟩
          case measure => omega
        · obtain rfl : k = n := by omega
          rw [← hsl, hall] at hO
          go_wp2
          go_ret
          exact ⟨_, rfl, hO, hw⟩
    · have q0 : (kd == 0) = false := beq_eq_false_iff_ne.2 e0
      clear h2 k0 k3 e3 hb1
      go_wp2
      go_loopg [3, 5] n (fun g v i wr => ∃ k : Nat, g = n - k ∧ k ≤ n ∧ i = .int .i64 k ∧ Ext w wr ∧ Ow encI64 2 wr w.heap.size v (xs.take k))
      case atStart => exact ⟨0, by omega, by omega, rfl, hw1, by rw [List.take_zero]; exact hO1⟩
      case round =>
        obtain ⟨k, hg, hk, rfl, hw, hO⟩ := hrel
        by_cases hkl : k < n
        · have d1 := hw.cell g1
          have d2 := hw.cell g2
          have ld := Nat.lt_of_lt_of_le lS hw.size
          have hx := (hat k (by omega)).2 e0
          have htk := htk k (by omega)
          rw [hx] at htk
          have htk := hd htk
          have hl := hln k
          generalize xs.take k = ys at hO htk hl
          clear hx hat hln
          go_wp2_with (at_builtin; refine wpList_push2 (w0 := w) (base := w.heap.size) (xs := ys) encI64 (by rfl) _ _ 49 (.int .i64 0) 8 (by rfl) Tryd.underlying49 info_i64 (by rfl) ((st + (n : Int) - 1 - (k : Int))) (by rfl) (by rfl) (by simp) (hO) (by have := (hw : Ext w _).size; simp at this ⊢; omega) (by omega) (hw) (by omega) (by omega) ?_)
          intro v3 w3 hO3 hb3 hg3 ho3
          go_wp2
          go_roundg (n - (k + 1))
          case rel => exact ⟨k + 1, rfl, hkl, by simp, hb3, by rw [htk.out]; exact hO3⟩
          case measure => omega
        · obtain rfl : k = n := by omega
          rw [← hsl, hall] at hO
          go_wp2
          go_ret
          exact ⟨_, rfl, hO, hw⟩
end Go.Proofs.YtdlpifgkponnmaaDoor
set_option linter.unusedVariables false
set_option linter.unusedSimpArgs false
set_option maxRecDepth 100000
namespace Go.Proofs.YtdlpifgkponnmaaDoor
open Go.RowKit
def sdF (ds : List Crd) (f : Fld) : List Crd × Int := if deckB ds = true ∧ fldB f = true then (passesF ds (sortF f), 0) else ([], 1)
theorem sd_ok {ds : List Crd} {f : Fld} (h : deckB ds = true) (h2 : fldB f = true) : sdF ds f = (passesF ds (sortF f), 0) := by unfold sdF; rw [if_pos ⟨h, h2⟩]
theorem sd_no {ds : List Crd} {f : Fld} (h : deckB ds = false) : sdF ds f = ([], 1) := by unfold sdF; rw [if_neg (fun e => by rw [h] at e; exact absurd e.1 (by decide))]
theorem sd_no2 {ds : List Crd} {f : Fld} (h : fldB f = false) : sdF ds f = ([], 1) := by unfold sdF; rw [if_neg (fun e => by rw [h] at e; exact absurd e.2 (by decide))]
theorem sd_len (ds : List Crd) (f : Fld) (h : ds.length ≤ 1048576) : (sdF ds f).1.length ≤ 1048576 := by
  unfold sdF
  split
  · have := passes_len ds (sortF f) (sortF f).length
    rw [List.take_length] at this
    show (passesF ds (sortF f)).length ≤ _
    omega
  · exact Nat.zero_le _
set_option maxHeartbeats 1000000 in
theorem impl_SortDeck (ds : List Crd) (A : Option Addr) (cap : Nat) (f : Fld) (w : World) (hR : Rd encCrd w A ds) (hcap : ds.length ≤ cap) (hn : ds.length ≤ 1048576) (hok : ∀ c ∈ ds, CrdIn c) (hf : FldIn f) :
    Calls Tryd.prog 12 #[.slice A ds.length cap, .agg #[.string f.nm, .int .i8 f.kd, .int .i16 f.st, .int .i16 f.sz]] w fun e w' => ∃ v, e = .returned (.tuple #[v, .int .i64 (sdF ds f).2]) ∧ Ow encCrd 60 w' w.heap.size v (sdF ds f).1 ∧ Ext w w' := by
  have h1 := fun (W : World) (hE : Ext w W) => impl_isDeck ds A cap W (hR.ext hE) hcap hn hok
  have h2 := fun (W : World) => isField_in f hf W
  have h3 := fun (h : fldB f = true) (W : World) => impl_sorting f h W
  have h4 := fun (h : fldB f = true) (B : Option Addr) (c : Nat) (W : World) (hE : Ext w W) (hS : Rd encI64 W B (sortF f)) => impl_passMany ds A cap (sortF f) B c W (hR.ext hE) hn hS (Nat.le_trans (sort_len h) (by omega)) (sort_in h)
  have k1 := sd_no (ds := ds) (f := f)
  have k2 := sd_no2 (ds := ds) (f := f)
  have k3 := sd_ok (ds := ds) (f := f)
  have hX0 : BoxAt (w.alloc (.cells #[.string f.nm, .int .i8 f.kd, .int .i16 f.st, .int .i16 f.sz] 33)) w.heap.size #[.string f.nm, .int .i8 f.kd, .int .i16 f.st, .int .i16 f.sz] 33 := BoxAt.new' rfl
  have hE0 : Ext w (w.alloc (.cells #[.string f.nm, .int .i8 f.kd, .int .i16 f.st, .int .i16 f.sz] 33)) := (Ext.refl _).alloc _
  obtain ⟨nm, kd, st, sz⟩ := f
  dsimp only at h2 h3 hX0 hE0 ⊢
  cases hd1 : deckB ds with
  | false =>
    have hv := hd (k1 hd1)
    rw [hd1] at h1
    clear k1 k2 k3 h4 h3
    go_enter Tryd.func12, Tryd.ntmps12
    go_wp2_with fail
    refine Calls.mono (h1 _ hE0) ?_
    rintro e w1 ⟨rfl, hb1⟩
    go_wp2
    refine bodyPost_ret (v := .tuple #[.slice none 0 0, .int .i64 1]) (by simp [results, Tryd.results12, go_sem]) rfl ⟨_, by rw [hv.out], by rw [hv.out]; exact Ow.nil _ _ _ _, hE0.trans hb1⟩
  | true =>
    rw [hd1] at h1
    cases hd2 : fldB ⟨nm, kd, st, sz⟩ with
    | false =>
      have hv := hd (k2 hd2)
      rw [hd2] at h2
      clear k1 k2 k3 h4 h3
      go_enter Tryd.func12, Tryd.ntmps12
      go_wp2_with fail
      refine Calls.mono (h1 _ hE0) ?_
      rintro e w1 ⟨rfl, hb1⟩
      have hX := hX0.ext hb1
      have x0 : w1.cell? ⟨w.heap.size, 0, none⟩ = some (.string nm) := hX.cell 0
      have x1 : w1.cell? ⟨w.heap.size, 1, none⟩ = some (.int .i8 kd) := hX.cell 1
      have x2 : w1.cell? ⟨w.heap.size, 2, none⟩ = some (.int .i16 st) := hX.cell 2
      have x3 : w1.cell? ⟨w.heap.size, 3, none⟩ = some (.int .i16 sz) := hX.cell 3
      have lX := hX.lt
      go_wp2_with fail
      refine Calls.mono (h2 _) ?_
      rintro e w2 ⟨rfl, hb2⟩
      go_wp2
      refine bodyPost_ret (v := .tuple #[.slice none 0 0, .int .i64 1]) (by simp [results, Tryd.results12, go_sem]) rfl ⟨_, by rw [hv.out], by rw [hv.out]; exact Ow.nil _ _ _ _, (hE0.trans hb1).trans hb2⟩
    | true =>
      have hv := hd (k3 hd1 hd2)
      rw [hd2] at h2
      replace h3 := h3 hd2
      replace h4 := h4 hd2
      clear k1 k2 k3
      go_enter Tryd.func12, Tryd.ntmps12
      go_wp2_with fail
      refine Calls.mono (h1 _ hE0) ?_
      rintro e w1 ⟨rfl, hb1⟩
      have hX := hX0.ext hb1
      have x0 : w1.cell? ⟨w.heap.size, 0, none⟩ = some (.string nm) := hX.cell 0
      have x1 : w1.cell? ⟨w.heap.size, 1, none⟩ = some (.int .i8 kd) := hX.cell 1
      have x2 : w1.cell? ⟨w.heap.size, 2, none⟩ = some (.int .i16 st) := hX.cell 2
      have x3 : w1.cell? ⟨w.heap.size, 3, none⟩ = some (.int .i16 sz) := hX.cell 3
      have lX := hX.lt
      go_wp2_with fail
      refine Calls.mono (h2 _) ?_
      rintro e w2 ⟨rfl, hb2⟩
      have hw2 := (hE0.trans hb1).trans hb2
      replace hX := hX.ext hb2
      clear x0 x1 x2 x3 lX
      have x0 : w2.cell? ⟨w.heap.size, 0, none⟩ = some (.string nm) := hX.cell 0
      have x1 : w2.cell? ⟨w.heap.size, 1, none⟩ = some (.int .i8 kd) := hX.cell 1
      have x2 : w2.cell? ⟨w.heap.size, 2, none⟩ = some (.int .i16 st) := hX.cell 2
      have x3 : w2.cell? ⟨w.heap.size, 3, none⟩ = some (.int .i16 sz) := hX.cell 3
      have lX := hX.lt
      go_wp2_with fail
      refine Calls.mono (h3 _) ?_
      rintro e w3 ⟨B, c, rfl, hRB, hb3⟩
      have hw3 := hw2.trans hb3
      go_wp2_with fail
      refine Calls.mono (h4 B c _ hw3 hRB) ?_
      rintro e w4 ⟨v4, rfl, hO4, hb4⟩
      have hs3 := hw3.size
      go_wp2
      refine bodyPost_ret (v := .tuple #[v4, .int .i64 0]) (by simp [results, Tryd.results12, go_sem]) rfl ⟨_, by rw [hv.out], by rw [hv.out]; exact hO4.lower hs3, hw3.trans hb4⟩
set_option maxHeartbeats 1000000 in
theorem spec_SortDeck (ds : List Crd) (A : Option Addr) (cap : Nat) (f : Fld) (w : World) (hR : Rd encCrd w A ds) (hn : ds.length ≤ 1048576) (hok : ∀ c ∈ ds, CrdIn c) (hf : FldIn f) :
    Calls Tryd.prog 9 #[.slice A ds.length cap, .agg #[.string f.nm, .int .i8 f.kd, .int .i16 f.st, .int .i16 f.sz]] w fun e w' => ∃ v, e = .returned (.tuple #[v, .int .i64 (sdF ds f).2]) ∧ Ow encCrd 60 w' w.heap.size v (sdF ds f).1 ∧ Ext w w' := by
  have hF0 : ∀ W, BoxAt W w.heap.size #[.string f.nm, .int .i8 f.kd, .int .i16 f.st, .int .i16 f.sz] 33 → FldAt W w.heap.size 0 f := fun W h => ⟨h.cell 0, h.cell 1, h.cell 2, h.cell 3⟩
  have h1 := fun (W : World) (hE : Ext w W) => spec_l02Ok ds A cap W (hR.ext hE) hn hok
  have h2 := fun (W : World) (h : FldAt W w.heap.size 0 f) => l01Field_in f hf w.heap.size 0 W h
  have h3 := fun (h : fldB f = true) (W : World) (hF : FldAt W w.heap.size 0 f) => spec_l02Holes f h hf.1.2.2.1 hf.1.2.2.2 w.heap.size 0 W hF
  have h4 := fun (h : fldB f = true) (B : Option Addr) (c : Nat) (W : World) (hE : Ext w W) (hS : Rd encI64 W B (sortF f)) => spec_l02Many ds A cap (sortF f) B c W (hR.ext hE) hn hS (Nat.le_trans (sort_len h) (by omega)) (sort_in h)
  have k1 := sd_no (ds := ds) (f := f)
  have k2 := sd_no2 (ds := ds) (f := f)
  have k3 := sd_ok (ds := ds) (f := f)
  have hX0 : BoxAt (w.alloc (.cells #[.string f.nm, .int .i8 f.kd, .int .i16 f.st, .int .i16 f.sz] 33)) w.heap.size #[.string f.nm, .int .i8 f.kd, .int .i16 f.st, .int .i16 f.sz] 33 := BoxAt.new' rfl
  have hE0 : Ext w (w.alloc (.cells #[.string f.nm, .int .i8 f.kd, .int .i16 f.st, .int .i16 f.sz] 33)) := (Ext.refl _).alloc _
  cases hd1 : deckB ds with
  | false =>
    have hv := hd (k1 hd1)
    rw [hd1] at h1
    clear k1 k2 k3 h4 h3
    go_enter Tryd.func9, Tryd.ntmps9
    go_wp2_with fail
    refine Calls.mono (h1 _ hE0) ?_
    rintro e w1 ⟨rfl, hb1⟩
    go_wp2
    refine bodyPost_ret (v := .tuple #[.slice (some ⟨w1.heap.size, 0, none⟩) 0 0, .int .i64 1]) (by simp [results, Tryd.results9, go_sem]) rfl ⟨_, by rw [hv.out], by rw [hv.out]; exact Ow.made0 rfl (hE0.trans hb1).size, (hE0.trans hb1).alloc _⟩
  | true =>
    rw [hd1] at h1
    cases hd2 : fldB f with
    | false =>
      have hv := hd (k2 hd2)
      rw [hd2] at h2
      clear k1 k2 k3 h4 h3
      go_enter Tryd.func9, Tryd.ntmps9
      go_wp2_with fail
      refine Calls.mono (h1 _ hE0) ?_
      rintro e w1 ⟨rfl, hb1⟩
      go_wp2_with fail
      refine Calls.mono (h2 _ (hF0 _ (hX0.ext hb1))) ?_
      rintro e w2 ⟨rfl, hb2⟩
      go_wp2
      refine bodyPost_ret (v := .tuple #[.slice (some ⟨w2.heap.size, 0, none⟩) 0 0, .int .i64 1]) (by simp [results, Tryd.results9, go_sem]) rfl ⟨_, by rw [hv.out], by rw [hv.out]; exact Ow.made0 rfl ((hE0.trans hb1).trans hb2).size, ((hE0.trans hb1).trans hb2).alloc _⟩
    | true =>
      have hv := hd (k3 hd1 hd2)
      rw [hd2] at h2
      replace h3 := h3 hd2
      replace h4 := h4 hd2
      clear k1 k2 k3
      go_enter Tryd.func9, Tryd.ntmps9
      go_wp2_with fail
      refine Calls.mono (h1 _ hE0) ?_
      rintro e w1 ⟨rfl, hb1⟩
      go_wp2_with fail
      refine Calls.mono (h2 _ (hF0 _ (hX0.ext hb1))) ?_
      rintro e w2 ⟨rfl, hb2⟩
      have hw2 := (hE0.trans hb1).trans hb2
      go_wp2_with fail
      refine Calls.mono (h3 _ (hF0 _ ((hX0.ext hb1).ext hb2))) ?_
      rintro e w3 ⟨v3, rfl, hO3, hb3⟩
      obtain ⟨B, c, rfl, _, hRB⟩ := hO3.slice
      have hw3 := hw2.trans hb3
      have hs3 := hw3.size
      go_wp2_with fail
      refine Calls.mono (h4 B c _ hw3 hRB) ?_
      rintro e w4 ⟨v4, rfl, hO4, hb4⟩
      go_wp2
      refine bodyPost_ret (v := .tuple #[v4, .int .i64 0]) (by simp [results, Tryd.results9, go_sem]) rfl ⟨_, by rw [hv.out], by rw [hv.out]; exact hO4.lower hs3, hw3.trans hb4⟩
end Go.Proofs.YtdlpifgkponnmaaDoor
set_option linter.unusedVariables false
set_option linter.unusedSimpArgs false
set_option maxRecDepth 100000
namespace Go.Proofs.YtdlpifgkponnmaaDoor
open Go.RowKit
def markC (k : Nat) : Crd := ⟨markS k, mof ((k : Int) + 1) ((k : Int) + 1 + 1)⟩
/-- The marked cards from k on, n of them. -/
def upCr (k : Nat) : Nat → List Crd
  | 0 => []
  | n + 1 => markC k :: upCr (k + 3) n
theorem upCr_len : ∀ (n k : Nat), (upCr k n).length = n
  | 0, _ => rfl
  | n + 1, k => by rw [upCr, List.length_cons, upCr_len n]
theorem upCr_get : ∀ (n k i : Nat) (h : i < (upCr k n).length), (upCr k n)[i] = markC (k + 3 * i)
  | 0, _, _, h => by simp [upCr] at h
  | n + 1, k, 0, _ => rfl
  | n + 1, k, i + 1, h => by
    show (upCr (k + 3) n)[i]'_ = _
    rw [upCr_get n (k + 3) i, show k + 3 + 3 * i = k + 3 * (i + 1) by omega]
theorem upCr_snoc : ∀ (n k : Nat), upCr k (n + 1) = upCr k n ++ [markC (k + 3 * n)]
  | 0, _ => rfl
  | n + 1, k => by
    rw [upCr, upCr_snoc n (k + 3), show k + 3 + 3 * n = k + 3 * (n + 1) by omega]
    rfl
def markCTo (xs : List Crd) (k i : Nat) : List Crd := (upCr k i) ++ xs.drop i
theorem markCTo_len (xs : List Crd) (k i : Nat) (h : i ≤ xs.length) : (markCTo xs k i).length = xs.length := by
  unfold markCTo
  rw [List.length_append, upCr_len, List.length_drop]
  omega
theorem markCTo_set (xs : List Crd) (k i : Nat) (h : i < xs.length) : (markCTo xs k i).set i (markC (k + 3 * i)) = markCTo xs k (i + 1) := by
  unfold markCTo
  rw [List.set_append_right _ _ (by rw [upCr_len]; omega), upCr_len, Nat.sub_self, List.drop_eq_getElem_cons h, List.set_cons_zero, upCr_snoc, List.append_assoc]
  rfl
theorem markCTo_all (xs : List Crd) (k : Nat) : markCTo xs k xs.length = upCr k xs.length := by
  unfold markCTo
  rw [List.drop_length, List.append_nil]
set_option maxHeartbeats 1000000 in
theorem laws_markCardM (xs : List Crd) (v : Value) (k base : Nat) (w : World) (hO : Ow encCrd 60 w base v xs) (hn : xs.length ≤ 1048576) (hk : k ≤ 10000000) :
    Calls Tryd.prog 14 #[v, .int .i64 k] w fun e w' => e = .returned (.int .i64 ((k : Int) + 3 * xs.length)) ∧ Ow encCrd 60 w' base v (upCr k xs.length) ∧ w.grownBy w' v.ownBlock := by
  rcases hO.shape with ⟨rfl, rfl⟩ | ⟨g, cap, rfl, hg, hgl⟩
  · go_enter Tryd.func14, Tryd.ntmps14
    go_wp2
    refine wp_loop_rounds 1 ?_
    rw [rounds_succ]
    go_wp2
    go_ret
    exact ⟨by simp, Ow.nil _ _ _ _, grownBy_refl _ _⟩
  · rw [← markCTo_all]
    go_enter Tryd.func14, Tryd.ntmps14
    go_wp2
    go_loopg [5, 1] xs.length (fun g' i m wr => ∃ (j q : Nat), g' = xs.length - j ∧ j ≤ xs.length ∧ i = .int .i64 j ∧ m = .int .i64 q ∧ q = k + 3 * j ∧ Ow encCrd 60 wr base (.slice (some ⟨g, 0, none⟩) xs.length cap) (markCTo xs k j) ∧ w.grownBy wr (some g))
    case atStart => exact ⟨0, k, by omega, by omega, rfl, rfl, rfl, by unfold markCTo upCr; exact hO, grownBy_refl _ _⟩
    case round =>
      obtain ⟨j, q, hg', hj, rfl, rfl, hq, hO', hgr⟩ := hrel
      have hys := markCTo_len xs k j hj
      by_cases hjl : j < xs.length
      · have hset := markCTo_set xs k j hjl
        rw [← hq] at hset
        have hset := hd hset
        have hq2 := hd hq
        have hqb : q ≤ 100000000 := by omega
        generalize markCTo xs k j = ys at hO' hys hset
        have hjy : j < ys.length := by omega
        clear hq hys
        go_wp2_with fail
        refine Calls.mono (laws_markText q (by omega) _) ?_
        rintro e w1 ⟨rfl, hb1⟩
        have hO1 := hO'.ext hb1
        have hgr1 := grownBy_ext hgr hb1
        clear hO' hgr hb1
        obtain ⟨c0, c1, c2, hbl⟩ := hO1.rd.crd j hjy
        simp only [Nat.zero_add] at c0 c1 c2
        have f0 := hO1.frozen (j * 3)
        have f1 := hO1.frozen (j * 3 + 1)
        have f2 := hO1.frozen (j * 3 + 2)
        have wq1 : IntKind.u64.wrap ((q : Int) + 1) = (q : Int) + 1 := IntWalk.u64_in _ (by omega)
        have wq2 : IntKind.u64.wrap ((q : Int) + 1 + 1) = (q : Int) + 1 + 1 := IntWalk.u64_in _ (by omega)
        have z0 := hO1.set1 j 0 (.string (markS q)) ⟨markS q, ys[j].m⟩ hjy (by decide) rfl
        have hm1 : lo (mof ((q : Int) + 1) (hi ys[j].m)) = (q : Int) + 1 := lo_mof (by omega) (by omega) (hi_ge _) (hi_lt _)
        have hm2 : hi (mof ((q : Int) + 1) (hi ys[j].m)) = hi ys[j].m := hi_mof (by omega) (by omega) (hi_ge _) (hi_lt _)
        have hm3 : lo (mof ((q : Int) + 1) ((q : Int) + 1 + 1)) = (q : Int) + 1 := lo_mof (by omega) (by omega) (by omega) (by omega)
        have hm4 : hi (mof ((q : Int) + 1) ((q : Int) + 1 + 1)) = (q : Int) + 1 + 1 := hi_mof (by omega) (by omega) (by omega) (by omega)
        have z1 := z0.set1 j 1 (.int .u64 ((q : Int) + 1)) ⟨markS q, mof ((q : Int) + 1) (hi ys[j].m)⟩ (by rw [List.length_set]; exact hjy) (by decide) (by rw [List.getElem_set_self]; simp only [encCrd]; rw [hm1, hm2]; rfl)
        have z2 := z1.set1 j 2 (.int .u64 ((q : Int) + 1 + 1)) (markC q) (by rw [List.length_set, List.length_set]; exact hjy) (by decide) (by rw [List.getElem_set_self]; simp only [encCrd, markC]; rw [hm1, hm2, hm3, hm4]; rfl)
        rw [List.set_set, List.set_set, show j * encCrd.sz + 0 = j * 3 from rfl, show j * encCrd.sz + 1 = j * 3 + 1 from rfl, show j * encCrd.sz + 2 = j * 3 + 2 from rfl] at z2
        have g2 := grownBy_set (grownBy_set (grownBy_set hgr1 (j * 3) (.string (markS q))) (j * 3 + 1) (.int .u64 ((q : Int) + 1))) (j * 3 + 2) (.int .u64 ((q : Int) + 1 + 1))
        clear z0 z1 hO1 hgr1 hm1 hm2 hm3 hm4
        go_wp2
        refine wp_loop_rounds 3 ?_
        rw [rounds_succ]
        go_wp2
        rw [rounds_succ]
        go_wp2
        rw [rounds_succ]
        go_wp2
        go_roundg (xs.length - (j + 1))
        case rel => exact ⟨j + 1, q + 3, rfl, hjl, rfl, by rw [show ((q + 3 : Nat) : Int) = (q : Int) + 1 + 1 + 1 by omega], by rw [hq2.out]; omega, by rw [← hset.out]; exact z2, g2⟩
        case measure => omega
      · obtain rfl : j = xs.length := by omega
        subst hq
        go_wp2
        go_ret
        exact ⟨by simp, hO', hgr⟩
set_option maxHeartbeats 1000000 in
theorem laws_heldCardS (n : Nat) (A : Option Addr) (cap : Nat) (k : Nat) (w : World) (hR : Rd encCrd w A (upCr k n)) (hn : n ≤ 1048576) (hk : k ≤ 1048576) :
    Calls Tryd.prog 15 #[.slice A n cap, .int .i64 k] w fun e w' => e = .returned (.int .i64 ((k : Int) + 3 * n)) ∧ Ext w w' := by
  have hx := @ExtOf.cell
  go_enter Tryd.func15, Tryd.ntmps15
  go_wp2
  go_loopg [5, 1] n (fun g' i m wr => ∃ j q : Nat, g' = n - j ∧ j ≤ n ∧ i = .int .i64 j ∧ m = .int .i64 q ∧ q = k + 3 * j ∧ Ext w wr)
  case atStart => exact ⟨0, k, by omega, by omega, rfl, rfl, rfl, Ext.refl _⟩
  case round =>
    obtain ⟨j, q, hg', hj, rfl, rfl, hq, hw⟩ := hrel
    by_cases hjl : j < n
    · have hjx : j < (upCr k n).length := by rw [upCr_len]; exact hjl
      obtain ⟨b, off, hA, hlt, _⟩ := hR j hjx
      subst hA
      obtain ⟨c0, c1, c2, hbl⟩ := (hR.ext hw).crd j hjx
      rw [upCr_get n k j hjx, ← hq] at c0 c1 c2
      have hq2 := hd hq
      have hqb : q ≤ 100000000 := by omega
      clear hq
      have hm3 : lo (mof ((q : Int) + 1) ((q : Int) + 1 + 1)) = (q : Int) + 1 := lo_mof (by omega) (by omega) (by omega) (by omega)
      have hm4 : hi (mof ((q : Int) + 1) ((q : Int) + 1 + 1)) = (q : Int) + 1 + 1 := hi_mof (by omega) (by omega) (by omega) (by omega)
      unfold markC at c0 c1 c2
      dsimp only at c0 c1 c2
      rw [hm3] at c1
      rw [hm4] at c2
      clear hm3 hm4
      have wq1 : IntKind.u64.wrap ((q : Int) + 1) = (q : Int) + 1 := IntWalk.u64_in _ (by omega)
      have wq2 : IntKind.u64.wrap ((q : Int) + 1 + 1) = (q : Int) + 1 + 1 := IntWalk.u64_in _ (by omega)
      have hmt := fun W => laws_markText q (by omega) W
      generalize markS q = t at c0 hmt
      go_wp2
      refine wp_region_ext (by kernel_rfl) (by kernel_rfl) ?_
      repeat (first | go_big_quiet_step (((go_at_call 41; with_reducible exact Calls.ext_all (fun W _ => hmt W)))) | quiet_step (((go_at_call 41; with_reducible exact Calls.ext_all (fun W _ => hmt W)))))
      refine wpQuiet_nil ?_
      intro w7 hq7
      have hb7 := ext_of_class hq7
      clear hq7
      obtain ⟨hc7, hf7, hz7⟩ := bcell3 hb7
      try simp at hz7
      have d1 := hb7.cell c1
      have d2 := hb7.cell c2
      have dl := Nat.lt_of_lt_of_le hbl hb7.size
      have hw7 := hw.trans hb7
      clear hc7 hf7 hz7 hb7 c0 c1 c2 hbl hmt
      go_wp2
      refine wp_loop_rounds 3 ?_
      rw [rounds_succ]
      go_wp2
      rw [rounds_succ]
      go_wp2
      rw [rounds_succ]
      go_wp2
      go_roundg (n - (j + 1))
      case rel => exact ⟨j + 1, q + 3, rfl, hjl, rfl, by rw [show ((q + 3 : Nat) : Int) = (q : Int) + 1 + 1 + 1 by omega], by rw [hq2.out]; omega, hw7⟩
      case measure => omega
    · obtain rfl : j = n := by omega
      subst hq
      go_wp2
      go_ret
      exact ⟨by simp, hw⟩
end Go.Proofs.YtdlpifgkponnmaaDoor
set_option linter.unusedVariables false
set_option linter.unusedSimpArgs false
set_option maxRecDepth 100000
namespace Go.Proofs.YtdlpifgkponnmaaDoor
open Go.RowKit
def bitN (m : Mask) (h : Int) : Nat := if mhas m h = true then 1 else 0
theorem bitN_hit {m : Mask} {h : Int} (e : mhas m h = true) : bitN m h = 1 := if_pos e
theorem bitN_miss {m : Mask} {h : Int} (e : mhas m h = false) : bitN m h = 0 := by unfold bitN; rw [e]; rfl
/-- The key: the first hole counts one, each further one twice as much. -/
def keyV (m : Mask) : List Int → Nat
  | [] => 0
  | h :: hs => 2 * keyV m hs + bitN m h
def keyN (m : Mask) (hs : List Int) : Nat → Nat
  | 0 => 0
  | k + 1 => keyN m hs k + 2 ^ k * bitN m (hs.getD k 0)
theorem keyN_split (m : Mask) (hs : List Int) : ∀ k, k ≤ hs.length → keyN m hs k + 2 ^ k * keyV m (hs.drop k) = keyV m hs
  | 0, _ => by rw [keyN, List.drop_zero]; omega
  | k + 1, h => by
    rw [← keyN_split m hs k (by omega), keyN, List.drop_eq_getElem_cons (i := k) (by omega), keyV, List.getD, List.getElem?_eq_getElem (by omega), Nat.pow_succ]
    simp only [Option.getD_some, Nat.mul_add]
    rw [show 2 ^ k * (2 * keyV m (List.drop (k + 1) hs)) = 2 ^ k * 2 * keyV m (List.drop (k + 1) hs) by rw [Nat.mul_assoc]]
    omega
theorem keyN_all (m : Mask) (hs : List Int) : keyN m hs hs.length = keyV m hs := by
  have := keyN_split m hs hs.length (Nat.le_refl _)
  rw [List.drop_length] at this
  simpa [keyV] using this
theorem bitN_le (m : Mask) (h : Int) : bitN m h ≤ 1 := by unfold bitN; split <;> omega
theorem keyN_lt (m : Mask) (hs : List Int) : ∀ k, keyN m hs k < 2 ^ k
  | 0 => by rw [keyN]; decide
  | k + 1 => by
    have h1 := keyN_lt m hs k
    have h2 := bitN_le m (hs.getD k 0)
    rw [keyN, Nat.pow_succ]
    have : 2 ^ k * bitN m (hs.getD k 0) ≤ 2 ^ k * 1 := Nat.mul_le_mul_left _ h2
    omega
theorem keyV_drop (m : Mask) (hs : List Int) (k : Nat) (h : k < hs.length) : keyV m (hs.drop k) = 2 * keyV m (hs.drop (k + 1)) + bitN m hs[k] := by
  rw [List.drop_eq_getElem_cons h, keyV]
theorem keyV_lt (m : Mask) : ∀ hs : List Int, keyV m hs < 2 ^ hs.length
  | [] => by rw [keyV, List.length_nil]; decide
  | h :: hs => by
    have h1 := keyV_lt m hs
    have h2 := bitN_le m h
    rw [keyV, List.length_cons, Nat.pow_succ]
    omega
theorem keyN_hit {m : Mask} {hs : List Int} {k : Nat} (hk : k < hs.length) (e : mhas m hs[k] = true) : keyN m hs (k + 1) = keyN m hs k + 2 ^ k := by
  rw [keyN, List.getD, List.getElem?_eq_getElem hk, Option.getD_some, bitN_hit e, Nat.mul_one]
theorem keyN_miss {m : Mask} {hs : List Int} {k : Nat} (hk : k < hs.length) (e : mhas m hs[k] = false) : keyN m hs (k + 1) = keyN m hs k := by
  rw [keyN, List.getD, List.getElem?_eq_getElem hk, Option.getD_some, bitN_miss e, Nat.mul_zero, Nat.add_zero]
def keyF (f : Fld) (m : Mask) : Nat := keyV m (sortF f)
theorem sort_24 {f : Fld} (h : fldB f = true) : (sortF f).length ≤ 60 := by
  obtain ⟨h1, h2, h3, h4⟩ := wide_bd h
  obtain ⟨_, k0, k3, s0, z0, z1, z2⟩ := fldB_parts h
  have hn : sortN f ≤ wideF f := by unfold sortN; split <;> omega
  have hw : (wideF f : Int) ≤ 60 := by
    rw [h1]
    unfold mostSz at z1
    unfold manyF
    split <;> rename_i e1
    · rw [e1] at z1; simp at z1; omega
    · split <;> rename_i e2
      · rw [e2] at z1; simp at z1; omega
      · split <;> rename_i e3
        · rw [e3] at z1; simp at z1; omega
        · have e0 : f.kd = 0 := by omega
          rw [e0] at z1; simp at z1; omega
  unfold sortF
  split
  · rw [upF_len]; omega
  · rw [downF_len]; omega
open Go.Lib in
theorem or_i64 (q k : Nat) (hk : k ≤ 61) (h : q < 2 ^ k) : bits .or .i64 (q : Int) (wrap64 (2 ^ k)) = ((q + 2 ^ k : Nat) : Int) := by
  have hp : 2 ^ k ≤ 2 ^ 61 := Nat.pow_le_pow_right (by decide) hk
  have e1 : (2 : Int) ^ k = ((2 ^ k : Nat) : Int) := by simp
  rw [e1]
  generalize hP : 2 ^ k = P at *
  have e2 : wrap64 (P : Int) = (P : Int) := by unfold wrap64; omega
  rw [e2]
  show IntKind.i64.wrap ((BitVec.ofInt 64 (q : Int) ||| BitVec.ofInt 64 (P : Int)).toNat : Int) = _
  have e3 : q ||| P = q + P := by
    have := Nat.two_pow_add_eq_or_of_lt (i := k) (b := q) (by rw [hP]; exact h) 1
    rw [hP, Nat.mul_one] at this
    rw [Nat.or_comm, ← this, Nat.add_comm]
  rw [BitVec.toNat_or, ofInt_u64 q (by omega), ofInt_u64 P (by omega), e3]
  exact wrap_i64_small _ (by omega)
set_option maxHeartbeats 2000000 in
theorem impl_key (f : Fld) (hf : fldB f = true) (m : Mask) (w : World) :
    Calls Tryd.prog 45 #[.agg #[.string f.nm, .int .i8 f.kd, .int .i16 f.st, .int .i16 f.sz], .agg #[.int .u64 (lo m), .int .u64 (hi m)]] w fun e w' => e = .returned (.int .i64 (keyF f m)) ∧ Ext w w' := by
  have hso := fun (W : World) => impl_sorting f hf W
  have hin := sort_in hf
  have h24 := sort_24 hf
  have hall : keyN m (sortF f) (sortF f).length = keyF f m := keyN_all m (sortF f)
  have hz : keyN m (sortF f) 0 = 0 := rfl
  have hhit := fun k h => keyN_hit (m := m) (hs := sortF f) (k := k) h
  have hmiss := fun k h => keyN_miss (m := m) (hs := sortF f) (k := k) h
  have hlt := keyN_lt m (sortF f)
  generalize keyF f m = K at hall ⊢
  generalize sortF f = hs at hso hin h24 hall hz hhit hmiss hlt
  obtain ⟨nm, kd, st, sz⟩ := f
  dsimp only at hso ⊢
  have hM : BoxAt ((w.alloc (.cells #[.string nm, .int .i8 kd, .int .i16 st, .int .i16 sz] 33)).alloc (.cells #[.int .u64 (lo m), .int .u64 (hi m)] 58)) (w.heap.size + 1) #[.int .u64 (lo m), .int .u64 (hi m)] 58 := BoxAt.new' (by simp)
  have hE0 : Ext w ((w.alloc (.cells #[.string nm, .int .i8 kd, .int .i16 st, .int .i16 sz] 33)).alloc (.cells #[.int .u64 (lo m), .int .u64 (hi m)] 58)) := ((Ext.refl _).alloc _).alloc _
  go_enter Tryd.func45, Tryd.ntmps45
  go_wp2_with fail
  refine Calls.mono (hso _) ?_
  rintro e w1 ⟨B, c, rfl, hRB, hb1⟩
  have hw1 := hE0.trans hb1
  replace hM := hM.ext hb1
  clear hb1 hE0 hso
  go_wp2
  go_loopg [5, 11] hs.length (fun g v i wr => ∃ k q : Nat, g = hs.length - k ∧ k ≤ hs.length ∧ i = .int .i64 k ∧ v = .int .i64 q ∧ Hd (keyN m hs k = q) ∧ Ext w1 wr)
  case atStart => exact ⟨0, 0, by omega, by omega, rfl, rfl, hd hz, Ext.refl _⟩
  case round =>
    obtain ⟨k, q, hg, hk, rfl, rfl, hQ, hw⟩ := hrel
    by_cases hkl : k < hs.length
    · obtain ⟨b, off, hB, hltB, _⟩ := hRB k hkl
      subst hB
      have l0 := (hRB.ext hw).i64 k hkl
      have l1 := World.block_lt_of_cell? _ _ l0
      dsimp only at l1
      obtain ⟨g0, g1⟩ := hin _ (List.getElem_mem hkl)
      have hhit := hhit k hkl
      have hmiss := hmiss k hkl
      have hl := hlt k
      rw [hQ.out] at hhit hmiss hl
      have hca := fun W => impl_has m hs[k] g0 g1 W
      have hMr := hM.ext hw
      have x0 : wr.cell? ⟨w.heap.size + 1, 0, none⟩ = some (.int .u64 (lo m)) := hMr.cell 0
      have x1 : wr.cell? ⟨w.heap.size + 1, 1, none⟩ = some (.int .u64 (hi m)) := hMr.cell 1
      have lM := hMr.lt
      generalize hs[k] = z at l0 hca hhit hmiss g0 g1
      go_wp2_with fail
      refine Calls.mono (hca _) ?_
      rintro e w2 ⟨rfl, hb2⟩
      have hw2 := hw.trans hb2
      clear x0 x1 lM l0 l1 hlt
      cases hh : mhas m z with
      | true =>
        have hQ2 := hd (hhit hh)
        have hor := or_i64 q k (by omega) hl
        clear hhit hmiss hh
        generalize 2 ^ k = P at hQ2 hor
        go_wp2
        go_roundg (hs.length - (k + 1))
        case rel => exact ⟨k + 1, q + P, rfl, hkl, by simp, by simp, hQ2, hw2⟩
        case measure => omega
      | false =>
        have hQ2 := hd (hmiss hh)
        clear hhit hmiss hh
        go_wp2
        go_roundg (hs.length - (k + 1))
        case rel => exact ⟨k + 1, q, rfl, hkl, by simp, rfl, hQ2, hw2⟩
        case measure => omega
    · obtain rfl : k = hs.length := by omega
      have hv := hQ.out.symm.trans hall
      subst hv
      go_wp2
      go_ret
      exact ⟨rfl, hw1.trans hw⟩
set_option maxHeartbeats 2000000 in
theorem spec_l02Key (f : Fld) (hf : fldB f = true) (hz0 : -32768 ≤ f.sz) (hz1 : f.sz < 32768) (m : Mask) (b o : Nat) (w : World) (hF : FldAt w b o f) :
    Calls Tryd.prog 43 #[.pointer (some ⟨b, o, none⟩), .agg #[.int .u64 (lo m), .int .u64 (hi m)]] w fun e w' => e = .returned (.int .i64 (keyF f m)) ∧ Ext w w' := by
  have hx := @ExtOf.cell
  have hso := fun (W : World) (hE : Ext w W) => spec_l02Holes f hf hz0 hz1 b o W (hF.ext hE)
  have hin := sort_in hf
  have h24 := sort_24 hf
  have hall : keyV m ((sortF f).drop 0) = keyF f m := by rw [List.drop_zero]; rfl
  have hz : keyV m ((sortF f).drop (sortF f).length) = 0 := by rw [List.drop_length]; rfl
  have hst := fun k h => keyV_drop m (sortF f) k h
  have hlt : ∀ k, keyV m ((sortF f).drop k) < 2 ^ 60 := fun k => Nat.lt_of_lt_of_le (keyV_lt m _) (Nat.pow_le_pow_right (by decide) (by rw [List.length_drop]; omega))
  generalize keyF f m = K at hall ⊢
  generalize sortF f = hs at hso hin h24 hall hz hst hlt
  have hM : BoxAt (w.alloc (.cells #[.int .u64 (lo m), .int .u64 (hi m)] 58)) w.heap.size #[.int .u64 (lo m), .int .u64 (hi m)] 58 := BoxAt.new' rfl
  have hE0 : Ext w (w.alloc (.cells #[.int .u64 (lo m), .int .u64 (hi m)] 58)) := (Ext.refl _).alloc _
  go_enter Tryd.func43, Tryd.ntmps43
  go_wp2_with fail
  refine Calls.mono (hso _ hE0) ?_
  rintro e w1 ⟨v1, rfl, hO1, hb1⟩
  obtain ⟨B, c, rfl, _, hRB⟩ := hO1.slice
  have hw1 := hE0.trans hb1
  replace hM := hM.ext hb1
  clear hb1 hE0 hso hO1
  go_wp2
  go_loopg [6, 7] hs.length (fun g v i wr => ∃ j q : Nat, g = j ∧ j ≤ hs.length ∧ i = .int .i64 ((j : Int) - 1) ∧ v = .int .i64 q ∧ Hd (keyV m (hs.drop j) = q) ∧ Ext w1 wr)
  case atStart => exact ⟨hs.length, 0, rfl, Nat.le_refl _, by simp, rfl, hd hz, Ext.refl _⟩
  case round =>
    obtain ⟨j, q, hg, hj, rfl, rfl, hQ, hw⟩ := hrel
    rcases j with _ | p
    · have hv := hQ.out.symm.trans hall
      subst hv
      go_wp2
      go_ret
      exact ⟨rfl, hw1.trans hw⟩
    · rw [show ((p + 1 : Nat) : Int) - 1 = (p : Int) by omega]
      have hkl : p < hs.length := by omega
      obtain ⟨bB, off, hB, hltB, _⟩ := hRB p hkl
      subst hB
      have l0 := (hRB.ext hw).i64 p hkl
      have l1 := World.block_lt_of_cell? _ _ l0
      dsimp only at l1
      obtain ⟨g0, g1⟩ := hin _ (List.getElem_mem hkl)
      have hst := hst p hkl
      have hl := hlt (p + 1)
      rw [hQ.out] at hst hl
      have hca := fun W => spec_l01Has m hs[p] g0 g1 W
      have hMr := hM.ext hw
      have x0 : wr.cell? ⟨w.heap.size, 0, none⟩ = some (.int .u64 (lo m)) := hMr.cell 0
      have x1 : wr.cell? ⟨w.heap.size, 1, none⟩ = some (.int .u64 (hi m)) := hMr.cell 1
      have lM := hMr.lt
      have hbt := bitN_hit (m := m) (h := hs[p])
      have hbf := bitN_miss (m := m) (h := hs[p])
      generalize hs[p] = z at l0 hca hst g0 g1 hbt hbf
      generalize bitN m z = bz at hst hbt hbf
      clear hlt hall hz
      cases hh : mhas m z with
      | true =>
        rw [hh] at hca
        rw [hbt hh] at hst
        have hst := hd hst
        clear hbt hbf hh
        go_wp2
        refine wp_region_ext (by kernel_rfl) (by kernel_rfl) ?_
        repeat (first | go_big_quiet_step (((go_at_call 70; with_reducible exact Calls.ext_all (fun W _ => hca W)))) | quiet_step (((go_at_call 70; with_reducible exact Calls.ext_all (fun W _ => hca W)))))
        refine wpQuiet_nil ?_
        intro w7 hq7
        have hb7 := ext_of_class hq7
        clear hq7
        obtain ⟨hc7, hf7, hz7⟩ := bcell3 hb7
        try simp at hz7
        go_wp2
        go_roundg p
        case rel => exact ⟨p, 2 * q + 1, rfl, by omega, rfl, by simp, hst, hw.trans hb7⟩
        case measure => omega
      | false =>
        rw [hh] at hca
        rw [hbf hh] at hst
        have hst := hd hst
        clear hbt hbf hh
        go_wp2
        refine wp_region_ext (by kernel_rfl) (by kernel_rfl) ?_
        repeat (first | go_big_quiet_step (((go_at_call 70; with_reducible exact Calls.ext_all (fun W _ => hca W)))) | quiet_step (((go_at_call 70; with_reducible exact Calls.ext_all (fun W _ => hca W)))))
        refine wpQuiet_nil ?_
        intro w7 hq7
        have hb7 := ext_of_class hq7
        clear hq7
        obtain ⟨hc7, hf7, hz7⟩ := bcell3 hb7
        try simp at hz7
        go_wp2
        go_roundg p
        case rel => exact ⟨p, 2 * q + 0, rfl, by omega, rfl, by simp, hst, hw.trans hb7⟩
        case measure => omega
end Go.Proofs.YtdlpifgkponnmaaDoor
set_option linter.unusedVariables false
set_option linter.unusedSimpArgs false
set_option maxRecDepth 100000
namespace Go.Proofs.YtdlpifgkponnmaaDoor
open Go.RowKit
def kf (f : Fld) (c : Crd) : Int := (keyF f c.m : Int)
def upAt (f : Fld) (ds : List Crd) (i : Nat) : Bool := decide (kf f (ds.getD (i - 1) Crd.z) ≤ kf f (ds.getD i Crd.z))
def sortedB (f : Fld) (ds : List Crd) : Bool := (List.range (ds.length - 1)).all fun i => upAt f ds (i + 1)
theorem sorted_bad {f : Fld} {ds : List Crd} {i : Nat} (h1 : 1 ≤ i) (h2 : i < ds.length) (e : upAt f ds i = false) : sortedB f ds = false := by
  cases h : sortedB f ds with
  | false => rfl
  | true =>
    unfold sortedB at h
    rw [List.all_eq_true] at h
    have := h (i - 1) (List.mem_range.2 (by omega))
    rw [show i - 1 + 1 = i by omega, e] at this
    cases this
theorem sorted_good {f : Fld} {ds : List Crd} (h : ∀ i, 1 ≤ i → i < ds.length → upAt f ds i = true) : sortedB f ds = true := by
  unfold sortedB
  rw [List.all_eq_true]
  exact fun i hi => h (i + 1) (by omega) (by have := List.mem_range.1 hi; omega)
theorem upAt_at {f : Fld} {ds : List Crd} (p : Nat) (h : p + 1 < ds.length) : upAt f ds (p + 1) = decide (kf f (ds[p]'(by omega)) ≤ kf f ds[p + 1]) := by
  unfold upAt
  rw [Nat.add_sub_cancel, List.getD, List.getD, List.getElem?_eq_getElem h, List.getElem?_eq_getElem (by omega)]
  rfl
set_option maxHeartbeats 1000000 in
theorem impl_isSorted1 (f : Fld) (hf : fldB f = true) (bx : Nat) (x y : Crd) (w : World) (hX : BoxAt w bx #[.string f.nm, .int .i8 f.kd, .int .i16 f.st, .int .i16 f.sz] 33) :
    Calls Tryd.prog 72 #[.agg #[.string x.nm, .int .u64 (lo x.m), .int .u64 (hi x.m)], .agg #[.string y.nm, .int .u64 (lo y.m), .int .u64 (hi y.m)], .pointer (some ⟨bx, 0, none⟩)] w fun e w' => e = .returned (.int .i64 (Lib.compareInt (kf f x) (kf f y))) ∧ Ext w w' := by
  have hx := @ExtOf.cell
  have hk1 := fun W => impl_key f hf x.m W
  have hk2 := fun W => impl_key f hf y.m W
  have hcm := fun (W : World) => (Tryd.cmp_Compare_int (kf f x) (kf f y) W).mono (fun e w' h => (⟨h.1, by rw [h.2]; exact Ext.refl _⟩ : e = .returned (.int .i64 (Lib.compareInt (kf f x) (kf f y))) ∧ Ext W w'))
  unfold kf at hcm ⊢
  have b0 : w.cell? ⟨bx, 0, none⟩ = some (.string f.nm) := hX.cell 0
  have b1 : w.cell? ⟨bx, 1, none⟩ = some (.int .i8 f.kd) := hX.cell 1
  have b2 : w.cell? ⟨bx, 2, none⟩ = some (.int .i16 f.st) := hX.cell 2
  have b3 : w.cell? ⟨bx, 3, none⟩ = some (.int .i16 f.sz) := hX.cell 3
  have lX := hX.lt
  obtain ⟨nm, kd, st, sz⟩ := f
  dsimp only at hk1 hk2 b0 b1 b2 b3
  generalize Lib.compareInt (keyF ⟨nm, kd, st, sz⟩ x.m : Int) (keyF ⟨nm, kd, st, sz⟩ y.m : Int) = r at hcm ⊢
  generalize keyF ⟨nm, kd, st, sz⟩ x.m = k1 at hk1 hcm
  generalize keyF ⟨nm, kd, st, sz⟩ y.m = k2 at hk2 hcm
  have hE0 : Ext w ((w.alloc (.cells #[.string x.nm, .int .u64 (lo x.m), .int .u64 (hi x.m)] 60)).alloc (.cells #[.string y.nm, .int .u64 (lo y.m), .int .u64 (hi y.m)] 60)) := ((Ext.refl _).alloc _).alloc _
  go_enter Tryd.func72, Tryd.ntmps72
  go_wp2
  refine intro_world (R := fun W => Code.wp _ _ _ _ W) (fun W6 hW6 => ?_)
  have hE6 : Ext w W6 := by rw [hW6]; exact hE0
  have bX : BoxAt W6 w.heap.size #[.string x.nm, .int .u64 (lo x.m), .int .u64 (hi x.m)] 60 := by rw [hW6]; exact (BoxAt.new' rfl).alloc _
  have bY : BoxAt W6 (w.heap.size + 1) #[.string y.nm, .int .u64 (lo y.m), .int .u64 (hi y.m)] 60 := by rw [hW6]; exact BoxAt.new' (by simp)
  clear hW6 hE0
  replace b0 := hE6.cell b0
  replace b1 := hE6.cell b1
  replace b2 := hE6.cell b2
  replace b3 := hE6.cell b3
  have x1 : W6.cell? ⟨w.heap.size, 1, none⟩ = some (.int .u64 (lo x.m)) := bX.cell 1
  have x2 : W6.cell? ⟨w.heap.size, 2, none⟩ = some (.int .u64 (hi x.m)) := bX.cell 2
  have y1 : W6.cell? ⟨w.heap.size + 1, 1, none⟩ = some (.int .u64 (lo y.m)) := bY.cell 1
  have y2 : W6.cell? ⟨w.heap.size + 1, 2, none⟩ = some (.int .u64 (hi y.m)) := bY.cell 2
  have l6 := Nat.lt_of_lt_of_le lX hE6.size
  have lX1 := bX.lt
  have lX2 := bY.lt
  clear lX hX
  refine wp_region_ext (by kernel_rfl) (by kernel_rfl) ?_
  repeat (first | go_big_quiet_step ((first | (go_at_call 45; with_reducible exact Calls.ext_all (fun W _ => hk1 W)) | (go_at_call 45; with_reducible exact Calls.ext_all (fun W _ => hk2 W)) | (go_at_call 73; with_reducible exact Calls.ext_all (fun W _ => hcm W)))) | quiet_step ((first | (go_at_call 45; with_reducible exact Calls.ext_all (fun W _ => hk1 W)) | (go_at_call 45; with_reducible exact Calls.ext_all (fun W _ => hk2 W)) | (go_at_call 73; with_reducible exact Calls.ext_all (fun W _ => hcm W)))))
  refine wpQuiet_nil ?_
  intro w7 hq7
  have hb7 := ext_of_class hq7
  clear hq7
  obtain ⟨hc7, hf7, hz7⟩ := bcell3 hb7
  try simp at hz7
  go_wp2
  go_ret
  exact ⟨rfl, hE6.trans hb7⟩
set_option maxHeartbeats 1000000 in
theorem slices_IsSortedFunc_key (f : Fld) (hf : fldB f = true) (ds : List Crd) (A : Option Addr) (cap : Nat) (bx : Nat) (w : World) (hR : Rd encCrd w A ds) (hn : ds.length ≤ 1048576) (hX : BoxAt w bx #[.string f.nm, .int .i8 f.kd, .int .i16 f.st, .int .i16 f.sz] 33) :
    Calls Tryd.prog 71 #[.slice A ds.length cap, .func (.func 72) #[] #[.pointer (some ⟨bx, 0, none⟩)]] w fun e w' => e = .returned (.bool (sortedB f ds)) ∧ Ext w w' := by
  have hx := @ExtOf.cell
  have hbad := fun i => sorted_bad (f := f) (ds := ds) (i := i)
  have hgood := sorted_good (f := f) (ds := ds)
  have hat := fun p h => upAt_at (f := f) (ds := ds) p h
  have hcl := fun (x y : Crd) (W : World) (hE : Ext w W) => impl_isSorted1 f hf bx x y W (hX.ext hE)
  have hwl : IntKind.i64.wrap ((ds.length : Int) - 1) = (ds.length : Int) - 1 := IntWalk.i64_in _ (by omega)
  go_enter Tryd.func71, Tryd.ntmps71
  go_wp2
  go_loopg [5] ds.length (fun g i wr => ∃ j : Nat, g = j ∧ j ≤ ds.length ∧ i = .int .i64 ((j : Int) - 1) ∧ Hd (∀ i, j ≤ i → 1 ≤ i → i < ds.length → upAt f ds i = true) ∧ Ext w wr)
  case atStart => exact ⟨ds.length, rfl, Nat.le_refl _, rfl, hd (fun i h1 _ h2 => by omega), Ext.refl _⟩
  case round =>
    obtain ⟨j, hg, hj, rfl, hQ, hw⟩ := hrel
    by_cases h2 : j ≤ 1
    · have hv := hd (hgood (fun i h1 h3 => hQ.out i (by omega) h1 h3))
      have hc : (0 < (j : Int) - 1) = False := eq_false (by omega)
      clear hbad hgood hat hcl
      go_wp2
      go_ret
      exact ⟨by rw [hv.out]; rfl, hw⟩
    · obtain ⟨p, rfl⟩ : ∃ p, j = p + 2 := ⟨j - 2, by omega⟩
      rw [show ((p + 2 : Nat) : Int) - 1 = (p : Int) + 1 by omega]
      have hkl : p + 1 < ds.length := by omega
      have hk0 : (p : Int) + 1 < ds.length := by omega
      have hk1 : (p : Int) < ds.length := by omega
      obtain ⟨b, off, hA, hlt, _⟩ := hR (p + 1) hkl
      subst hA
      obtain ⟨m0, m1, m2, m3⟩ := (hR.ext hw).crd (p + 1) hkl
      obtain ⟨n0, n1, n2, n3⟩ := (hR.ext hw).crd p (by omega)
      have hat := hat p hkl
      have hbad := hbad (p + 1) (by omega) hkl
      have hca := fun (W : World) (hE : Ext wr W) => hcl ds[p + 1] (ds[p]'(by omega)) W (hw.trans hE)
      generalize ds[p + 1] = x at m0 m1 m2 hat hca
      generalize ds[p]'(by omega) = y at n0 n1 n2 hat hca
      by_cases hlt2 : kf f x < kf f y
      · have hv := hd (hbad (by rw [hat]; exact decide_eq_false (by omega)))
        rw [show Lib.compareInt (kf f x) (kf f y) = -1 from if_pos hlt2] at hca
        clear hbad hgood hat hcl hlt2
        go_wp2
        refine wp_region_ext (by kernel_rfl) (by kernel_rfl) ?_
        repeat (first | go_big_quiet_step (((go_at_call 72; with_reducible exact Calls.ext_all (fun W hE => hca W hE)))) | quiet_step (((go_at_call 72; with_reducible exact Calls.ext_all (fun W hE => hca W hE)))))
        refine wpQuiet_nil ?_
        intro w7 hq7
        have hb7 := ext_of_class hq7
        clear hq7
        obtain ⟨hc7, hf7, hz7⟩ := bcell3 hb7
        try simp at hz7
        go_wp2
        go_ret
        exact ⟨by rw [hv.out]; rfl, hw.trans hb7⟩
      · have hQ2 := hd (show ∀ i, p + 1 ≤ i → 1 ≤ i → i < ds.length → upAt f ds i = true from fun i h1 h2 h3 => by
          by_cases e : i = p + 1
          · rw [e, hat]; exact decide_eq_true (by omega)
          · exact hQ.out i (by omega) h2 h3)
        have hc0 : 0 ≤ Lib.compareInt (kf f x) (kf f y) := by unfold Lib.compareInt; rw [if_neg hlt2]; split <;> omega
        have hc1 : Lib.compareInt (kf f x) (kf f y) ≤ 1 := by unfold Lib.compareInt; rw [if_neg hlt2]; split <;> omega
        generalize Lib.compareInt (kf f x) (kf f y) = r at hca hc0 hc1
        have hr0 : (r < 0) = False := eq_false (by omega)
        clear hbad hgood hat hcl hlt2 hQ
        go_wp2
        refine wp_region_ext (by kernel_rfl) (by kernel_rfl) ?_
        repeat (first | go_big_quiet_step (((go_at_call 72; with_reducible exact Calls.ext_all (fun W hE => hca W hE)))) | quiet_step (((go_at_call 72; with_reducible exact Calls.ext_all (fun W hE => hca W hE)))))
        refine wpQuiet_nil ?_
        intro w7 hq7
        have hb7 := ext_of_class hq7
        clear hq7
        obtain ⟨hc7, hf7, hz7⟩ := bcell3 hb7
        try simp at hz7
        go_wp2
        go_roundg (p + 1)
        case rel => exact ⟨p + 1, rfl, by omega, by simp, hQ2, hw.trans hb7⟩
        case measure => omega
set_option maxHeartbeats 1000000 in
theorem impl_isSorted (f : Fld) (hf : fldB f = true) (ds : List Crd) (A : Option Addr) (cap : Nat) (w : World) (hR : Rd encCrd w A ds) (hn : ds.length ≤ 1048576) :
    Calls Tryd.prog 44 #[.slice A ds.length cap, .agg #[.string f.nm, .int .i8 f.kd, .int .i16 f.st, .int .i16 f.sz]] w fun e w' => e = .returned (.bool (sortedB f ds)) ∧ Ext w w' := by
  have hX : BoxAt (w.alloc (.cells #[.string f.nm, .int .i8 f.kd, .int .i16 f.st, .int .i16 f.sz] 33)) w.heap.size #[.string f.nm, .int .i8 f.kd, .int .i16 f.st, .int .i16 f.sz] 33 := BoxAt.new' rfl
  have hE0 : Ext w (w.alloc (.cells #[.string f.nm, .int .i8 f.kd, .int .i16 f.st, .int .i16 f.sz] 33)) := (Ext.refl _).alloc _
  have hc := slices_IsSortedFunc_key f hf ds A cap w.heap.size _ (hR.ext hE0) hn hX
  go_enter Tryd.func44, Tryd.ntmps44
  go_wp2_with fail
  refine Calls.mono (hc) ?_
  rintro e w1 ⟨rfl, hb1⟩
  go_wp2
  go_ret
  exact ⟨rfl, hE0.trans hb1⟩
set_option maxHeartbeats 1000000 in
theorem spec_l02Sorted (f : Fld) (hf : fldB f = true) (hz0 : -32768 ≤ f.sz) (hz1 : f.sz < 32768) (ds : List Crd) (A : Option Addr) (cap b o : Nat) (w : World) (hF : FldAt w b o f) (hR : Rd encCrd w A ds) (hn : ds.length ≤ 1048576) :
    Calls Tryd.prog 42 #[.slice A ds.length cap, .pointer (some ⟨b, o, none⟩)] w fun e w' => e = .returned (.bool (sortedB f ds)) ∧ Ext w w' := by
  have hx := @ExtOf.cell
  have hbad := fun i => sorted_bad (f := f) (ds := ds) (i := i)
  have hgood := sorted_good (f := f) (ds := ds)
  have hat := fun p h => upAt_at (f := f) (ds := ds) p h
  have hky := fun (m : Mask) (W : World) (hE : Ext w W) => spec_l02Key f hf hz0 hz1 m b o W (hF.ext hE)
  go_enter Tryd.func42, Tryd.ntmps42
  go_wp2
  go_loopg [5] ds.length (fun g i wr => ∃ j : Nat, g = ds.length - j ∧ i = .int .i64 ((j : Int) + 1) ∧ j ≤ ds.length ∧ Hd (∀ i, i ≤ j → 1 ≤ i → i < ds.length → upAt f ds i = true) ∧ Ext w wr)
  case atStart => exact ⟨0, by omega, rfl, by omega, hd (fun i h1 h2 _ => by omega), Ext.refl _⟩
  case round =>
    obtain ⟨p, hg, rfl, hj, hQ, hw⟩ := hrel
    by_cases hkl : p + 1 < ds.length
    · have hk0 : (p : Int) + 1 < ds.length := by omega
      have hk1 : (p : Int) < ds.length := by omega
      obtain ⟨bA, off, hA, hlt, _⟩ := hR (p + 1) hkl
      subst hA
      obtain ⟨m0, m1, m2, m3⟩ := (hR.ext hw).crd (p + 1) hkl
      obtain ⟨n0, n1, n2, n3⟩ := (hR.ext hw).crd p (by omega)
      have hat := hat p hkl
      have hbad := hbad (p + 1) (by omega) hkl
      have hwp : IntKind.i64.wrap (p : Int) = (p : Int) := IntWalk.i64_in _ (by omega)
      unfold kf at hat
      have hc1 := fun (W : World) (hE : Ext wr W) => hky ds[p + 1].m W (hw.trans hE)
      have hc2 := fun (W : World) (hE : Ext wr W) => hky (ds[p]'(by omega)).m W (hw.trans hE)
      generalize ds[p + 1] = x at m0 m1 m2 hat hc1
      generalize ds[p]'(by omega) = y at n0 n1 n2 hat hc2
      generalize keyF f x.m = kx at hat hc1
      generalize keyF f y.m = ky at hat hc2
      by_cases hlt2 : (kx : Int) < ky
      · have hv := hd (hbad (by rw [hat]; exact decide_eq_false (by omega)))
        clear hbad hgood hat hky
        go_wp2
        refine wp_region_ext (by kernel_rfl) (by kernel_rfl) ?_
        repeat (first | go_big_quiet_step ((first | (go_at_call 43; with_reducible exact Calls.ext_all (fun W hE => hc1 W hE)) | (go_at_call 43; with_reducible exact Calls.ext_all (fun W hE => hc2 W hE)))) | quiet_step ((first | (go_at_call 43; with_reducible exact Calls.ext_all (fun W hE => hc1 W hE)) | (go_at_call 43; with_reducible exact Calls.ext_all (fun W hE => hc2 W hE)))))
        refine wpQuiet_nil ?_
        intro w7 hq7
        have hb7 := ext_of_class hq7
        clear hq7
        obtain ⟨hc7, hf7, hz7⟩ := bcell3 hb7
        try simp at hz7
        go_wp2
        go_ret
        exact ⟨by rw [hv.out]; rfl, hw.trans hb7⟩
      · have hQ2 := hd (show ∀ i, i ≤ p + 1 → 1 ≤ i → i < ds.length → upAt f ds i = true from fun i h1 h2 h3 => by
          by_cases e : i = p + 1
          · rw [e, hat]; exact decide_eq_true (by omega)
          · exact hQ.out i (by omega) h2 h3)
        clear hbad hgood hat hky hQ
        go_wp2
        refine wp_region_ext (by kernel_rfl) (by kernel_rfl) ?_
        repeat (first | go_big_quiet_step ((first | (go_at_call 43; with_reducible exact Calls.ext_all (fun W hE => hc1 W hE)) | (go_at_call 43; with_reducible exact Calls.ext_all (fun W hE => hc2 W hE)))) | quiet_step ((first | (go_at_call 43; with_reducible exact Calls.ext_all (fun W hE => hc1 W hE)) | (go_at_call 43; with_reducible exact Calls.ext_all (fun W hE => hc2 W hE)))))
        refine wpQuiet_nil ?_
        intro w7 hq7
        have hb7 := ext_of_class hq7
        clear hq7
        obtain ⟨hc7, hf7, hz7⟩ := bcell3 hb7
        try simp at hz7
        go_wp2
        go_roundg (ds.length - (p + 1))
        case rel => exact ⟨p + 1, rfl, by simp, by omega, hQ2, hw.trans hb7⟩
        case measure => omega
    · have hv := hd (hgood (fun i h1 h3 => hQ.out i (by omega) h1 h3))
      have hc : ((p : Int) + 1 < ds.length) = False := eq_false (by omega)
      clear hbad hgood hat hky
      go_wp2
      go_ret
      exact ⟨by rw [hv.out]; rfl, hw⟩
end Go.Proofs.YtdlpifgkponnmaaDoor
set_option linter.unusedVariables false
set_option linter.unusedSimpArgs false
set_option maxRecDepth 100000
namespace Go.Proofs.YtdlpifgkponnmaaDoor
open Go.RowKit
def ffI (f : Fld) (ds : List Crd) (q : Int) : Nat := (ds.takeWhile fun c => decide (kf f c < q)).length
theorem ff_stop (f : Fld) (q : Int) : ∀ (ds : List Crd) (k : Nat) (hk : k < ds.length), (∀ i (h : i < k), kf f (ds[i]'(by omega)) < q) → ¬ kf f ds[k] < q → ffI f ds q = k
  | [], k, hk, _, _ => by cases hk
  | c :: ds, 0, _, _, e => by
    unfold ffI
    rw [List.takeWhile_cons_of_neg (by simpa using e)]; rfl
  | c :: ds, k + 1, hk, h, e => by
    have h0 : kf f c < q := h 0 (by omega)
    have := ff_stop f q ds k (by simpa using hk) (fun i hi => h (i + 1) (by omega)) e
    unfold ffI at *
    rw [List.takeWhile_cons_of_pos (by simpa using h0), List.length_cons, this]
theorem ff_all (f : Fld) (q : Int) : ∀ (ds : List Crd), (∀ i (h : i < ds.length), kf f ds[i] < q) → ffI f ds q = ds.length
  | [], _ => rfl
  | c :: ds, h => by
    have h0 : kf f c < q := h 0 (by simp)
    have := ff_all f q ds (fun i hi => h (i + 1) (by simpa using hi))
    unfold ffI at *
    rw [List.takeWhile_cons_of_pos (by simpa using h0), List.length_cons, List.length_cons, this]
def ffF (ds : List Crd) (f : Fld) (q : Int) : Int × Int := if deckB ds = true ∧ fldB f = true then (if sortedB f ds = true then ((ffI f ds q : Int), 0) else (0, 4)) else (0, 1)
theorem ffF_ok {ds : List Crd} {f : Fld} {q : Int} (h : deckB ds = true) (h2 : fldB f = true) (h3 : sortedB f ds = true) : ffF ds f q = ((ffI f ds q : Int), 0) := by unfold ffF; rw [if_pos ⟨h, h2⟩, if_pos h3]
theorem ffF_un {ds : List Crd} {f : Fld} {q : Int} (h : deckB ds = true) (h2 : fldB f = true) (h3 : sortedB f ds = false) : ffF ds f q = (0, 4) := by unfold ffF; rw [if_pos ⟨h, h2⟩, h3]; rfl
theorem ffF_no {ds : List Crd} {f : Fld} {q : Int} (h : deckB ds = false) : ffF ds f q = (0, 1) := by unfold ffF; rw [if_neg (fun e => by rw [h] at e; exact absurd e.1 (by decide))]
theorem ffF_no2 {ds : List Crd} {f : Fld} {q : Int} (h : fldB f = false) : ffF ds f q = (0, 1) := by unfold ffF; rw [if_neg (fun e => by rw [h] at e; exact absurd e.2 (by decide))]
set_option maxHeartbeats 1000000 in
theorem impl_FirstFrom (ds : List Crd) (A : Option Addr) (cap : Nat) (f : Fld) (q : Int) (q0 : -9223372036854775808 ≤ q) (q1 : q < 9223372036854775808) (w : World) (hR : Rd encCrd w A ds) (hcap : ds.length ≤ cap) (hn : ds.length ≤ 1048576) (hok : ∀ c ∈ ds, CrdIn c) (hf : FldIn f) :
    Calls Tryd.prog 17 #[.slice A ds.length cap, .agg #[.string f.nm, .int .i8 f.kd, .int .i16 f.st, .int .i16 f.sz], .int .i64 q] w fun e w' => e = .returned (.tuple #[.int .i64 (ffF ds f q).1, .int .i64 (ffF ds f q).2]) ∧ Ext w w' := by
  have h1 := fun (W : World) (hE : Ext w W) => impl_isDeck ds A cap W (hR.ext hE) hcap hn hok
  have h2 := fun (W : World) => isField_in f hf W
  have h3 := fun (h : fldB f = true) (W : World) (hE : Ext w W) => impl_isSorted f h ds A cap W (hR.ext hE) hn
  have h4 := fun (h : fldB f = true) (m : Mask) (W : World) => impl_key f h m W
  have k0 := ffF_no (ds := ds) (f := f) (q := q)
  have k1 := ffF_no2 (ds := ds) (f := f) (q := q)
  have k2 := ffF_un (ds := ds) (f := f) (q := q)
  have k3 := ffF_ok (ds := ds) (f := f) (q := q)
  have hst := ff_stop f q ds
  have hal := ff_all f q ds
  have hX0 : BoxAt (w.alloc (.cells #[.string f.nm, .int .i8 f.kd, .int .i16 f.st, .int .i16 f.sz] 33)) w.heap.size #[.string f.nm, .int .i8 f.kd, .int .i16 f.st, .int .i16 f.sz] 33 := BoxAt.new' rfl
  have hE0 : Ext w (w.alloc (.cells #[.string f.nm, .int .i8 f.kd, .int .i16 f.st, .int .i16 f.sz] 33)) := (Ext.refl _).alloc _
  unfold kf at hst hal
  cases hd1 : deckB ds with
  | false =>
    have hv := hd (k0 hd1)
    rw [hd1] at h1
    clear k0 k1 k2 k3 h4 h3 hst hal
    go_enter Tryd.func17, Tryd.ntmps17
    go_wp2_with fail
    refine Calls.mono (h1 _ hE0) ?_
    rintro e w1 ⟨rfl, hb1⟩
    go_wp2
    refine bodyPost_ret (v := .tuple #[.int .i64 0, .int .i64 1]) (by simp [results, Tryd.results17, go_sem]) rfl ⟨by rw [hv.out], hE0.trans hb1⟩
  | true =>
    rw [hd1] at h1
    have hw1s := fun (w1 : World) (hb : Ext (w.alloc (.cells #[.string f.nm, .int .i8 f.kd, .int .i16 f.st, .int .i16 f.sz] 33)) w1) => (⟨(hX0.ext hb).cell 0, (hX0.ext hb).cell 1, (hX0.ext hb).cell 2, (hX0.ext hb).cell 3, (hX0.ext hb).lt⟩ : w1.cell? ⟨w.heap.size, 0, none⟩ = some (.string f.nm) ∧ w1.cell? ⟨w.heap.size, 1, none⟩ = some (.int .i8 f.kd) ∧ w1.cell? ⟨w.heap.size, 2, none⟩ = some (.int .i16 f.st) ∧ w1.cell? ⟨w.heap.size, 3, none⟩ = some (.int .i16 f.sz) ∧ w.heap.size < w1.heap.size)
    cases hd2 : fldB f with
    | false =>
      have hv := hd (k1 hd2)
      rw [hd2] at h2
      clear k0 k1 k2 k3 h4 h3 hst hal
      go_enter Tryd.func17, Tryd.ntmps17
      go_wp2_with fail
      refine Calls.mono (h1 _ hE0) ?_
      rintro e w1 ⟨rfl, hb1⟩
      obtain ⟨x0, x1, x2, x3, lX⟩ := hw1s w1 hb1
      clear hw1s
      go_wp2_with fail
      refine Calls.mono (h2 _) ?_
      rintro e w2 ⟨rfl, hb2⟩
      go_wp2
      refine bodyPost_ret (v := .tuple #[.int .i64 0, .int .i64 1]) (by simp [results, Tryd.results17, go_sem]) rfl ⟨by rw [hv.out], (hE0.trans hb1).trans hb2⟩
    | true =>
      rw [hd2] at h2
      replace h3 := h3 hd2
      replace h4 := h4 hd2
      cases hd3 : sortedB f ds with
      | false =>
        have hv := hd (k2 hd1 hd2 hd3)
        rw [hd3] at h3
        clear k0 k1 k2 k3 h4 hst hal
        go_enter Tryd.func17, Tryd.ntmps17
        go_wp2_with fail
        refine Calls.mono (h1 _ hE0) ?_
        rintro e w1 ⟨rfl, hb1⟩
        obtain ⟨x0, x1, x2, x3, lX⟩ := hw1s w1 hb1
        go_wp2_with fail
        refine Calls.mono (h2 _) ?_
        rintro e w2 ⟨rfl, hb2⟩
        have hb12 := hb1.trans hb2
        clear x0 x1 x2 x3 lX
        obtain ⟨x0, x1, x2, x3, lX⟩ := hw1s w2 hb12
        clear hw1s
        go_wp2_with fail
        refine Calls.mono (h3 _ (hE0.trans hb12)) ?_
        rintro e w3 ⟨rfl, hb3⟩
        go_wp2
        refine bodyPost_ret (v := .tuple #[.int .i64 0, .int .i64 4]) (by simp [results, Tryd.results17, go_sem]) rfl ⟨by rw [hv.out], (hE0.trans hb12).trans hb3⟩
      | true =>
        have hv := hd (k3 hd1 hd2 hd3)
        rw [hd3] at h3
        clear k0 k1 k2 k3
        generalize ffI f ds q = R at hv hst hal
        go_enter Tryd.func17, Tryd.ntmps17
        go_wp2_with fail
        refine Calls.mono (h1 _ hE0) ?_
        rintro e w1 ⟨rfl, hb1⟩
        obtain ⟨x0, x1, x2, x3, lX⟩ := hw1s w1 hb1
        go_wp2_with fail
        refine Calls.mono (h2 _) ?_
        rintro e w2 ⟨rfl, hb2⟩
        have hb12 := hb1.trans hb2
        clear x0 x1 x2 x3 lX
        obtain ⟨x0, x1, x2, x3, lX⟩ := hw1s w2 hb12
        go_wp2_with fail
        refine Calls.mono (h3 _ (hE0.trans hb12)) ?_
        rintro e w3 ⟨rfl, hb3⟩
        have hb13 := hb12.trans hb3
        have hw3 := hE0.trans hb13
        clear x0 x1 x2 x3 lX hb1 hb2 hb3 hb12 h1 h2 h3 hX0 hE0
        go_wp2
        go_loopg [24] ds.length (fun g i wr => ∃ k : Nat, g = ds.length - k ∧ k ≤ ds.length ∧ i = .int .i64 k ∧ Hd (∀ i (h : i < k) (h2 : i < ds.length), (keyF f ds[i].m : Int) < q) ∧ Ext w3 wr)
        case atStart => exact ⟨0, by omega, by omega, rfl, hd (fun i h _ => by omega), Ext.refl _⟩
        case round =>
          obtain ⟨k, hg, hk, rfl, hQ, hw⟩ := hrel
          have hwr := hw3.trans hw
          by_cases hkl : k < ds.length
          · obtain ⟨b, off, hA, hlt, _⟩ := hR k hkl
            subst hA
            obtain ⟨m0, m1, m2, m3⟩ := (hR.ext hwr).crd k hkl
            have hca := h4 ds[k].m
            have hst := hst k hkl (fun i h => hQ.out i h (by omega))
            have hnx : (keyF f ds[k].m : Int) < q → Hd (∀ i (h : i < k + 1) (h2 : i < ds.length), (keyF f ds[i].m : Int) < q) := fun e => hd (fun i h1 h2 => by
              by_cases e1 : i = k
              · subst e1; exact e
              · exact hQ.out i (by omega) h2)
            have hbx : BoxAt (wr.alloc (.cells #[.string ds[k].nm, .int .u64 (lo ds[k].m), .int .u64 (hi ds[k].m)] 60)) wr.heap.size #[.string ds[k].nm, .int .u64 (lo ds[k].m), .int .u64 (hi ds[k].m)] 60 := BoxAt.new' rfl
            have hbr := hb13.trans hw
            obtain ⟨x0, x1, x2, x3, lX⟩ := hw1s wr hbr
            generalize ds[k] = c at m0 m1 m2 hca hst hnx hbx
            generalize keyF f c.m = kc at hca hst hnx
            have hEa := hw.alloc (.cells #[.string c.nm, .int .u64 (lo c.m), .int .u64 (hi c.m)] 60)
            go_wp2_with fail
            refine Calls.mono (hca _) ?_
            rintro e w5 ⟨rfl, hb5⟩
            have hw5 := hEa.trans hb5
            clear x0 x1 x2 x3 lX m0 m1 m2 m3 hbx hEa hca hbr hwr hw
            by_cases e : (kc : Int) < q
            · have hQ2 := hnx e
              have hq : (q ≤ (kc : Int)) = False := eq_false (by omega)
              clear hst hal hnx e
              go_wp2
              go_roundg (ds.length - (k + 1))
              case rel => exact ⟨k + 1, rfl, hkl, by simp, hQ2, hw5⟩
              case measure => omega
            · have hR2 := hd (hst (by omega))
              have hq : (q ≤ (kc : Int)) = True := eq_true (by omega)
              clear hst hal hnx e
              go_wp2
              refine bodyPost_ret (v := .tuple #[.int .i64 k, .int .i64 0]) (by simp [results, Tryd.results17, go_sem]) rfl ⟨by rw [hv.out, hR2.out], hw3.trans hw5⟩
          · obtain rfl : k = ds.length := by omega
            have hR2 := hd (hal (fun i h => hQ.out i h h))
            clear hst hal
            go_wp2
            refine bodyPost_ret (v := .tuple #[.int .i64 ds.length, .int .i64 0]) (by simp [results, Tryd.results17, go_sem]) rfl ⟨by rw [hv.out, hR2.out], hwr⟩
set_option maxHeartbeats 1000000 in
theorem spec_FirstFrom (ds : List Crd) (A : Option Addr) (cap : Nat) (f : Fld) (q : Int) (q0 : -9223372036854775808 ≤ q) (q1 : q < 9223372036854775808) (w : World) (hR : Rd encCrd w A ds) (hn : ds.length ≤ 1048576) (hok : ∀ c ∈ ds, CrdIn c) (hf : FldIn f) :
    Calls Tryd.prog 16 #[.slice A ds.length cap, .agg #[.string f.nm, .int .i8 f.kd, .int .i16 f.st, .int .i16 f.sz], .int .i64 q] w fun e w' => e = .returned (.tuple #[.int .i64 (ffF ds f q).1, .int .i64 (ffF ds f q).2]) ∧ Ext w w' := by
  have hF0 : ∀ W, BoxAt W w.heap.size #[.string f.nm, .int .i8 f.kd, .int .i16 f.st, .int .i16 f.sz] 33 → FldAt W w.heap.size 0 f := fun W h => ⟨h.cell 0, h.cell 1, h.cell 2, h.cell 3⟩
  have h1 := fun (W : World) (hE : Ext w W) => spec_l02Ok ds A cap W (hR.ext hE) hn hok
  have h2 := fun (W : World) (h : FldAt W w.heap.size 0 f) => l01Field_in f hf w.heap.size 0 W h
  have h3 := fun (h : fldB f = true) (W : World) (hF : FldAt W w.heap.size 0 f) (hE : Ext w W) => spec_l02Sorted f h hf.1.2.2.1 hf.1.2.2.2 ds A cap w.heap.size 0 W hF (hR.ext hE) hn
  have h4 := fun (h : fldB f = true) (m : Mask) (W : World) (hF : FldAt W w.heap.size 0 f) => spec_l02Key f h hf.1.2.2.1 hf.1.2.2.2 m w.heap.size 0 W hF
  have k0 := ffF_no (ds := ds) (f := f) (q := q)
  have k1 := ffF_no2 (ds := ds) (f := f) (q := q)
  have k2 := ffF_un (ds := ds) (f := f) (q := q)
  have k3 := ffF_ok (ds := ds) (f := f) (q := q)
  have hst := ff_stop f q ds
  have hal := ff_all f q ds
  have hX0 : BoxAt (w.alloc (.cells #[.string f.nm, .int .i8 f.kd, .int .i16 f.st, .int .i16 f.sz] 33)) w.heap.size #[.string f.nm, .int .i8 f.kd, .int .i16 f.st, .int .i16 f.sz] 33 := BoxAt.new' rfl
  have hE0 : Ext w (w.alloc (.cells #[.string f.nm, .int .i8 f.kd, .int .i16 f.st, .int .i16 f.sz] 33)) := (Ext.refl _).alloc _
  unfold kf at hst hal
  cases hd1 : deckB ds with
  | false =>
    have hv := hd (k0 hd1)
    rw [hd1] at h1
    clear k0 k1 k2 k3 h4 h3 hst hal
    go_enter Tryd.func16, Tryd.ntmps16
    go_wp2_with fail
    refine Calls.mono (h1 _ hE0) ?_
    rintro e w1 ⟨rfl, hb1⟩
    go_wp2
    refine bodyPost_ret (v := .tuple #[.int .i64 0, .int .i64 1]) (by simp [results, Tryd.results16, go_sem]) rfl ⟨by rw [hv.out], hE0.trans hb1⟩
  | true =>
    rw [hd1] at h1
    cases hd2 : fldB f with
    | false =>
      have hv := hd (k1 hd2)
      rw [hd2] at h2
      clear k0 k1 k2 k3 h4 h3 hst hal
      go_enter Tryd.func16, Tryd.ntmps16
      go_wp2_with fail
      refine Calls.mono (h1 _ hE0) ?_
      rintro e w1 ⟨rfl, hb1⟩
      go_wp2_with fail
      refine Calls.mono (h2 _ (hF0 _ (hX0.ext hb1))) ?_
      rintro e w2 ⟨rfl, hb2⟩
      go_wp2
      refine bodyPost_ret (v := .tuple #[.int .i64 0, .int .i64 1]) (by simp [results, Tryd.results16, go_sem]) rfl ⟨by rw [hv.out], (hE0.trans hb1).trans hb2⟩
    | true =>
      rw [hd2] at h2
      replace h3 := h3 hd2
      replace h4 := h4 hd2
      cases hd3 : sortedB f ds with
      | false =>
        have hv := hd (k2 hd1 hd2 hd3)
        rw [hd3] at h3
        clear k0 k1 k2 k3 h4 hst hal
        go_enter Tryd.func16, Tryd.ntmps16
        go_wp2_with fail
        refine Calls.mono (h1 _ hE0) ?_
        rintro e w1 ⟨rfl, hb1⟩
        go_wp2_with fail
        refine Calls.mono (h2 _ (hF0 _ (hX0.ext hb1))) ?_
        rintro e w2 ⟨rfl, hb2⟩
        have hb12 := hb1.trans hb2
        go_wp2_with fail
        refine Calls.mono (h3 _ (hF0 _ (hX0.ext hb12)) (hE0.trans hb12)) ?_
        rintro e w3 ⟨rfl, hb3⟩
        go_wp2
        refine bodyPost_ret (v := .tuple #[.int .i64 0, .int .i64 4]) (by simp [results, Tryd.results16, go_sem]) rfl ⟨by rw [hv.out], (hE0.trans hb12).trans hb3⟩
      | true =>
        have hv := hd (k3 hd1 hd2 hd3)
        rw [hd3] at h3
        clear k0 k1 k2 k3
        generalize ffI f ds q = R at hv hst hal
        go_enter Tryd.func16, Tryd.ntmps16
        go_wp2_with fail
        refine Calls.mono (h1 _ hE0) ?_
        rintro e w1 ⟨rfl, hb1⟩
        go_wp2_with fail
        refine Calls.mono (h2 _ (hF0 _ (hX0.ext hb1))) ?_
        rintro e w2 ⟨rfl, hb2⟩
        have hb12 := hb1.trans hb2
        go_wp2_with fail
        refine Calls.mono (h3 _ (hF0 _ (hX0.ext hb12)) (hE0.trans hb12)) ?_
        rintro e w3 ⟨rfl, hb3⟩
        have hX3 := hX0.ext (hb12.trans hb3)
        have hw3 := hE0.trans (hb12.trans hb3)
        clear hb1 hb2 hb3 hb12 h1 h2 h3 hX0 hE0
        go_wp2
        go_loopg [8] ds.length (fun g i wr => ∃ k : Nat, g = ds.length - k ∧ k ≤ ds.length ∧ i = .int .i64 k ∧ Hd (∀ i (h : i < k) (h2 : i < ds.length), (keyF f ds[i].m : Int) < q) ∧ Ext w3 wr)
        case atStart => exact ⟨0, by omega, by omega, rfl, hd (fun i h _ => by omega), Ext.refl _⟩
        case round =>
          obtain ⟨k, hg, hk, rfl, hQ, hw⟩ := hrel
          have hwr := hw3.trans hw
          by_cases hkl : k < ds.length
          · obtain ⟨b, off, hA, hlt, _⟩ := hR k hkl
            subst hA
            obtain ⟨m0, m1, m2, m3⟩ := (hR.ext hwr).crd k hkl
            have hca := h4 ds[k].m wr (hF0 _ (hX3.ext hw))
            have hst := hst k hkl (fun i h => hQ.out i h (by omega))
            have hnx : (keyF f ds[k].m : Int) < q → Hd (∀ i (h : i < k + 1) (h2 : i < ds.length), (keyF f ds[i].m : Int) < q) := fun e => hd (fun i h1 h2 => by
              by_cases e1 : i = k
              · subst e1; exact e
              · exact hQ.out i (by omega) h2)
            have hk0 : (0 : Int) ≤ k ∧ (k : Int) < ds.length := ⟨by omega, by omega⟩
            generalize ds[k] = c at m0 m1 m2 hca hst hnx
            generalize keyF f c.m = kc at hca hst hnx
            go_wp2_with fail
            refine Calls.mono hca ?_
            rintro e w5 ⟨rfl, hb5⟩
            have hw5 := hw.trans hb5
            clear m0 m1 m2 m3 hca hwr hw
            by_cases e : (kc : Int) < q
            · have hQ2 := hnx e
              have hq : ((kc : Int) < q) = True := eq_true e
              clear hst hal hnx e
              go_wp2
              go_roundg (ds.length - (k + 1))
              case rel => exact ⟨k + 1, rfl, hkl, by simp, hQ2, hw5⟩
              case measure => omega
            · have hR2 := hd (hst (by omega))
              have hq : ((kc : Int) < q) = False := eq_false e
              clear hst hal hnx e
              go_wp2
              refine bodyPost_ret (v := .tuple #[.int .i64 k, .int .i64 0]) (by simp [results, Tryd.results16, go_sem]) rfl ⟨by rw [hv.out, hR2.out], hw3.trans hw5⟩
          · obtain rfl : k = ds.length := by omega
            have hR2 := hd (hal (fun i h => hQ.out i h h))
            clear hst hal
            go_wp2
            refine bodyPost_ret (v := .tuple #[.int .i64 ds.length, .int .i64 0]) (by simp [results, Tryd.results16, go_sem]) rfl ⟨by rw [hv.out, hR2.out], hwr⟩
end Go.Proofs.YtdlpifgkponnmaaDoor
