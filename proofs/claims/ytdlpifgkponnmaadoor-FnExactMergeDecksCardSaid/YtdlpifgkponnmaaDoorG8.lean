/-
  Decks as data: valid ones; a deck made of two sorted ones is valid if the two together are (plain Lean).
-/
import Derived.Test.YtdlpifgkponnmaaDoorK0
set_option linter.unusedVariables false
namespace Go.Proofs.YtdlpifgkponnmaaDoor
open Go.RowKit
/-- Are all cards valid, and no two of the same name? -/
def okD (ds : List Crd) : Bool := ds.all isCardB && decide ((ds.map Crd.nm).Nodup)
def deckB (ds : List Crd) : Bool := decide (ds.length ≤ 80) && okD ds
theorem okD_nil : okD [] = true := by simp [okD]
theorem okD_snoc (ds : List Crd) (c : Crd) : okD (ds ++ [c]) = (okD ds && (isCardB c && !ds.any (fun x => decide (x.nm = c.nm)))) := by
  rw [Bool.eq_iff_iff]
  simp only [okD, List.all_append, List.all_cons, List.all_nil, Bool.and_true, Bool.and_eq_true, decide_eq_true_eq, List.map_append, List.map_cons, List.map_nil, Bool.not_eq_true', List.any_eq_false]
  rw [List.nodup_append]
  constructor
  · rintro ⟨⟨h1, h2⟩, h3, _, h5⟩
    exact ⟨⟨h1, h3⟩, h2, fun x hx h => h5 _ (List.mem_map_of_mem hx) c.nm (by simp) h⟩
  · rintro ⟨⟨h1, h3⟩, h2, h4⟩
    refine ⟨⟨h1, h2⟩, h3, by simp, fun a ha b hb hab => ?_⟩
    obtain ⟨x, hx, rfl⟩ := List.mem_map.1 ha
    rw [List.mem_singleton] at hb
    exact h4 x hx (hab.trans hb)
theorem okD_perm {xs ys : List Crd} (h : xs.Perm ys) : okD xs = okD ys := by
  unfold okD
  rw [h.all_eq, Bool.eq_iff_iff]
  simp only [Bool.and_eq_true, decide_eq_true_eq]
  rw [(h.map Crd.nm).nodup_iff]
theorem deckB_perm {xs ys : List Crd} (h : xs.Perm ys) : deckB xs = deckB ys := by unfold deckB; rw [okD_perm h, h.length_eq]
/-- Two decks put together by a key. -/
def mergeF (key : Crd → Int) (a b : List Crd) : List Crd := List.merge a b fun x y => decide (key x ≤ key y)
theorem mergeF_perm (key : Crd → Int) (a b : List Crd) : (mergeF key a b).Perm (a ++ b) := List.merge_perm_append _
theorem mergeF_ok (key : Crd → Int) (a b : List Crd) : deckB (mergeF key a b) = deckB (a ++ b) := deckB_perm (mergeF_perm key a b)
theorem mergeF_right (key : Crd → Int) (x y : Crd) (a b : List Crd) (h : key y < key x) : mergeF key (x :: a) (y :: b) = y :: mergeF key (x :: a) b := by
  unfold mergeF; rw [List.cons_merge_cons_neg]; simpa using h
theorem mergeF_left (key : Crd → Int) (x y : Crd) (a b : List Crd) (h : ¬ key y < key x) : mergeF key (x :: a) (y :: b) = x :: mergeF key a (y :: b) := by
  unfold mergeF; rw [List.cons_merge_cons_pos]; simpa using h
theorem mergeF_nil (key : Crd → Int) (a : List Crd) : mergeF key a [] = a := by unfold mergeF; exact List.merge_right _
theorem nil_mergeF (key : Crd → Int) (b : List Crd) : mergeF key [] b = b := by unfold mergeF; exact List.nil_merge _
end Go.Proofs.YtdlpifgkponnmaaDoor
