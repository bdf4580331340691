/-
  Contract of the reference's ReadWear.
-/
import Derived.Test.YthkphhacmneeiaaGreatDoorJ6
set_option linter.unusedVariables false
set_option linter.unusedSimpArgs false
set_option maxRecDepth 100000
namespace Go.Proofs.YthkphhacmneeiaaGreatDoor
open Go.RowKit
/-- What is known of a word of the text of valid wear. -/
theorem good_word {s : ByteArray} {t f : Mask} (h : good s t f) (hs : s.size ≠ 0) {ws : List ByteArray} (hw : splitC 32 s = ws) (k : Nat) (hk : k < ws.length) {ps : List (Nat × Bool)} (hp : Inc ps) (hps : ws.take k = ps.map wd) :
    ∃ p : Nat × Bool, ws[k] = wd p ∧ p.1 < 96 ∧ lastP ps < p.1 := by
  have e := (hw.symm.trans (good_words h hs))
  have hi := inc_prs t f
  subst e
  rw [List.length_map] at hk
  have h1 : ((prs t f 96).take k).map wd = ps.map wd := by rw [← hps, List.map_take]
  have h2 := map_inj _ _ (fun p hp => hi.2 p (List.mem_of_mem_take hp)) hp.2 h1
  refine ⟨(prs t f 96)[k], by rw [List.getElem_map], hi.2 _ (List.getElem_mem hk), ?_⟩
  have h3 := inc_take hi (k + 1)
  rw [List.take_succ_eq_append_getElem hk, h2] at h3
  exact inc_next h3
theorem no_small {s : ByteArray} (hs : s.size ≠ 0) {ws : List ByteArray} (hw : splitC 32 s = ws) (k : Nat) (hk : k < ws.length) {ps : List (Nat × Bool)} (hp : Inc ps) (hps : ws.take k = ps.map wd) (h : ¬ 2 ≤ ws[k].size) : ∀ t f, ¬ good s t f := fun t f hg => by
  obtain ⟨p, e, _⟩ := good_word hg hs hw k hk hp hps
  exact h (by rw [e]; exact wd_size p)
theorem no_sign {s : ByteArray} (hs : s.size ≠ 0) {ws : List ByteArray} (hw : splitC 32 s = ws) (k : Nat) (hk : k < ws.length) {ps : List (Nat × Bool)} (hp : Inc ps) (hps : ws.take k = ps.map wd) (h0 : 0 < ws[k].size) (h1 : ws[k][0] ≠ 43) (h2 : ws[k][0] ≠ 45) : ∀ t f, ¬ good s t f := fun t f hg => by
  obtain ⟨p, e, _⟩ := good_word hg hs hw k hk hp hps
  have := wd_first p
  have e2 : ws[k][0] = if p.2 = true then 45 else 43 := by rw [← this]; congr 1
  cases hq : p.2 <;> rw [hq] at e2
  · exact h1 e2
  · exact h2 e2
theorem no_num {s : ByteArray} (hs : s.size ≠ 0) {ws : List ByteArray} (hw : splitC 32 s = ws) (k : Nat) (hk : k < ws.length) {ps : List (Nat × Bool)} (hp : Inc ps) (hps : ws.take k = ps.map wd) (h : ∀ n : Nat, n < 96 → lastP ps < n → ws[k].extract 1 ws[k].size ≠ decT n) : ∀ t f, ¬ good s t f := fun t f hg => by
  obtain ⟨p, e, h1, h2⟩ := good_word hg hs hw k hk hp hps
  exact h p.1 h1 h2 (by rw [e]; exact wd_rest p)
theorem dec_num {n : Nat} (h : n < 96) : numB (decT n).data.toList = true ∧ valL (decT n).data.toList = n := by rw [decT_data]; exact num_small n (by omega)
theorem W_zero : (.agg #[.int .u64 (lo 0), .int .u64 (hi 0), .int .u64 (lo 0), .int .u64 (hi 0)] : Value) = .agg #[.int .u64 0, .int .u64 0, .int .u64 0, .int .u64 0] := rfl
