/-
  DC: the texts D9 D10 D11 D12 WMergeDecks in one (written by merge.py).
-/
import Derived.Test.YtdlpifgkponnmaaDoorDB
import Derived.Test.YtdlpifgkponnmaaDoorL6
import Derived.Deep.RegionHeld
set_option linter.unusedVariables false
set_option linter.unusedSimpArgs false
set_option maxRecDepth 100000
namespace Go.Proofs.YtdlpifgkponnmaaDoor
open Go.RowKit
def mdF (a b : List Crd) (f : Fld) : List Crd × Int :=
  if (deckB a && (deckB b && fldB f)) = true then (if (sortedB f a && sortedB f b) = true then (if a.length + b.length ≤ 80 then (if deckB (a ++ b) = true then (mergeF (kf f) a b, 0) else ([], 8)) else ([], 3)) else ([], 4)) else ([], 1)
theorem md_bad {a b : List Crd} {f : Fld} (h : (deckB a && (deckB b && fldB f)) = false) : mdF a b f = ([], 1) := by unfold mdF; rw [h]; rfl
theorem md_un {a b : List Crd} {f : Fld} (h : (deckB a && (deckB b && fldB f)) = true) (h2 : (sortedB f a && sortedB f b) = false) : mdF a b f = ([], 4) := by unfold mdF; rw [if_pos h, h2]; rfl
theorem md_far {a b : List Crd} {f : Fld} (h : (deckB a && (deckB b && fldB f)) = true) (h2 : (sortedB f a && sortedB f b) = true) (h3 : ¬ a.length + b.length ≤ 80) : mdF a b f = ([], 3) := by unfold mdF; rw [if_pos h, if_pos h2, if_neg h3]
theorem md_two {a b : List Crd} {f : Fld} (h : (deckB a && (deckB b && fldB f)) = true) (h2 : (sortedB f a && sortedB f b) = true) (h3 : a.length + b.length ≤ 80) (h4 : deckB (a ++ b) = false) : mdF a b f = ([], 8) := by unfold mdF; rw [if_pos h, if_pos h2, if_pos h3, h4]; rfl
theorem md_ok {a b : List Crd} {f : Fld} (h : (deckB a && (deckB b && fldB f)) = true) (h2 : (sortedB f a && sortedB f b) = true) (h3 : a.length + b.length ≤ 80) (h4 : deckB (a ++ b) = true) : mdF a b f = (mergeF (kf f) a b, 0) := by unfold mdF; rw [if_pos h, if_pos h2, if_pos h3, if_pos h4]
theorem merge_len (key : Crd → Int) (a b : List Crd) : (mergeF key a b).length = a.length + b.length := by rw [(mergeF_perm key a b).length_eq, List.length_append]
theorem md_len (a b : List Crd) (f : Fld) : (mdF a b f).1.length ≤ 80 := by
  unfold mdF
  split
  · split
    · split
      · rename_i h
        split
        · show (mergeF (kf f) a b).length ≤ 80
          rw [merge_len]; exact h
        · exact Nat.zero_le _
      · exact Nat.zero_le _
    · exact Nat.zero_le _
  · exact Nat.zero_le _
/-- A step of the merge: what is out already, and what is left of both. -/
theorem merge_b {key : Crd → Int} {a b : List Crd} {i j : Nat} (hi : i < a.length) (hj : j < b.length) (h : key b[j] < key a[i]) : mergeF key (a.drop i) (b.drop j) = b[j] :: mergeF key (a.drop i) (b.drop (j + 1)) := by
  rw [List.drop_eq_getElem_cons hi, List.drop_eq_getElem_cons hj]; exact mergeF_right key _ _ _ _ h
theorem merge_a {key : Crd → Int} {a b : List Crd} {i j : Nat} (hi : i < a.length) (hj : j < b.length) (h : ¬ key b[j] < key a[i]) : mergeF key (a.drop i) (b.drop j) = a[i] :: mergeF key (a.drop (i + 1)) (b.drop j) := by
  rw [List.drop_eq_getElem_cons hi, List.drop_eq_getElem_cons hj]; exact mergeF_left key _ _ _ _ h
theorem merge_a0 {key : Crd → Int} {a b : List Crd} {i j : Nat} (hi : i < a.length) (hj : ¬ j < b.length) : mergeF key (a.drop i) (b.drop j) = a[i] :: mergeF key (a.drop (i + 1)) (b.drop j) := by
  rw [List.drop_eq_nil_of_le (by omega : b.length ≤ j), mergeF_nil, mergeF_nil, List.drop_eq_getElem_cons hi]
theorem merge_b0 {key : Crd → Int} {a b : List Crd} {i j : Nat} (hi : ¬ i < a.length) (hj : j < b.length) : mergeF key (a.drop i) (b.drop j) = b[j] :: mergeF key (a.drop i) (b.drop (j + 1)) := by
  rw [List.drop_eq_nil_of_le (by omega : a.length ≤ i), nil_mergeF, nil_mergeF, List.drop_eq_getElem_cons hj]
theorem merge_end {key : Crd → Int} {a b : List Crd} {i j : Nat} (hi : ¬ i < a.length) (hj : ¬ j < b.length) : mergeF key (a.drop i) (b.drop j) = [] := by
  rw [List.drop_eq_nil_of_le (by omega : a.length ≤ i), nil_mergeF, List.drop_eq_nil_of_le (by omega)]
end Go.Proofs.YtdlpifgkponnmaaDoor
set_option linter.unusedVariables false
set_option linter.unusedSimpArgs false
set_option maxRecDepth 100000
namespace Go.Proofs.YtdlpifgkponnmaaDoor
open Go.RowKit
/-- The reference's loop, from the world behind its checks on. -/
theorem md_split (a b : List Crd) (f : Fld) (h1 : deckB a = true) (h2 : deckB b = true) (h3 : fldB f = true) : (deckB a && (deckB b && fldB f)) = true := by rw [h1, h2, h3]; rfl
set_option maxHeartbeats 2000000 in
theorem spec_MergeDecks_no (a b : List Crd) (A B : Option Addr) (cap cap' : Nat) (f : Fld) (w : World) (hR : Rd encCrd w A a) (hn : a.length ≤ 1048576) (hok : ∀ c ∈ a, CrdIn c) (hS : Rd encCrd w B b) (hm : b.length ≤ 1048576) (hok' : ∀ c ∈ b, CrdIn c) (hf : FldIn f) (hbad : (deckB a && (deckB b && fldB f)) = false) :
    Calls Tryd.prog 18 #[.slice A a.length cap, .slice B b.length cap', .agg #[.string f.nm, .int .i8 f.kd, .int .i16 f.st, .int .i16 f.sz]] w fun e w' => ∃ v, e = .returned (.tuple #[v, .int .i64 (mdF a b f).2]) ∧ Ow encCrd 60 w' w.heap.size v (mdF a b f).1 ∧ Ext w w' := by
  have hF0 : ∀ W, BoxAt W w.heap.size #[.string f.nm, .int .i8 f.kd, .int .i16 f.st, .int .i16 f.sz] 33 → FldAt W w.heap.size 0 f := fun W h => ⟨h.cell 0, h.cell 1, h.cell 2, h.cell 3⟩
  have h1 := fun (W : World) (hE : Ext w W) => spec_l02Ok a A cap W (hR.ext hE) hn hok
  have h2 := fun (W : World) (hE : Ext w W) => spec_l02Ok b B cap' W (hS.ext hE) hm hok'
  have h3 := fun (W : World) (h : FldAt W w.heap.size 0 f) => l01Field_in f hf w.heap.size 0 W h
  have hv := hd (md_bad hbad)
  have hX0 : BoxAt (w.alloc (.cells #[.string f.nm, .int .i8 f.kd, .int .i16 f.st, .int .i16 f.sz] 33)) w.heap.size #[.string f.nm, .int .i8 f.kd, .int .i16 f.st, .int .i16 f.sz] 33 := BoxAt.new' rfl
  have hE0 : Ext w (w.alloc (.cells #[.string f.nm, .int .i8 f.kd, .int .i16 f.st, .int .i16 f.sz] 33)) := (Ext.refl _).alloc _
  cases hd1 : deckB a with
  | false =>
    rw [hd1] at h1
    clear hbad h2 h3
    go_enter Tryd.func18, Tryd.ntmps18
    go_wp2_with fail
    refine Calls.mono (h1 _ hE0) ?_
    rintro e w1 ⟨rfl, hb1⟩
    go_wp2
    refine bodyPost_ret (v := .tuple #[.slice (some ⟨w1.heap.size, 0, none⟩) 0 0, .int .i64 1]) (by simp [results, Tryd.results18, go_sem]) rfl ⟨_, by rw [hv.out], by rw [hv.out]; exact Ow.made0 rfl (hE0.trans hb1).size, (hE0.trans hb1).alloc _⟩
  | true =>
    rw [hd1] at h1 hbad
    cases hd2 : deckB b with
    | false =>
      rw [hd2] at h2
      clear hbad h3
      go_enter Tryd.func18, Tryd.ntmps18
      go_wp2_with fail
      refine Calls.mono (h1 _ hE0) ?_
      rintro e w1 ⟨rfl, hb1⟩
      go_wp2_with fail
      refine Calls.mono (h2 _ (hE0.trans hb1)) ?_
      rintro e w2 ⟨rfl, hb2⟩
      have hw2 := (hE0.trans hb1).trans hb2
      go_wp2
      refine bodyPost_ret (v := .tuple #[.slice (some ⟨w2.heap.size, 0, none⟩) 0 0, .int .i64 1]) (by simp [results, Tryd.results18, go_sem]) rfl ⟨_, by rw [hv.out], by rw [hv.out]; exact Ow.made0 rfl hw2.size, hw2.alloc _⟩
    | true =>
      rw [hd2] at h2 hbad
      have hd3 : fldB f = false := by simpa using hbad
      rw [hd3] at h3
      clear hbad
      go_enter Tryd.func18, Tryd.ntmps18
      go_wp2_with fail
      refine Calls.mono (h1 _ hE0) ?_
      rintro e w1 ⟨rfl, hb1⟩
      go_wp2_with fail
      refine Calls.mono (h2 _ (hE0.trans hb1)) ?_
      rintro e w2 ⟨rfl, hb2⟩
      go_wp2_with fail
      refine Calls.mono (h3 _ (hF0 _ ((hX0.ext hb1).ext hb2))) ?_
      rintro e w3 ⟨rfl, hb3⟩
      have hw3 := ((hE0.trans hb1).trans hb2).trans hb3
      go_wp2
      refine bodyPost_ret (v := .tuple #[.slice (some ⟨w3.heap.size, 0, none⟩) 0 0, .int .i64 1]) (by simp [results, Tryd.results18, go_sem]) rfl ⟨_, by rw [hv.out], by rw [hv.out]; exact Ow.made0 rfl hw3.size, hw3.alloc _⟩
end Go.Proofs.YtdlpifgkponnmaaDoor
set_option linter.unusedVariables false
set_option linter.unusedSimpArgs false
set_option maxRecDepth 100000
namespace Go.Proofs.YtdlpifgkponnmaaDoor
open Go.RowKit
set_option maxHeartbeats 4000000 in
theorem spec_MergeDecks_yes (a b : List Crd) (A B : Option Addr) (cap cap' : Nat) (f : Fld) (w : World) (hR : Rd encCrd w A a) (hn : a.length ≤ 1048576) (hok : ∀ c ∈ a, CrdIn c) (hS : Rd encCrd w B b) (hm : b.length ≤ 1048576) (hok' : ∀ c ∈ b, CrdIn c) (hf : FldIn f) (hd1 : deckB a = true) (hd2 : deckB b = true) (hd3 : fldB f = true) :
    Calls Tryd.prog 18 #[.slice A a.length cap, .slice B b.length cap', .agg #[.string f.nm, .int .i8 f.kd, .int .i16 f.st, .int .i16 f.sz]] w fun e w' => ∃ v, e = .returned (.tuple #[v, .int .i64 (mdF a b f).2]) ∧ Ow encCrd 60 w' w.heap.size v (mdF a b f).1 ∧ Ext w w' := by
  have hx := @ExtOf.cell
  have hF0 : ∀ W, BoxAt W w.heap.size #[.string f.nm, .int .i8 f.kd, .int .i16 f.st, .int .i16 f.sz] 33 → FldAt W w.heap.size 0 f := fun W h => ⟨h.cell 0, h.cell 1, h.cell 2, h.cell 3⟩
  have h1 := fun (W : World) (hE : Ext w W) => spec_l02Ok a A cap W (hR.ext hE) hn hok
  have h2 := fun (W : World) (hE : Ext w W) => spec_l02Ok b B cap' W (hS.ext hE) hm hok'
  have h3 := fun (W : World) (h : FldAt W w.heap.size 0 f) => l01Field_in f hf w.heap.size 0 W h
  have s1 := fun (W : World) (hF : FldAt W w.heap.size 0 f) (hE : Ext w W) => spec_l02Sorted f hd3 hf.1.2.2.1 hf.1.2.2.2 a A cap w.heap.size 0 W hF (hR.ext hE) hn
  have s2 := fun (W : World) (hF : FldAt W w.heap.size 0 f) (hE : Ext w W) => spec_l02Sorted f hd3 hf.1.2.2.1 hf.1.2.2.2 b B cap' w.heap.size 0 W hF (hS.ext hE) hm
  have hky := fun (m : Mask) (W : World) (hF : FldAt W w.heap.size 0 f) => spec_l02Key f hd3 hf.1.2.2.1 hf.1.2.2.2 m w.heap.size 0 W hF
  have hall := md_split a b f hd1 hd2 hd3
  have hX0 : BoxAt (w.alloc (.cells #[.string f.nm, .int .i8 f.kd, .int .i16 f.st, .int .i16 f.sz] 33)) w.heap.size #[.string f.nm, .int .i8 f.kd, .int .i16 f.st, .int .i16 f.sz] 33 := BoxAt.new' rfl
  have hE0 : Ext w (w.alloc (.cells #[.string f.nm, .int .i8 f.kd, .int .i16 f.st, .int .i16 f.sz] 33)) := (Ext.refl _).alloc _
  rw [hd1] at h1
  rw [hd2] at h2
  rw [hd3] at h3
  cases hs1 : sortedB f a with
  | false =>
    have hv := hd (md_un hall (by rw [hs1]; rfl))
    rw [hs1] at s1
    clear s2 hky hall
    go_enter Tryd.func18, Tryd.ntmps18
    go_wp2_with fail
    refine Calls.mono (h1 _ hE0) ?_
    rintro e w1 ⟨rfl, hb1⟩
    go_wp2_with fail
    refine Calls.mono (h2 _ (hE0.trans hb1)) ?_
    rintro e w2 ⟨rfl, hb2⟩
    go_wp2_with fail
    refine Calls.mono (h3 _ (hF0 _ ((hX0.ext hb1).ext hb2))) ?_
    rintro e w3 ⟨rfl, hb3⟩
    have hw3 := ((hE0.trans hb1).trans hb2).trans hb3
    go_wp2_with fail
    refine Calls.mono (s1 _ (hF0 _ (((hX0.ext hb1).ext hb2).ext hb3)) hw3) ?_
    rintro e w4 ⟨rfl, hb4⟩
    have hw4 := hw3.trans hb4
    go_wp2
    refine bodyPost_ret (v := .tuple #[.slice (some ⟨w4.heap.size, 0, none⟩) 0 0, .int .i64 4]) (by simp [results, Tryd.results18, go_sem]) rfl ⟨_, by rw [hv.out], by rw [hv.out]; exact Ow.made0 rfl hw4.size, hw4.alloc _⟩
  | true =>
    rw [hs1] at s1
    cases hs2 : sortedB f b with
    | false =>
      have hv := hd (md_un hall (by rw [hs1, hs2]; rfl))
      rw [hs2] at s2
      clear hky hall
      go_enter Tryd.func18, Tryd.ntmps18
      go_wp2_with fail
      refine Calls.mono (h1 _ hE0) ?_
      rintro e w1 ⟨rfl, hb1⟩
      go_wp2_with fail
      refine Calls.mono (h2 _ (hE0.trans hb1)) ?_
      rintro e w2 ⟨rfl, hb2⟩
      go_wp2_with fail
      refine Calls.mono (h3 _ (hF0 _ ((hX0.ext hb1).ext hb2))) ?_
      rintro e w3 ⟨rfl, hb3⟩
      have hw3 := ((hE0.trans hb1).trans hb2).trans hb3
      go_wp2_with fail
      refine Calls.mono (s1 _ (hF0 _ (((hX0.ext hb1).ext hb2).ext hb3)) hw3) ?_
      rintro e w4 ⟨rfl, hb4⟩
      have hw4 := hw3.trans hb4
      go_wp2_with fail
      refine Calls.mono (s2 _ (hF0 _ ((((hX0.ext hb1).ext hb2).ext hb3).ext hb4)) hw4) ?_
      rintro e w5 ⟨rfl, hb5⟩
      have hw5 := hw4.trans hb5
      go_wp2
      refine bodyPost_ret (v := .tuple #[.slice (some ⟨w5.heap.size, 0, none⟩) 0 0, .int .i64 4]) (by simp [results, Tryd.results18, go_sem]) rfl ⟨_, by rw [hv.out], by rw [hv.out]; exact Ow.made0 rfl hw5.size, hw5.alloc _⟩
    | true =>
      rw [hs2] at s2
      by_cases h80 : a.length + b.length ≤ 80
      · have hv2 := fun h => md_two hall (by rw [hs1, hs2]; rfl) h80 h
        have hv3 := fun h => md_ok hall (by rw [hs1, hs2]; rfl) h80 h
        have hle : ((a.length : Int) + (b.length : Int) ≤ 80) := by omega
        have hmk := mergeF_ok (kf f) a b
        have hml := merge_len (kf f) a b
        have hMok : ∀ c ∈ mergeF (kf f) a b, CrdIn c := fun c hc => by
          rcases List.mem_append.1 ((mergeF_perm (kf f) a b).mem_iff.1 hc) with h | h
          · exact hok c h
          · exact hok' c h
        have hend := fun i j hi hj => merge_end (key := kf f) (a := a) (b := b) (i := i) (j := j) hi hj
        have ha := fun i j hi hj h => merge_a (key := kf f) (a := a) (b := b) (i := i) (j := j) hi hj h
        have hb := fun i j hi hj h => merge_b (key := kf f) (a := a) (b := b) (i := i) (j := j) hi hj h
        have ha0 := fun i j hi hj => merge_a0 (key := kf f) (a := a) (b := b) (i := i) (j := j) hi hj
        have hb0 := fun i j hi hj => merge_b0 (key := kf f) (a := a) (b := b) (i := i) (j := j) hi hj
        have hM0 : mergeF (kf f) (a.drop 0) (b.drop 0) = mergeF (kf f) a b := by rw [List.drop_zero, List.drop_zero]
        generalize mergeF (kf f) a b = M at hv3 hmk hml hM0 hMok
        clear hall
        go_enter Tryd.func18, Tryd.ntmps18
        go_wp2_with fail
        refine Calls.mono (h1 _ hE0) ?_
        rintro e w1 ⟨rfl, hb1⟩
        go_wp2_with fail
        refine Calls.mono (h2 _ (hE0.trans hb1)) ?_
        rintro e w2 ⟨rfl, hb2⟩
        go_wp2_with fail
        refine Calls.mono (h3 _ (hF0 _ ((hX0.ext hb1).ext hb2))) ?_
        rintro e w3 ⟨rfl, hb3⟩
        have hw3 := ((hE0.trans hb1).trans hb2).trans hb3
        go_wp2_with fail
        refine Calls.mono (s1 _ (hF0 _ (((hX0.ext hb1).ext hb2).ext hb3)) hw3) ?_
        rintro e w4 ⟨rfl, hb4⟩
        have hw4 := hw3.trans hb4
        go_wp2_with fail
        refine Calls.mono (s2 _ (hF0 _ ((((hX0.ext hb1).ext hb2).ext hb3).ext hb4)) hw4) ?_
        rintro e w5 ⟨rfl, hb5⟩
        have hw5 := hw4.trans hb5
        have hX5 := (((((hX0.ext hb1).ext hb2).ext hb3).ext hb4)).ext hb5
        clear hb1 hb2 hb3 hb4 hb5 hw3 hw4 h1 h2 h3 s1 s2 hX0 hE0
        go_wp2
        go_loopg [8, 9, 10] (a.length + b.length) (fun g v i j wr => ∃ p q : Nat, ∃ os : List Crd, g = (a.length - p) + (b.length - q) ∧ p ≤ a.length ∧ q ≤ b.length ∧ i = .int .i64 p ∧ j = .int .i64 q ∧ Hd (os.length = p + q) ∧ Hd (os ++ mergeF (kf f) (a.drop p) (b.drop q) = M) ∧ Ext w5 wr ∧ Ow encCrd 60 wr w5.heap.size v os)
        case atStart => exact ⟨0, 0, [], by omega, by omega, by omega, rfl, rfl, hd rfl, hd hM0, (Ext.refl _).alloc _, Ow.made0 rfl (Nat.le_refl _)⟩
        case round =>
          obtain ⟨p, q, os, hg, hp, hq, rfl, rfl, hol, hQ, hw, hO⟩ := hrel
          have hwr := hw5.trans hw
          have hk := fun (m : Mask) (W : World) (hE : Ext wr W) => hky m W (hF0 _ (hX5.ext (hw.trans hE)))
          have eA : ∀ (x : Crd) (R : List Crd), mergeF (kf f) (a.drop p) (b.drop q) = x :: R → Hd (os ++ [x] ++ R = M) := fun x R h => hd (by rw [List.append_assoc, List.singleton_append, ← h]; exact hQ.out)
          have hol2 : os.length ≤ 80 := by have := hol.out; omega
          clear hM0 hml
          by_cases hpl : p < a.length
          · obtain ⟨bA, oA, hA, hltA, _⟩ := hR p hpl
            subst hA
            obtain ⟨m0, m1, m2, m3⟩ := (hR.ext hwr).crd p hpl
            have i1 : (p : Int) < a.length := by omega
            have i3 : ((p : Int) = a.length) = False := eq_false (by omega)
            by_cases hql : q < b.length
            · obtain ⟨bB, oB, hB, hltB, _⟩ := hS q hql
              subst hB
              obtain ⟨n0, n1, n2, n3⟩ := (hS.ext hwr).crd q hql
              have i2 : (q : Int) < b.length := by omega
              have ha1 : ¬ (keyF f b[q].m : Int) < (keyF f a[p].m : Int) → Hd (os ++ [a[p]] ++ mergeF (kf f) (a.drop (p + 1)) (b.drop q) = M) := fun h => eA _ _ (ha p q hpl hql (by first | exact h | exact Int.not_lt.1 h))
              have hb1 : (keyF f b[q].m : Int) < (keyF f a[p].m : Int) → Hd (os ++ [b[q]] ++ mergeF (kf f) (a.drop p) (b.drop (q + 1)) = M) := fun h => eA _ _ (hb p q hpl hql h)
              have hc1 := hk a[p].m
              have hc2 := hk b[q].m
              generalize a[p] = x at m0 m1 m2 hc1 ha1 hb1
              generalize b[q] = y at n0 n1 n2 hc2 ha1 hb1
              generalize keyF f x.m = kx at hc1 ha1 hb1
              generalize keyF f y.m = ky at hc2 ha1 hb1
              by_cases e : (ky : Int) < kx
              · have hQ2 := hb1 e
                have he : ((ky : Int) < kx) = True := eq_true e
                clear hmk ha1 hb1 ha hb ha0 hb0 hend hky eA hk e hQ hv2 hv3
                go_wp2
                refine wp_region_ext (by kernel_rfl) (by kernel_rfl) ?_
                repeat (first | go_big_quiet_step ((first | (go_at_call 43; with_reducible exact Calls.ext_all (fun W hE => hc1 W hE)) | (go_at_call 43; with_reducible exact Calls.ext_all (fun W hE => hc2 W hE)))) | quiet_step ((first | (go_at_call 43; with_reducible exact Calls.ext_all (fun W hE => hc1 W hE)) | (go_at_call 43; with_reducible exact Calls.ext_all (fun W hE => hc2 W hE)))))
                refine wpQuiet_nil ?_
                intro w7 hq7
                have hb7 := ext_of_class hq7
                clear hq7
                obtain ⟨hc7, hf7, hz7⟩ := bcell3 hb7
                try simp at hz7
                have hO7 := hO.ext hb7
                have hw7 := hw.trans hb7
                clear hc7 hf7
                replace m0 := hb7.cell m0
                replace m1 := hb7.cell m1
                replace m2 := hb7.cell m2
                replace n0 := hb7.cell n0
                replace n1 := hb7.cell n1
                replace n2 := hb7.cell n2
                go_wp2_with (at_builtin; refine wpList_push2 (w0 := w5) (base := w5.heap.size) (xs := os) encCrd (by rfl) _ _ 29 (.agg #[.string ⟨#[]⟩, .int .u64 0, .int .u64 0]) 32 (by rfl) Tryd.underlying29 info_Crd (by rfl) (y) (by rfl) (by rfl) (by simp) (hO7) (by have := (hw7 : Ext w5 _).size; simp at this ⊢; omega) (by omega) (hw7) (by omega) (by omega) ?_)
                intro v3 w3 hO3 hb3 hg3 ho3
                go_wp2
                go_roundg ((a.length - p) + (b.length - (q + 1)))
                case rel => exact ⟨p, q + 1, os ++ [y], rfl, hp, hql, by simp, by simp, hd (by have := hol.out; rw [List.length_append, List.length_singleton]; omega), hQ2, hb3, hO3⟩
                case measure => omega
              · have hQ2 := ha1 e
                have he : ((ky : Int) < kx) = False := eq_false e
                clear hmk ha1 hb1 ha hb ha0 hb0 hend hky eA hk e hQ hv2 hv3
                go_wp2
                refine wp_region_ext (by kernel_rfl) (by kernel_rfl) ?_
                repeat (first | go_big_quiet_step ((first | (go_at_call 43; with_reducible exact Calls.ext_all (fun W hE => hc1 W hE)) | (go_at_call 43; with_reducible exact Calls.ext_all (fun W hE => hc2 W hE)))) | quiet_step ((first | (go_at_call 43; with_reducible exact Calls.ext_all (fun W hE => hc1 W hE)) | (go_at_call 43; with_reducible exact Calls.ext_all (fun W hE => hc2 W hE)))))
                refine wpQuiet_nil ?_
                intro w7 hq7
                have hb7 := ext_of_class hq7
                clear hq7
                obtain ⟨hc7, hf7, hz7⟩ := bcell3 hb7
                try simp at hz7
                have hO7 := hO.ext hb7
                have hw7 := hw.trans hb7
                clear hc7 hf7
                replace m0 := hb7.cell m0
                replace m1 := hb7.cell m1
                replace m2 := hb7.cell m2
                replace n0 := hb7.cell n0
                replace n1 := hb7.cell n1
                replace n2 := hb7.cell n2
                go_wp2_with (at_builtin; refine wpList_push2 (w0 := w5) (base := w5.heap.size) (xs := os) encCrd (by rfl) _ _ 29 (.agg #[.string ⟨#[]⟩, .int .u64 0, .int .u64 0]) 32 (by rfl) Tryd.underlying29 info_Crd (by rfl) (x) (by rfl) (by rfl) (by simp) (hO7) (by have := (hw7 : Ext w5 _).size; simp at this ⊢; omega) (by omega) (hw7) (by omega) (by omega) ?_)
                intro v3 w3 hO3 hb3 hg3 ho3
                go_wp2
                go_roundg ((a.length - (p + 1)) + (b.length - q))
                case rel => exact ⟨p + 1, q, os ++ [x], rfl, hpl, hq, by simp, by simp, hd (by have := hol.out; rw [List.length_append, List.length_singleton]; omega), hQ2, hb3, hO3⟩
                case measure => omega
            · have i2 : ((q : Int) < b.length) = False := eq_false (by omega)
              have hQ2 := eA _ _ (ha0 p q hpl hql)
              generalize a[p] = x at m0 m1 m2 hQ2
              clear hmk ha hb ha0 hb0 hend hky eA hk hQ hv2 hv3
              go_wp2
              refine wp_region_ext (by kernel_rfl) (by kernel_rfl) ?_
              repeat (first | go_big_quiet_step (fail) | quiet_step (fail))
              refine wpQuiet_nil ?_
              intro w7 hq7
              have hb7 := ext_of_class hq7
              clear hq7
              obtain ⟨hc7, hf7, hz7⟩ := bcell3 hb7
              try simp at hz7
              have hO7 := hO.ext hb7
              have hw7 := hw.trans hb7
              clear hc7 hf7
              replace m0 := hb7.cell m0
              replace m1 := hb7.cell m1
              replace m2 := hb7.cell m2
              go_wp2_with (at_builtin; refine wpList_push2 (w0 := w5) (base := w5.heap.size) (xs := os) encCrd (by rfl) _ _ 29 (.agg #[.string ⟨#[]⟩, .int .u64 0, .int .u64 0]) 32 (by rfl) Tryd.underlying29 info_Crd (by rfl) (x) (by rfl) (by rfl) (by simp) (hO7) (by have := (hw7 : Ext w5 _).size; simp at this ⊢; omega) (by omega) (hw7) (by omega) (by omega) ?_)
              intro v3 w3 hO3 hb3 hg3 ho3
              go_wp2
              go_roundg ((a.length - (p + 1)) + (b.length - q))
              case rel => exact ⟨p + 1, q, os ++ [x], rfl, hpl, hq, by simp, by simp, hd (by have := hol.out; rw [List.length_append, List.length_singleton]; omega), hQ2, hb3, hO3⟩
              case measure => omega
          · have i1 : ((p : Int) < a.length) = False := eq_false (by omega)
            have i3 : ((p : Int) = a.length) = True := eq_true (by omega)
            by_cases hql : q < b.length
            · obtain ⟨bB, oB, hB, hltB, _⟩ := hS q hql
              subst hB
              obtain ⟨n0, n1, n2, n3⟩ := (hS.ext hwr).crd q hql
              have i2 : (q : Int) < b.length := by omega
              have hQ2 := eA _ _ (hb0 p q hpl hql)
              generalize b[q] = y at n0 n1 n2 hQ2
              clear hmk ha hb ha0 hb0 hend hky eA hk hQ hv2 hv3
              go_wp2
              refine wp_region_ext (by kernel_rfl) (by kernel_rfl) ?_
              repeat (first | go_big_quiet_step (fail) | quiet_step (fail))
              refine wpQuiet_nil ?_
              intro w7 hq7
              have hb7 := ext_of_class hq7
              clear hq7
              obtain ⟨hc7, hf7, hz7⟩ := bcell3 hb7
              try simp at hz7
              have hO7 := hO.ext hb7
              have hw7 := hw.trans hb7
              clear hc7 hf7
              replace n0 := hb7.cell n0
              replace n1 := hb7.cell n1
              replace n2 := hb7.cell n2
              go_wp2_with (at_builtin; refine wpList_push2 (w0 := w5) (base := w5.heap.size) (xs := os) encCrd (by rfl) _ _ 29 (.agg #[.string ⟨#[]⟩, .int .u64 0, .int .u64 0]) 32 (by rfl) Tryd.underlying29 info_Crd (by rfl) (y) (by rfl) (by rfl) (by simp) (hO7) (by have := (hw7 : Ext w5 _).size; simp at this ⊢; omega) (by omega) (hw7) (by omega) (by omega) ?_)
              intro v3 w3 hO3 hb3 hg3 ho3
              go_wp2
              go_roundg ((a.length - p) + (b.length - (q + 1)))
              case rel => exact ⟨p, q + 1, os ++ [y], rfl, hp, hql, by simp, by simp, hd (by have := hol.out; rw [List.length_append, List.length_singleton]; omega), hQ2, hb3, hO3⟩
              case measure => omega
            · have i2 : ((q : Int) < b.length) = False := eq_false (by omega)
              have hQ2 : os = M := by have := hQ.out; rw [hend p q hpl hql, List.append_nil] at this; exact this
              subst hQ2
              clear hend ha hb ha0 hb0 hky eA hk hQ
              obtain ⟨A9, c9, rfl, hle9, hR9⟩ := hO.slice
              have h9 := spec_l02Ok os A9 c9 wr hR9 (by omega) hMok
              rw [hmk] at h9
              clear hmk
              cases hm9 : deckB (a ++ b) with
              | false =>
                have hv := hd (hv2 hm9)
                rw [hm9] at h9
                clear hv2 hv3
                go_wp2_with fail
                refine Calls.mono h9 ?_
                rintro e w8 ⟨rfl, hb8⟩
                have hw8 := hwr.trans hb8
                go_wp2
                refine bodyPost_ret (v := .tuple #[.slice (some ⟨w8.heap.size, 0, none⟩) 0 0, .int .i64 8]) (by simp [results, Tryd.results18, go_sem]) rfl ⟨_, by rw [hv.out], by rw [hv.out]; exact Ow.made0 rfl hw8.size, hw8.alloc _⟩
              | true =>
                have hv := hd (hv3 hm9)
                rw [hm9] at h9
                have hO9 := hO.lower hw5.size
                clear hv2 hv3 hO
                go_wp2_with fail
                refine Calls.mono h9 ?_
                rintro e w8 ⟨rfl, hb8⟩
                have hw8 := hwr.trans hb8
                go_wp2
                refine bodyPost_ret (v := .tuple #[.slice A9 os.length c9, .int .i64 0]) (by simp [results, Tryd.results18, go_sem]) rfl ⟨_, by rw [hv.out], by rw [hv.out]; exact hO9.ext hb8, hw8⟩
      · have hv := hd (md_far hall (by rw [hs1, hs2]; rfl) h80)
        have hgt : (80 : Int) < (a.length : Int) + (b.length : Int) := by omega
        clear hky hall
        go_enter Tryd.func18, Tryd.ntmps18
        go_wp2_with fail
        refine Calls.mono (h1 _ hE0) ?_
        rintro e w1 ⟨rfl, hb1⟩
        go_wp2_with fail
        refine Calls.mono (h2 _ (hE0.trans hb1)) ?_
        rintro e w2 ⟨rfl, hb2⟩
        go_wp2_with fail
        refine Calls.mono (h3 _ (hF0 _ ((hX0.ext hb1).ext hb2))) ?_
        rintro e w3 ⟨rfl, hb3⟩
        have hw3 := ((hE0.trans hb1).trans hb2).trans hb3
        go_wp2_with fail
        refine Calls.mono (s1 _ (hF0 _ (((hX0.ext hb1).ext hb2).ext hb3)) hw3) ?_
        rintro e w4 ⟨rfl, hb4⟩
        have hw4 := hw3.trans hb4
        go_wp2_with fail
        refine Calls.mono (s2 _ (hF0 _ ((((hX0.ext hb1).ext hb2).ext hb3).ext hb4)) hw4) ?_
        rintro e w5 ⟨rfl, hb5⟩
        have hw5 := hw4.trans hb5
        go_wp2
        refine bodyPost_ret (v := .tuple #[.slice (some ⟨w5.heap.size, 0, none⟩) 0 0, .int .i64 3]) (by simp [results, Tryd.results18, go_sem]) rfl ⟨_, by rw [hv.out], by rw [hv.out]; exact Ow.made0 rfl hw5.size, hw5.alloc _⟩
end Go.Proofs.YtdlpifgkponnmaaDoor
set_option linter.unusedVariables false
set_option linter.unusedSimpArgs false
set_option maxRecDepth 100000
namespace Go.Proofs.YtdlpifgkponnmaaDoor
open Go.RowKit
theorem Rd.tl {α : Type} {e : Enc α} {w : World} {b off : Nat} {xs : List α} (h : Rd e w (some ⟨b, off, none⟩) xs) : Rd e w (some ⟨b, off + e.sz, none⟩) xs.tail := fun k hk => by
  have hk2 : k + 1 < xs.length := by rw [List.length_tail] at hk; omega
  obtain ⟨b', off', hA, hlt, hc⟩ := h (k + 1) hk2
  simp only [Option.some.injEq, Addr.mk.injEq, and_true] at hA
  obtain ⟨rfl, rfl⟩ := hA
  refine ⟨_, _, rfl, hlt, fun j u hu => ?_⟩
  rw [List.getElem_tail] at hu
  have := hc j u hu
  rw [show off + e.sz + k * e.sz + j = off + (k + 1) * e.sz + j by rw [Nat.add_mul]; omega]
  exact this
theorem Rd.hd0 {w : World} {A : Option Addr} {xs : List Crd} (h : Rd encCrd w A xs) {n : Nat} (hn : Hd (xs.length = n)) (h0 : 0 < n) : ∃ b off x, A = some ⟨b, off, none⟩ ∧ xs = x :: xs.tail ∧ w.cell? ⟨b, off, none⟩ = some (.string x.nm) ∧ w.cell? ⟨b, off + 1, none⟩ = some (.int .u64 (lo x.m)) ∧ w.cell? ⟨b, off + 2, none⟩ = some (.int .u64 (hi x.m)) ∧ b < w.heap.size := by
  cases xs with
  | nil => have := hn.out; simp at this; omega
  | cons x xs =>
    obtain ⟨b, off, rfl, hlt, _⟩ := h 0 (Nat.zero_lt_succ _)
    obtain ⟨m0, m1, m2, _⟩ := h.crd 0 (Nat.zero_lt_succ _)
    simp only [Nat.zero_mul, Nat.add_zero, List.getElem_cons_zero] at m0 m1 m2
    exact ⟨b, off, x, rfl, rfl, m0, m1, m2, hlt⟩
theorem tail_len {α : Type} {xs : List α} {n : Nat} (h : Hd (xs.length = n)) : Hd (xs.tail.length = n - 1) := hd (by rw [List.length_tail, h.out])
theorem tail_one {α : Type} {xs : List α} {n : Nat} (h : Hd (xs.length = n)) (h1 : n ≤ 1) : xs.tail = [] := List.eq_nil_of_length_eq_zero (by rw [List.length_tail, h.out]; omega)
theorem len_zero {α : Type} {xs : List α} (h : Hd (xs.length = 0)) : xs = [] := List.eq_nil_of_length_eq_zero h.out
set_option maxHeartbeats 4000000 in
theorem impl_MergeDecks (a b : List Crd) (A B : Option Addr) (cap cap' : Nat) (f : Fld) (w : World) (hR : Rd encCrd w A a) (hcap : a.length ≤ cap) (hn : a.length ≤ 1048576) (hok : ∀ c ∈ a, CrdIn c) (hS : Rd encCrd w B b) (hcap' : b.length ≤ cap') (hm : b.length ≤ 1048576) (hok' : ∀ c ∈ b, CrdIn c) (hf : FldIn f) :
    Calls Tryd.prog 19 #[.slice A a.length cap, .slice B b.length cap', .agg #[.string f.nm, .int .i8 f.kd, .int .i16 f.st, .int .i16 f.sz]] w fun e w' => ∃ v, e = .returned (.tuple #[v, .int .i64 (mdF a b f).2]) ∧ Ow encCrd 60 w' w.heap.size v (mdF a b f).1 ∧ Ext w w' := by
  have hx := @ExtOf.cell
  have h1 := fun (W : World) (hE : Ext w W) => impl_isDeck a A cap W (hR.ext hE) hcap hn hok
  have h2 := fun (W : World) (hE : Ext w W) => impl_isDeck b B cap' W (hS.ext hE) hcap' hm hok'
  have h3 := fun (W : World) => isField_in f hf W
  have s1 := fun (h : fldB f = true) (W : World) (hE : Ext w W) => impl_isSorted f h a A cap W (hR.ext hE) hn
  have s2 := fun (h : fldB f = true) (W : World) (hE : Ext w W) => impl_isSorted f h b B cap' W (hS.ext hE) hm
  have hky := fun (h : fldB f = true) (m : Mask) (W : World) => impl_key f h m W
  have hbad := fun h => md_bad (a := a) (b := b) (f := f) h
  have hall := md_split a b f
  have hX0 : BoxAt (w.alloc (.cells #[.string f.nm, .int .i8 f.kd, .int .i16 f.st, .int .i16 f.sz] 33)) w.heap.size #[.string f.nm, .int .i8 f.kd, .int .i16 f.st, .int .i16 f.sz] 33 := BoxAt.new' rfl
  have hE0 : Ext w (w.alloc (.cells #[.string f.nm, .int .i8 f.kd, .int .i16 f.st, .int .i16 f.sz] 33)) := (Ext.refl _).alloc _
  have hw1s := fun (w1 : World) (hb : Ext (w.alloc (.cells #[.string f.nm, .int .i8 f.kd, .int .i16 f.st, .int .i16 f.sz] 33)) w1) => (⟨(hX0.ext hb).cell 0, (hX0.ext hb).cell 1, (hX0.ext hb).cell 2, (hX0.ext hb).cell 3, (hX0.ext hb).lt⟩ : w1.cell? ⟨w.heap.size, 0, none⟩ = some (.string f.nm) ∧ w1.cell? ⟨w.heap.size, 1, none⟩ = some (.int .i8 f.kd) ∧ w1.cell? ⟨w.heap.size, 2, none⟩ = some (.int .i16 f.st) ∧ w1.cell? ⟨w.heap.size, 3, none⟩ = some (.int .i16 f.sz) ∧ w.heap.size < w1.heap.size)
  cases hd1 : deckB a with
  | false =>
    have hv := hd (hbad (by rw [hd1]; rfl))
    rw [hd1] at h1
    clear h2 h3 s1 s2 hky hbad hall hw1s
    go_enter Tryd.func19, Tryd.ntmps19
    go_wp2_with fail
    refine Calls.mono (h1 _ hE0) ?_
    rintro e w1 ⟨rfl, hb1⟩
    go_wp2
    refine bodyPost_ret (v := .tuple #[.slice none 0 0, .int .i64 1]) (by simp [results, Tryd.results19, go_sem]) rfl ⟨_, by rw [hv.out], by rw [hv.out]; exact Ow.nil _ _ _ _, hE0.trans hb1⟩
  | true =>
    rw [hd1] at h1
    cases hd2 : deckB b with
    | false =>
      have hv := hd (hbad (by rw [hd1, hd2]; rfl))
      rw [hd2] at h2
      clear h3 s1 s2 hky hbad hall hw1s
      go_enter Tryd.func19, Tryd.ntmps19
      go_wp2_with fail
      refine Calls.mono (h1 _ hE0) ?_
      rintro e w1 ⟨rfl, hb1⟩
      go_wp2_with fail
      refine Calls.mono (h2 _ (hE0.trans hb1)) ?_
      rintro e w2 ⟨rfl, hb2⟩
      go_wp2
      refine bodyPost_ret (v := .tuple #[.slice none 0 0, .int .i64 1]) (by simp [results, Tryd.results19, go_sem]) rfl ⟨_, by rw [hv.out], by rw [hv.out]; exact Ow.nil _ _ _ _, (hE0.trans hb1).trans hb2⟩
    | true =>
      rw [hd2] at h2
      cases hd3 : fldB f with
      | false =>
        have hv := hd (hbad (by rw [hd1, hd2, hd3]; rfl))
        rw [hd3] at h3
        clear s1 s2 hky hbad hall
        go_enter Tryd.func19, Tryd.ntmps19
        go_wp2_with fail
        refine Calls.mono (h1 _ hE0) ?_
        rintro e w1 ⟨rfl, hb1⟩
        go_wp2_with fail
        refine Calls.mono (h2 _ (hE0.trans hb1)) ?_
        rintro e w2 ⟨rfl, hb2⟩
        have hb12 := hb1.trans hb2
        obtain ⟨x0, x1, x2, x3, lX⟩ := hw1s w2 hb12
        go_wp2_with fail
        refine Calls.mono (h3 _) ?_
        rintro e w3 ⟨rfl, hb3⟩
        go_wp2
        refine bodyPost_ret (v := .tuple #[.slice none 0 0, .int .i64 1]) (by simp [results, Tryd.results19, go_sem]) rfl ⟨_, by rw [hv.out], by rw [hv.out]; exact Ow.nil _ _ _ _, (hE0.trans hb12).trans hb3⟩
      | true =>
        rw [hd3] at h3
        replace s1 := s1 hd3
        replace s2 := s2 hd3
        replace hky := hky hd3
        have hall := hall hd1 hd2 hd3
        clear hbad
        cases hs1 : sortedB f a with
        | false =>
          have hv := hd (md_un hall (by rw [hs1]; rfl))
          rw [hs1] at s1
          clear s2 hky hall
          go_enter Tryd.func19, Tryd.ntmps19
          go_wp2_with fail
          refine Calls.mono (h1 _ hE0) ?_
          rintro e w1 ⟨rfl, hb1⟩
          go_wp2_with fail
          refine Calls.mono (h2 _ (hE0.trans hb1)) ?_
          rintro e w2 ⟨rfl, hb2⟩
          have hb12 := hb1.trans hb2
          obtain ⟨x0, x1, x2, x3, lX⟩ := hw1s w2 hb12
          go_wp2_with fail
          refine Calls.mono (h3 _) ?_
          rintro e w3 ⟨rfl, hb3⟩
          have hb13 := hb12.trans hb3
          clear x0 x1 x2 x3 lX
          obtain ⟨x0, x1, x2, x3, lX⟩ := hw1s w3 hb13
          go_wp2_with fail
          refine Calls.mono (s1 _ (hE0.trans hb13)) ?_
          rintro e w4 ⟨rfl, hb4⟩
          go_wp2
          refine bodyPost_ret (v := .tuple #[.slice none 0 0, .int .i64 4]) (by simp [results, Tryd.results19, go_sem]) rfl ⟨_, by rw [hv.out], by rw [hv.out]; exact Ow.nil _ _ _ _, (hE0.trans hb13).trans hb4⟩
        | true =>
          rw [hs1] at s1
          cases hs2 : sortedB f b with
          | false =>
            have hv := hd (md_un hall (by rw [hs1, hs2]; rfl))
            rw [hs2] at s2
            clear hky hall
            go_enter Tryd.func19, Tryd.ntmps19
            go_wp2_with fail
            refine Calls.mono (h1 _ hE0) ?_
            rintro e w1 ⟨rfl, hb1⟩
            go_wp2_with fail
            refine Calls.mono (h2 _ (hE0.trans hb1)) ?_
            rintro e w2 ⟨rfl, hb2⟩
            have hb12 := hb1.trans hb2
            obtain ⟨x0, x1, x2, x3, lX⟩ := hw1s w2 hb12
            go_wp2_with fail
            refine Calls.mono (h3 _) ?_
            rintro e w3 ⟨rfl, hb3⟩
            have hb13 := hb12.trans hb3
            clear x0 x1 x2 x3 lX
            obtain ⟨x0, x1, x2, x3, lX⟩ := hw1s w3 hb13
            go_wp2_with fail
            refine Calls.mono (s1 _ (hE0.trans hb13)) ?_
            rintro e w4 ⟨rfl, hb4⟩
            have hb14 := hb13.trans hb4
            clear x0 x1 x2 x3 lX
            obtain ⟨x0, x1, x2, x3, lX⟩ := hw1s w4 hb14
            go_wp2_with fail
            refine Calls.mono (s2 _ (hE0.trans hb14)) ?_
            rintro e w5 ⟨rfl, hb5⟩
            go_wp2
            refine bodyPost_ret (v := .tuple #[.slice none 0 0, .int .i64 4]) (by simp [results, Tryd.results19, go_sem]) rfl ⟨_, by rw [hv.out], by rw [hv.out]; exact Ow.nil _ _ _ _, (hE0.trans hb14).trans hb5⟩
          | true =>
            rw [hs2] at s2
            by_cases h80 : a.length + b.length ≤ 80
            · have hv2 := fun h => md_two hall (by rw [hs1, hs2]; rfl) h80 h
              have hv3 := fun h => md_ok hall (by rw [hs1, hs2]; rfl) h80 h
              have hle : ((a.length : Int) + (b.length : Int) ≤ 80) := by omega
              have hab : ∀ c ∈ a ++ b, CrdIn c := fun c hc => (List.mem_append.1 hc).elim (hok c) (hok' c)
              have hlab : (a ++ b).length ≤ 80 := by rw [List.length_append]; exact h80
              clear hall
              go_enter Tryd.func19, Tryd.ntmps19
              go_wp2_with fail
              refine Calls.mono (h1 _ hE0) ?_
              rintro e w1 ⟨rfl, hb1⟩
              go_wp2_with fail
              refine Calls.mono (h2 _ (hE0.trans hb1)) ?_
              rintro e w2 ⟨rfl, hb2⟩
              have hb12 := hb1.trans hb2
              obtain ⟨x0, x1, x2, x3, lX⟩ := hw1s w2 hb12
              go_wp2_with fail
              refine Calls.mono (h3 _) ?_
              rintro e w3 ⟨rfl, hb3⟩
              have hb13 := hb12.trans hb3
              clear x0 x1 x2 x3 lX
              obtain ⟨x0, x1, x2, x3, lX⟩ := hw1s w3 hb13
              go_wp2_with fail
              refine Calls.mono (s1 _ (hE0.trans hb13)) ?_
              rintro e w4 ⟨rfl, hb4⟩
              have hb14 := hb13.trans hb4
              clear x0 x1 x2 x3 lX
              obtain ⟨x0, x1, x2, x3, lX⟩ := hw1s w4 hb14
              go_wp2_with fail
              refine Calls.mono (s2 _ (hE0.trans hb14)) ?_
              rintro e w5 ⟨rfl, hb5⟩
              have hb15 := hb14.trans hb5
              have hw5 := hE0.trans hb15
              clear x0 x1 x2 x3 lX h1 h2 h3 s1 s2 hb1 hb2 hb3 hb4 hb5 hb12 hb13 hb14
              go_wp2_with (at_builtin; refine wpList_addAny (w0 := w5) (base := w5.heap.size) (xs := []) encCrd (by rfl) _ _ 29 (.agg #[.string ⟨#[]⟩, .int .u64 0, .int .u64 0]) 32 (by rfl) Tryd.underlying29 info_Crd (by rfl) a A cap (by rfl) (by rfl) (hR.ext (hw5.alloc _)) (Ow.made0 rfl (Nat.le_refl _)) ((Ext.refl w5).alloc (.cells #[] 60)).size (Nat.le_refl _) ((Ext.refl w5).alloc (.cells #[] 60)) (by simp only [List.length_nil]; omega) (by simp only [List.length_nil]; omega) ?_)
              intro v6 w6 hO6 hw6
              try rw [List.nil_append] at hO6
              go_wp2_with (at_builtin; refine wpList_addAny (w0 := w5) (base := w5.heap.size) (xs := a) encCrd (by rfl) _ _ 29 (.agg #[.string ⟨#[]⟩, .int .u64 0, .int .u64 0]) 32 (by rfl) Tryd.underlying29 info_Crd (by rfl) b B cap' (by rfl) (by rfl) (hS.ext (hw5.trans hw6)) (hO6) hw6.size (Nat.le_refl _) hw6 (by omega) (by omega) ?_)
              intro v7 w7 hO7 hw7
              obtain ⟨A7, c7, rfl, hle7, hR7⟩ := hO7.slice
              clear hO6 hO7 hw6
              have h7 := impl_isDeck (a ++ b) A7 c7 w7 hR7 hle7 (by omega) hab
              generalize hlN : (a ++ b).length = lN at h7 hle7 hlab ⊢
              clear hlN
              cases hm9 : deckB (a ++ b) with
              | false =>
                have hv := hd (hv2 hm9)
                rw [hm9] at h7
                clear hv2 hv3 hky
                go_wp2_with fail
                refine Calls.mono h7 ?_
                rintro e w8 ⟨rfl, hb8⟩
                go_wp2
                refine bodyPost_ret (v := .tuple #[.slice none 0 0, .int .i64 8]) (by simp [results, Tryd.results19, go_sem]) rfl ⟨_, by rw [hv.out], by rw [hv.out]; exact Ow.nil _ _ _ _, (hw5.trans hw7).trans hb8⟩
              | true =>
                have hv := hd (hv3 hm9)
                rw [hm9] at h7
                clear hv2 hv3
                go_wp2_with fail
                refine Calls.mono h7 ?_
                rintro e w8 ⟨rfl, hb8⟩
                have hw8 := (hw5.trans hw7).trans hb8
                have hX8 := hb15.trans (hw7.trans hb8)
                clear h7 hR7 hw7 hb8 hb15 hw5 hX0 hE0
                generalize hQ0 : mergeF (kf f) a b = M at hv
                replace hQ0 : Hd ([] ++ mergeF (kf f) a b = M) := hd (by rw [List.nil_append]; exact hQ0)
                have hRa := hR.ext hw8
                have hSb := hS.ext hw8
                go_wp2
                go_loopg [0, 1, 8] (a.length + b.length) (fun g sa sb v wr => ∃ n m : Nat, ∃ ra rb os : List Crd, ∃ A B : Option Addr, ∃ ca cb : Nat, g = n + m ∧ sa = .slice A n ca ∧ sb = .slice B m cb ∧ Hd (ra.length = n) ∧ Hd (rb.length = m) ∧ n ≤ ca ∧ m ≤ cb ∧ n ≤ 80 ∧ m ≤ 80 ∧ Hd (os.length + n + m ≤ 80) ∧ Hd (os ++ mergeF (kf f) ra rb = M) ∧ Rd encCrd w8 A ra ∧ Rd encCrd w8 B rb ∧ Ext w8 wr ∧ Ow encCrd 60 wr w8.heap.size v os)
                case atStart => exact ⟨a.length, b.length, a, b, [], A, B, cap, cap', rfl, rfl, rfl, hd rfl, hd rfl, hcap, hcap', by omega, by omega, hd (by simp; omega), hQ0, hRa, hSb, (Ext.refl _).alloc _, Ow.made0 rfl (Nat.le_refl _)⟩
                case round =>
                  clear hR hS hRa hSb hcap hcap' hn hm hok hok' hab hlab hle hle7 h80 hQ0
                  obtain ⟨n, m, ra, rb, os, A, B, ca, cb, hg, rfl, rfl, hln, hlm, hca, hcb, h8n, h8m, h8, hQ, hR, hS, hw, hO⟩ := hrel
                  have hwr := hw8.trans hw
                  have hk := fun (c : Mask) (W : World) (hE : Ext wr W) => hky c W
                  obtain ⟨x0, x1, x2, x3, lX⟩ := hw1s wr (hX8.trans hw)
                  have hol2 : os.length ≤ 80 := by have := h8.out; omega
                  by_cases hn0 : 0 < n
                  · obtain ⟨bA, oA, x, rfl, hra, m0, m1, m2, lA⟩ := (hR.ext hw).hd0 hln hn0
                    have i1 : (0 : Int) < (n : Int) := by omega
                    have i3 : ((n : Int) = 0) = False := eq_false (by omega)
                    have i4 : (n = 0) = False := eq_false (by omega)
                    by_cases hm0 : 0 < m
                    · obtain ⟨bB, oB, y, rfl, hrb, n0, n1, n2, lB⟩ := (hS.ext hw).hd0 hlm hm0
                      have i2 : (0 : Int) < (m : Int) := by omega
                      have ha1 : ¬ (keyF f y.m : Int) < (keyF f x.m : Int) → Hd (os ++ [x] ++ mergeF (kf f) ra.tail rb = M) := fun h => hd (by have h1 := hQ.out; rw [hra, hrb, mergeF_left _ _ _ _ _ h, ← hrb] at h1; rw [List.append_assoc, List.singleton_append]; exact h1)
                      have hb1 : (keyF f y.m : Int) < (keyF f x.m : Int) → Hd (os ++ [y] ++ mergeF (kf f) ra rb.tail = M) := fun h => hd (by have h1 := hQ.out; rw [hra, hrb, mergeF_right _ _ _ _ _ h, ← hra] at h1; rw [List.append_assoc, List.singleton_append]; exact h1)
                      have hc1 := hk x.m
                      have hc2 := hk y.m
                      generalize keyF f x.m = kx at hc1 ha1 hb1
                      generalize keyF f y.m = ky at hc2 ha1 hb1
                      clear hra hrb
                      by_cases e : (ky : Int) < kx
                      · have hQ2 := hb1 e
                        have he : ((ky : Int) < kx) = True := eq_true e
                        clear hk hky e hQ hv ha1 hb1 hw1s
                        go_wp2
                        refine wp_region_ext (by kernel_rfl) (by kernel_rfl) ?_
                        repeat (first | go_big_quiet_step ((first | (go_at_call 45; with_reducible exact Calls.ext_all (fun W hE => hc1 W hE)) | (go_at_call 45; with_reducible exact Calls.ext_all (fun W hE => hc2 W hE)))) | quiet_step ((first | (go_at_call 45; with_reducible exact Calls.ext_all (fun W hE => hc1 W hE)) | (go_at_call 45; with_reducible exact Calls.ext_all (fun W hE => hc2 W hE)))))
                        refine wpQuiet_nil ?_
                        intro w7 hq7
                        have hb7 := ext_of_class hq7
                        clear hq7
                        obtain ⟨hc7, hf7, hz7⟩ := bcell3 hb7
                        try simp at hz7
                        have hO7 := hO.ext hb7
                        have hw7 := hw.trans hb7
                        clear hc7 hf7
                        replace m0 := hb7.cell m0
                        replace m1 := hb7.cell m1
                        replace m2 := hb7.cell m2
                        replace n0 := hb7.cell n0
                        replace n1 := hb7.cell n1
                        replace n2 := hb7.cell n2
                        go_wp2_with (at_builtin; refine wpList_push2 (w0 := w8) (base := w8.heap.size) (xs := os) encCrd (by rfl) _ _ 29 (.agg #[.string ⟨#[]⟩, .int .u64 0, .int .u64 0]) 32 (by rfl) Tryd.underlying29 info_Crd (by rfl) (y) (by rfl) (by rfl) (by simp) (hO7) (by have := (hw7 : Ext w8 _).size; simp at this ⊢; omega) (by omega) (hw7) (by omega) (by omega) ?_)
                        intro v3 w3 hO3 hb3 hg3 ho3
                        have ht := tail_len hlm
                        have h82 : Hd ((os ++ [y]).length + n + (m - 1) ≤ 80) := hd (by have := h8.out; rw [List.length_append]; simp only [List.length_cons, List.length_nil]; omega)
                        by_cases hc1' : cb = 1
                        · obtain rfl : m = 1 := by omega
                          subst hc1'
                          have hnil := tail_one hlm hcb
                          go_wp2
                          go_roundg (n + 0)
                          case rel => exact ⟨n, 0, ra, rb.tail, os ++ [y], _, _, _, _, rfl, rfl, rfl, hln, ht, by omega, by omega, by omega, by omega, h82, hQ2, hR, by rw [hnil]; exact Rd.nil _ _ _, hb3, hO3⟩
                          case measure => omega
                        · go_wp2
                          go_roundg (n + (m - 1))
                          case rel => exact ⟨n, m - 1, ra, rb.tail, os ++ [y], _, _, _, _, rfl, rfl, rfl, hln, ht, by omega, by omega, by omega, by omega, h82, hQ2, hR, hS.tl, hb3, hO3⟩
                          case measure => omega
                      · have hQ2 := ha1 e
                        have he : ((ky : Int) < kx) = False := eq_false e
                        clear hk hky e hQ hv ha1 hb1 hw1s
                        go_wp2
                        refine wp_region_ext (by kernel_rfl) (by kernel_rfl) ?_
                        repeat (first | go_big_quiet_step ((first | (go_at_call 45; with_reducible exact Calls.ext_all (fun W hE => hc1 W hE)) | (go_at_call 45; with_reducible exact Calls.ext_all (fun W hE => hc2 W hE)))) | quiet_step ((first | (go_at_call 45; with_reducible exact Calls.ext_all (fun W hE => hc1 W hE)) | (go_at_call 45; with_reducible exact Calls.ext_all (fun W hE => hc2 W hE)))))
                        refine wpQuiet_nil ?_
                        intro w7 hq7
                        have hb7 := ext_of_class hq7
                        clear hq7
                        obtain ⟨hc7, hf7, hz7⟩ := bcell3 hb7
                        try simp at hz7
                        have hO7 := hO.ext hb7
                        have hw7 := hw.trans hb7
                        clear hc7 hf7
                        replace m0 := hb7.cell m0
                        replace m1 := hb7.cell m1
                        replace m2 := hb7.cell m2
                        replace n0 := hb7.cell n0
                        replace n1 := hb7.cell n1
                        replace n2 := hb7.cell n2
                        go_wp2_with (at_builtin; refine wpList_push2 (w0 := w8) (base := w8.heap.size) (xs := os) encCrd (by rfl) _ _ 29 (.agg #[.string ⟨#[]⟩, .int .u64 0, .int .u64 0]) 32 (by rfl) Tryd.underlying29 info_Crd (by rfl) (x) (by rfl) (by rfl) (by simp) (hO7) (by have := (hw7 : Ext w8 _).size; simp at this ⊢; omega) (by omega) (hw7) (by omega) (by omega) ?_)
                        intro v3 w3 hO3 hb3 hg3 ho3
                        have ht := tail_len hln
                        have h82 : Hd ((os ++ [x]).length + (n - 1) + m ≤ 80) := hd (by have := h8.out; rw [List.length_append]; simp only [List.length_cons, List.length_nil]; omega)
                        by_cases hc1' : ca = 1
                        · obtain rfl : n = 1 := by omega
                          subst hc1'
                          have hnil := tail_one hln hca
                          go_wp2
                          go_roundg (0 + m)
                          case rel => exact ⟨0, m, ra.tail, rb, os ++ [x], _, _, _, _, rfl, rfl, rfl, ht, hlm, by omega, by omega, by omega, by omega, h82, hQ2, by rw [hnil]; exact Rd.nil _ _ _, hS, hb3, hO3⟩
                          case measure => omega
                        · go_wp2
                          go_roundg ((n - 1) + m)
                          case rel => exact ⟨n - 1, m, ra.tail, rb, os ++ [x], _, _, _, _, rfl, rfl, rfl, ht, hlm, by omega, by omega, by omega, by omega, h82, hQ2, hR.tl, hS, hb3, hO3⟩
                          case measure => omega
                    · obtain rfl : m = 0 := by omega
                      have hQ2 : Hd (os ++ [x] ++ mergeF (kf f) ra.tail rb = M) := hd (by have h1 := hQ.out; rw [len_zero hlm, mergeF_nil] at h1 ⊢; rw [List.append_assoc, List.singleton_append, ← hra]; exact h1)
                      clear hra hk hky hQ hv hw1s
                      go_wp2
                      refine wp_region_ext (by kernel_rfl) (by kernel_rfl) ?_
                      repeat (first | go_big_quiet_step (fail) | quiet_step (fail))
                      refine wpQuiet_nil ?_
                      intro w7 hq7
                      have hb7 := ext_of_class hq7
                      clear hq7
                      obtain ⟨hc7, hf7, hz7⟩ := bcell3 hb7
                      try simp at hz7
                      have hO7 := hO.ext hb7
                      have hw7 := hw.trans hb7
                      clear hc7 hf7
                      replace m0 := hb7.cell m0
                      replace m1 := hb7.cell m1
                      replace m2 := hb7.cell m2
                      go_wp2_with (at_builtin; refine wpList_push2 (w0 := w8) (base := w8.heap.size) (xs := os) encCrd (by rfl) _ _ 29 (.agg #[.string ⟨#[]⟩, .int .u64 0, .int .u64 0]) 32 (by rfl) Tryd.underlying29 info_Crd (by rfl) (x) (by rfl) (by rfl) (by simp) (hO7) (by have := (hw7 : Ext w8 _).size; simp at this ⊢; omega) (by omega) (hw7) (by omega) (by omega) ?_)
                      intro v3 w3 hO3 hb3 hg3 ho3
                      have ht := tail_len hln
                      have h82 : Hd ((os ++ [x]).length + (n - 1) + 0 ≤ 80) := hd (by have := h8.out; rw [List.length_append]; simp only [List.length_cons, List.length_nil]; omega)
                      by_cases hc1' : ca = 1
                      · obtain rfl : n = 1 := by omega
                        subst hc1'
                        have hnil := tail_one hln hca
                        go_wp2
                        go_roundg (0 + 0)
                        case rel => exact ⟨0, 0, ra.tail, rb, os ++ [x], _, _, _, _, rfl, rfl, rfl, ht, hlm, by omega, by omega, by omega, by omega, h82, hQ2, by rw [hnil]; exact Rd.nil _ _ _, hS, hb3, hO3⟩
                        case measure => omega
                      · go_wp2
                        go_roundg ((n - 1) + 0)
                        case rel => exact ⟨n - 1, 0, ra.tail, rb, os ++ [x], _, _, _, _, rfl, rfl, rfl, ht, hlm, by omega, by omega, by omega, by omega, h82, hQ2, hR.tl, hS, hb3, hO3⟩
                        case measure => omega
                  · obtain rfl : n = 0 := by omega
                    by_cases hm0 : 0 < m
                    · obtain ⟨bB, oB, y, rfl, hrb, n0, n1, n2, lB⟩ := (hS.ext hw).hd0 hlm hm0
                      have i2 : (0 : Int) < (m : Int) := by omega
                      have hQ2 : Hd (os ++ [y] ++ mergeF (kf f) ra rb.tail = M) := hd (by have h1 := hQ.out; rw [len_zero hln, nil_mergeF] at h1 ⊢; rw [List.append_assoc, List.singleton_append, ← hrb]; exact h1)
                      clear hrb hk hky hQ hv hw1s
                      go_wp2
                      refine wp_region_ext (by kernel_rfl) (by kernel_rfl) ?_
                      repeat (first | go_big_quiet_step (fail) | quiet_step (fail))
                      refine wpQuiet_nil ?_
                      intro w7 hq7
                      have hb7 := ext_of_class hq7
                      clear hq7
                      obtain ⟨hc7, hf7, hz7⟩ := bcell3 hb7
                      try simp at hz7
                      have hO7 := hO.ext hb7
                      have hw7 := hw.trans hb7
                      clear hc7 hf7
                      replace n0 := hb7.cell n0
                      replace n1 := hb7.cell n1
                      replace n2 := hb7.cell n2
                      go_wp2_with (at_builtin; refine wpList_push2 (w0 := w8) (base := w8.heap.size) (xs := os) encCrd (by rfl) _ _ 29 (.agg #[.string ⟨#[]⟩, .int .u64 0, .int .u64 0]) 32 (by rfl) Tryd.underlying29 info_Crd (by rfl) (y) (by rfl) (by rfl) (by simp) (hO7) (by have := (hw7 : Ext w8 _).size; simp at this ⊢; omega) (by omega) (hw7) (by omega) (by omega) ?_)
                      intro v3 w3 hO3 hb3 hg3 ho3
                      have ht := tail_len hlm
                      have h82 : Hd ((os ++ [y]).length + 0 + (m - 1) ≤ 80) := hd (by have := h8.out; rw [List.length_append]; simp only [List.length_cons, List.length_nil]; omega)
                      by_cases hc1' : cb = 1
                      · obtain rfl : m = 1 := by omega
                        subst hc1'
                        have hnil := tail_one hlm hcb
                        go_wp2
                        go_roundg (0 + 0)
                        case rel => exact ⟨0, 0, ra, rb.tail, os ++ [y], _, _, _, _, rfl, rfl, rfl, hln, ht, by omega, by omega, by omega, by omega, h82, hQ2, hR, by rw [hnil]; exact Rd.nil _ _ _, hb3, hO3⟩
                        case measure => omega
                      · go_wp2
                        go_roundg (0 + (m - 1))
                        case rel => exact ⟨0, m - 1, ra, rb.tail, os ++ [y], _, _, _, _, rfl, rfl, rfl, hln, ht, by omega, by omega, by omega, by omega, h82, hQ2, hR, hS.tl, hb3, hO3⟩
                        case measure => omega
                    · obtain rfl : m = 0 := by omega
                      have hQ2 : os = M := by have := hQ.out; rw [len_zero hln, len_zero hlm, nil_mergeF, List.append_nil] at this; exact this
                      subst hQ2
                      clear hk hky hQ hw1s
                      have hO9 := hO.lower hw8.size
                      go_wp2
                      refine bodyPost_ret (v := .tuple #[_, .int .i64 0]) (by simp [results, Tryd.results19, go_sem]; rfl) rfl ⟨_, by rw [hv.out], by rw [hv.out]; exact hO9, hwr⟩
            · have hv := hd (md_far hall (by rw [hs1, hs2]; rfl) h80)
              have hgt : (80 : Int) < (a.length : Int) + (b.length : Int) := by omega
              clear hky hall
              go_enter Tryd.func19, Tryd.ntmps19
              go_wp2_with fail
              refine Calls.mono (h1 _ hE0) ?_
              rintro e w1 ⟨rfl, hb1⟩
              go_wp2_with fail
              refine Calls.mono (h2 _ (hE0.trans hb1)) ?_
              rintro e w2 ⟨rfl, hb2⟩
              have hb12 := hb1.trans hb2
              obtain ⟨x0, x1, x2, x3, lX⟩ := hw1s w2 hb12
              go_wp2_with fail
              refine Calls.mono (h3 _) ?_
              rintro e w3 ⟨rfl, hb3⟩
              have hb13 := hb12.trans hb3
              clear x0 x1 x2 x3 lX
              obtain ⟨x0, x1, x2, x3, lX⟩ := hw1s w3 hb13
              go_wp2_with fail
              refine Calls.mono (s1 _ (hE0.trans hb13)) ?_
              rintro e w4 ⟨rfl, hb4⟩
              have hb14 := hb13.trans hb4
              clear x0 x1 x2 x3 lX
              obtain ⟨x0, x1, x2, x3, lX⟩ := hw1s w4 hb14
              go_wp2_with fail
              refine Calls.mono (s2 _ (hE0.trans hb14)) ?_
              rintro e w5 ⟨rfl, hb5⟩
              go_wp2
              refine bodyPost_ret (v := .tuple #[.slice none 0 0, .int .i64 3]) (by simp [results, Tryd.results19, go_sem]) rfl ⟨_, by rw [hv.out], by rw [hv.out]; exact Ow.nil _ _ _ _, (hE0.trans hb14).trans hb5⟩
end Go.Proofs.YtdlpifgkponnmaaDoor
set_option linter.unusedVariables false
set_option linter.unusedSimpArgs false
set_option maxRecDepth 100000
namespace Go.Proofs.YtdlpifgkponnmaaDoor
open Go.RowKit
theorem spec_MergeDecks (a b : List Crd) (A B : Option Addr) (cap cap' : Nat) (f : Fld) (w : World) (hR : Rd encCrd w A a) (hn : a.length ≤ 1048576) (hok : ∀ c ∈ a, CrdIn c) (hS : Rd encCrd w B b) (hm : b.length ≤ 1048576) (hok' : ∀ c ∈ b, CrdIn c) (hf : FldIn f) :
    Calls Tryd.prog 18 #[.slice A a.length cap, .slice B b.length cap', .agg #[.string f.nm, .int .i8 f.kd, .int .i16 f.st, .int .i16 f.sz]] w fun e w' => ∃ v, e = .returned (.tuple #[v, .int .i64 (mdF a b f).2]) ∧ Ow encCrd 60 w' w.heap.size v (mdF a b f).1 ∧ Ext w w' := by
  cases h : (deckB a && (deckB b && fldB f)) with
  | false => exact spec_MergeDecks_no a b A B cap cap' f w hR hn hok hS hm hok' hf h
  | true =>
    rw [Bool.and_eq_true, Bool.and_eq_true] at h
    exact spec_MergeDecks_yes a b A B cap cap' f w hR hn hok hS hm hok' hf h.1 h.2.1 h.2.2
set_option maxHeartbeats 4000000 in
theorem laws_FnExactMergeDecks (a b : List Crd) (A B : Option Addr) (cap cap' : Nat) (f : Fld) (w : World) (hn : a.length ≤ 9223372036854775807) (hR : Rd encCrd w A a) (hok : ∀ c ∈ a, CrdIn c) (hm : b.length ≤ 9223372036854775807) (hS : Rd encCrd w B b) (hok' : ∀ c ∈ b, CrdIn c) (hf : FldIn f) :
    Calls Tryd.prog 5 #[.slice A a.length cap, .slice B b.length cap', .agg #[.string f.nm, .int .i8 f.kd, .int .i16 f.st, .int .i16 f.sz]] w fun e w' => e = .returned (.bool true) ∧ Ext w w' := by
  have ra := eqL_refl crdB crdB_refl a
  have rb := eqL_refl crdB crdB_refl b
  have htc := fun W => laws_toField f W
  go_enter Tryd.func5, Tryd.ntmps5
  go_wp2_with fail
  refine Calls.mono (laws_szCardS a A cap 1048576 (by omega) (by omega) hn _ (hR.ext (by ((repeat (first | with_reducible exact Ext.refl _ | with_reducible exact hw | with_reducible exact hb9 | with_reducible exact hb8 | with_reducible exact hb7 | with_reducible exact hb6 | with_reducible exact hb5 | with_reducible exact hb4 | with_reducible exact hb3 | with_reducible exact hb2 | with_reducible exact hb1 | with_reducible refine Ext.alloc ?_ _ | with_reducible refine Ext.drew ?_ | ((with_reducible refine Ext.set ?_ ?_ _); focus (dsimp only; omega)) | with_reducible refine Ext.trans ?_ hb9 | with_reducible refine Ext.trans ?_ hb8 | with_reducible refine Ext.trans ?_ hb7 | with_reducible refine Ext.trans ?_ hb6 | with_reducible refine Ext.trans ?_ hb5 | with_reducible refine Ext.trans ?_ hb4 | with_reducible refine Ext.trans ?_ hb3 | with_reducible refine Ext.trans ?_ hb2 | with_reducible refine Ext.trans ?_ hb1 | with_reducible refine Ext.trans ?_ hw))))) hok) ?_
  rintro e w0 ⟨r0, rfl, hr, hb0⟩
  have c0 : w0.cell? ⟨w.heap.size, 0, none⟩ = some (.string f.nm) := hb0.cell (by go_simp)
  have c1 : w0.cell? ⟨w.heap.size, 1, none⟩ = some (.int .i8 f.kd) := hb0.cell (by go_simp)
  have c2 : w0.cell? ⟨w.heap.size, 2, none⟩ = some (.int .i16 f.st) := hb0.cell (by go_simp)
  have c3 : w0.cell? ⟨w.heap.size, 3, none⟩ = some (.int .i16 f.sz) := hb0.cell (by go_simp)
  have hw0 : Ext w w0 := by clear c0 c1 c2 c3; exact ((Ext.refl _).alloc _).trans hb0
  clear hb0
  by_cases hr0 : r0 < 0
  · go_wp2
    go_ret
    exact ⟨rfl, hw0⟩
  obtain ⟨g0, g1, g2⟩ := hr.resolve_left hr0
  have hn1 : a.length ≤ 1048576 := by omega
  clear hr
  go_wp2_with fail
  refine Calls.mono (laws_szCardS b B cap' r0 (by omega) (by omega) hm _ (hS.ext hw0) hok') ?_
  rintro e w1 ⟨r, rfl, hr', hb1⟩
  have hw1 := hw0.trans hb1
  replace c0 := hb1.cell c0
  replace c1 := hb1.cell c1
  replace c2 := hb1.cell c2
  replace c3 := hb1.cell c3
  by_cases hr1 : r < 0
  · go_wp2
    go_ret
    exact ⟨rfl, hw1⟩
  obtain ⟨g3, g4, g5⟩ := hr'.resolve_left hr1
  have hm1 : b.length ≤ 1048576 := by omega
  clear hr' hb1 hw0
  have hlen : (mdF a b f).1.length ≤ 1048576 := Nat.le_trans (md_len a b f) (by decide)
  have hsp := fun (p : Option Addr) (n : Nat) (p' : Option Addr) (n' : Nat) (W : World) (h : Rd encCrd W p a) (h' : Rd encCrd W p' b) => spec_MergeDecks a b p p' n n' f W h hn1 hok h' hm1 hok' hf
  have him := fun (p : Option Addr) (n : Nat) (p' : Option Addr) (n' : Nat) (W : World) (h : Rd encCrd W p a) (hc : a.length ≤ n) (h' : Rd encCrd W p' b) (hc' : b.length ≤ n') => impl_MergeDecks a b p p' n n' f W h hc hn1 hok h' hc' hm1 hok' hf
  generalize mdF a b f = q at hlen hsp him
  obtain ⟨ns, cd⟩ := q
  dsimp only at hlen hsp him
  have rres := eqL_refl crdB crdB_refl ns
  have lc := World.block_lt_of_cell? _ _ c0
  dsimp only at lc
  go_wp2_with fail
  refine Calls.mono (laws_szField f r (by omega) (by omega) hf.2 _) ?_
  rintro e w2 ⟨rfl, hb2⟩
  have hw2 := hw1.trans hb2
  replace c0 := hb2.cell c0
  replace c1 := hb2.cell c1
  replace c2 := hb2.cell c2
  replace c3 := hb2.cell c3
  clear hb2 hw1 lc
  by_cases hr2 : szF f.nm.size r < 0
  · generalize szF f.nm.size r = q1 at hr2
    go_wp2
    go_ret
    exact ⟨rfl, hw2⟩
  generalize szF f.nm.size r = q1 at hr2
  have hR2 := hR.ext hw2
  have hS2 := hS.ext hw2
  clear hR hS
  have hS0 := fun (W : World) (h : Ext w2 W) => (⟨h.cell c0, h.cell c1, h.cell c2, h.cell c3⟩ : W.cell? ⟨w.heap.size, 0, none⟩ = some (.string f.nm) ∧ W.cell? ⟨w.heap.size, 1, none⟩ = some (.int .i8 f.kd) ∧ W.cell? ⟨w.heap.size, 2, none⟩ = some (.int .i16 f.st) ∧ W.cell? ⟨w.heap.size, 3, none⟩ = some (.int .i16 f.sz))
  go_wp2
  refine wp_region_held (S := fun W => W.cell? ⟨w.heap.size, 0, none⟩ = some (.string f.nm) ∧ W.cell? ⟨w.heap.size, 1, none⟩ = some (.int .i8 f.kd) ∧ W.cell? ⟨w.heap.size, 2, none⟩ = some (.int .i16 f.st) ∧ W.cell? ⟨w.heap.size, 3, none⟩ = some (.int .i16 f.sz)) (by kernel_rfl) ?_
  change wpAnyH _ _ _ _ _ _ _ _ (World.drew _)
  refine intro_world (fun WD hWD => ?_)
  have eD : Ext w2 WD := by rw [hWD]; exact (Ext.refl _).drew
  clear hWD
  refine wpAnyH_take (i := 0) (v := ?_) rfl (by kernel_rfl) (by kernel_rfl) (by kernel_rfl) (fun _ _ _ h => h) (Or.inl ⟨by rfl, ?_⟩) (hS0 _ eD) ?_
  rotate_left
  · (intro W9 hW9; obtain ⟨z0, z1, z2, z3⟩ := hW9; go_simp; try with_reducible rfl)
  try simp only [Act.put, List.setIfInBounds_toArray, List.set_cons_zero, List.set_cons_succ]
  refine wpAnyH_take (i := 2) (v := ?_) rfl (by kernel_rfl) (by kernel_rfl) (by kernel_rfl) (fun _ _ _ h => h) (Or.inl ⟨by rfl, ?_⟩) (hS0 _ eD) ?_
  rotate_left
  · (intro W9 hW9; obtain ⟨z0, z1, z2, z3⟩ := hW9; go_simp; try with_reducible rfl)
  try simp only [Act.put, List.setIfInBounds_toArray, List.set_cons_zero, List.set_cons_succ]
  refine wpAnyH_take (i := 4) (v := ?_) rfl (by kernel_rfl) (by kernel_rfl) (by kernel_rfl) (fun _ _ _ h => h) (Or.inl ⟨by rfl, ?_⟩) (hS0 _ eD) ?_
  rotate_left
  · (intro W9 hW9; obtain ⟨z0, z1, z2, z3⟩ := hW9; go_simp; try with_reducible rfl)
  try simp only [Act.put, List.setIfInBounds_toArray, List.set_cons_zero, List.set_cons_succ]
  refine wpAnyH_ready (rs := [1]) (by kernel_rfl) (by simp) ?_
  refine AllReadyH.cons rfl (fun K hK => ?_) (AllReadyH.nil)
  go_simp
  go_wp2_with fail
  refine Calls.mono (laws_toCardS a A cap _ (hR2.ext eD) hn1) ?_
  rintro e w3 ⟨v3, rfl, hO3, hb3⟩
  obtain ⟨A3, cap3, rfl, hle3, _⟩ := hO3.slice
  have h3 := eD.trans hb3
  go_simp
  refine hK.out _ _ (hS0 _ h3) (fun _ => ?_)
  clear hK K hb3
  refine wpAnyH_ready (rs := [3]) (by kernel_rfl) (by simp) ?_
  refine AllReadyH.cons rfl (fun K hK => ?_) (AllReadyH.nil)
  go_simp
  go_wp2_with fail
  refine Calls.mono (laws_toCardS b B cap' _ (hS2.ext h3) hm1) ?_
  rintro e w4 ⟨v4, rfl, hO4, hb4⟩
  obtain ⟨A4, cap4, rfl, hle4, _⟩ := hO4.slice
  have h4 := h3.trans hb4
  have hO3 := hO3.ext hb4
  go_simp
  refine hK.out _ _ (hS0 _ h4) (fun _ => ?_)
  clear hK K hb4
  refine wpAnyH_ready (rs := [5]) (by kernel_rfl) (by simp) ?_
  refine AllReadyH.cons rfl (fun K hK => ?_) (AllReadyH.nil)
  go_simp
  go_wp2_with fail
  refine Calls.mono (htc _) ?_
  rintro e w5 ⟨rfl, hb5⟩
  have h5 := h4.trans hb5
  have hO3 := hO3.ext hb5
  have hO4 := hO4.ext hb5
  go_simp
  refine hK.out _ _ (hS0 _ h5) (fun _ => ?_)
  clear hK K hb5
  refine wpAnyH_ready (rs := [6]) (by kernel_rfl) (by simp) ?_
  refine AllReadyH.cons rfl (fun K hK => ?_) (AllReadyH.nil)
  go_simp
  go_wp2_with fail
  refine Calls.mono (hsp A3 cap3 A4 cap4 _ hO3.rdA hO4.rdA) ?_
  rintro e w6 ⟨v6, rfl, hO6, hb6⟩
  obtain ⟨A6, cap6, rfl, hle6, hR6⟩ := hO6.slice
  have h6 : Ext w2 w6 := h5.trans hb6
  go_simp
  refine hK.out _ _ (hS0 _ h6) (fun _ => ?_)
  clear hK K hO3 hO4
  refine wpAnyH_take (i := 7) (v := ?_) rfl (by kernel_rfl) (by kernel_rfl) (by kernel_rfl) (fun _ _ _ h => h) (Or.inl ⟨by rfl, ?_⟩) (hS0 _ h6) ?_
  rotate_left
  · (intro W9 hW9; obtain ⟨z0, z1, z2, z3⟩ := hW9; go_simp; try with_reducible rfl)
  try simp only [Act.put, List.setIfInBounds_toArray, List.set_cons_zero, List.set_cons_succ]
  refine wpAnyH_take (i := 8) (v := ?_) rfl (by kernel_rfl) (by kernel_rfl) (by kernel_rfl) (fun _ _ _ h => h) (Or.inl ⟨by rfl, ?_⟩) (hS0 _ h6) ?_
  rotate_left
  · (intro W9 hW9; obtain ⟨z0, z1, z2, z3⟩ := hW9; go_simp; try with_reducible rfl)
  try simp only [Act.put, List.setIfInBounds_toArray, List.set_cons_zero, List.set_cons_succ]
  refine wpAnyH_take (i := 9) (v := ?_) rfl (by kernel_rfl) (by kernel_rfl) (by kernel_rfl) (fun _ _ _ h => h) (Or.inl ⟨by rfl, ?_⟩) (hS0 _ h6) ?_
  rotate_left
  · (intro W9 hW9; obtain ⟨z0, z1, z2, z3⟩ := hW9; go_simp; try with_reducible rfl)
  try simp only [Act.put, List.setIfInBounds_toArray, List.set_cons_zero, List.set_cons_succ]
  refine wpAnyH_ready (rs := [10]) (by kernel_rfl) (by simp) ?_
  refine AllReadyH.cons rfl (fun K hK => ?_) (AllReadyH.nil)
  go_simp
  refine hK.out _ _ (hS0 _ h6) (fun _ => ?_)
  clear hK K
  refine wpAnyH_ready (rs := [11]) (by kernel_rfl) (by simp) ?_
  refine AllReadyH.cons rfl (fun K hK => ?_) (AllReadyH.nil)
  go_simp
  refine hK.out _ _ (hS0 _ h6) (fun _ => ?_)
  clear hK K
  refine wpAnyH_done (by kernel_rfl) ?_ _
  clear hR6 hb6 h5
  go_wp2_with fail
  refine Calls.mono (laws_toCardS a A cap _ (hR2.ext h6) hn1) ?_
  rintro e w7 ⟨v7, rfl, hO7, hb7⟩
  obtain ⟨A7, cap7, rfl, hle7, hR7⟩ := hO7.slice
  have h7 := h6.trans hb7
  go_wp2_with fail
  refine Calls.mono (laws_toCardS b B cap' _ (hS2.ext h7) hm1) ?_
  rintro e w8 ⟨v8, rfl, hO8, hb8⟩
  obtain ⟨A8, cap8, rfl, hle8, hR8⟩ := hO8.slice
  have h8 := h7.trans hb8
  obtain ⟨y0, y1, y2, y3⟩ := hS0 _ h8
  have ly := World.block_lt_of_cell? _ _ y0
  dsimp only at ly
  go_wp2_with fail
  refine Calls.mono (htc _) ?_
  rintro e w9 ⟨rfl, hb9⟩
  have h9 := h8.trans hb9
  clear y0 y1 y2 y3 ly hR7 hR8
  go_wp2_with fail
  refine Calls.mono (him A7 cap7 A8 cap8 _ (hO7.ext (hb8.trans hb9)).rdA hle7 (hO8.ext hb9).rdA hle8) ?_
  rintro e w10 ⟨v10, rfl, hO10, hb10⟩
  obtain ⟨A10, cap10, rfl, hle10, hR10⟩ := hO10.slice
  have h10 := h9.trans hb10
  have ap67 := Apart.of hO6 hO7 (Nat.le_refl _)
  have ap68 := Apart.of hO6 hO8 hb7.size
  have ap610 := Apart.of hO6 hO10 ((hb7.trans hb8).trans hb9).size
  have ap87 := Apart.of' hO7 hO8 (Nat.le_refl _)
  have ap107 := Apart.of' hO7 hO10 (hb8.trans hb9).size
  have ap108 := Apart.of' hO8 hO10 hb9.size
  have base7 : w2.heap.size ≤ w6.heap.size := h6.size
  have base8 : w2.heap.size ≤ w7.heap.size := h7.size
  have base10 : w2.heap.size ≤ w9.heap.size := h9.size
  have hO6 := hO6.ext (((hb7.trans hb8).trans hb9).trans hb10)
  have hO7 := hO7.ext ((hb8.trans hb9).trans hb10)
  have hO8 := hO8.ext (hb9.trans hb10)
  clear hR10 hb7 hb8 hb9 hb10
  go_wp2_with fail
  refine Calls.mono (laws_eqCardS ns ns _ _ _ _ _ hO10.rdA hO6.rdA hlen hlen) ?_
  rintro e w11 ⟨rfl, hb11⟩
  rw [rres]
  have h11 := h10.trans hb11
  have hO6 := hO6.ext hb11
  have hO7 := hO7.ext hb11
  have hO8 := hO8.ext hb11
  have hO10 := hO10.ext hb11
  clear hb11
  go_wp2_with fail
  refine Calls.mono (laws_toCardS a A cap _ (hR2.ext h11) hn1) ?_
  rintro e w12 ⟨v12, rfl, hO12, hb12⟩
  obtain ⟨A12, cap12, rfl, hle12, hR12⟩ := hO12.slice
  have h12 := h11.trans hb12
  have hO6 := hO6.ext hb12
  have hO7 := hO7.ext hb12
  have hO8 := hO8.ext hb12
  have hO10 := hO10.ext hb12
  clear hO12 hb12
  go_wp2_with fail
  refine Calls.mono (laws_eqCardS a a _ _ _ _ _ hO7.rdA hR12 hn1 hn1) ?_
  rintro e w13 ⟨rfl, hb13⟩
  rw [ra]
  have h13 := h12.trans hb13
  have hO6 := hO6.ext hb13
  have hO7 := hO7.ext hb13
  have hO8 := hO8.ext hb13
  have hO10 := hO10.ext hb13
  clear hb13 hR12
  go_wp2_with fail
  refine Calls.mono (laws_toCardS b B cap' _ (hS2.ext h13) hm1) ?_
  rintro e w14 ⟨v14, rfl, hO14, hb14⟩
  obtain ⟨A14, cap14, rfl, hle14, hR14⟩ := hO14.slice
  have h14 := h13.trans hb14
  have hO6 := hO6.ext hb14
  have hO7 := hO7.ext hb14
  have hO8 := hO8.ext hb14
  have hO10 := hO10.ext hb14
  clear hO14 hb14
  go_wp2_with fail
  refine Calls.mono (laws_eqCardS b b _ _ _ _ _ hO8.rdA hR14 hm1 hm1) ?_
  rintro e w15 ⟨rfl, hb15⟩
  rw [rb]
  have h15 := h14.trans hb15
  have hO6 := hO6.ext hb15
  have hO7 := hO7.ext hb15
  have hO8 := hO8.ext hb15
  have hO10 := hO10.ext hb15
  clear hb15 hR14
  go_wp2_with fail
  refine Calls.mono (laws_markCardS a _ 1 _ _ hO7 hn1 (by omega)) ?_
  rintro e w16 ⟨rfl, gr16⟩
  have h16 := h15.mark hO7 base7 gr16
  have hO6 := hO6.apart gr16 ap67
  have hO8 := hO8.apart gr16 ap87
  have hO10 := hO10.apart gr16 ap107
  clear hO7 gr16 ap67 ap87 ap107
  have hmk := laws_markCardS b _ (1 + 3 * a.length) _ _ hO8 hm1 (by omega)
  rw [show ((1 + 3 * a.length : Nat) : Int) = 1 + 3 * (a.length : Int) by omega] at hmk
  go_wp2_with fail
  refine Calls.mono hmk ?_
  rintro e w17 ⟨rfl, gr17⟩
  have h17 := h16.mark hO8 base8 gr17
  have hO6 := hO6.apart gr17 ap68
  have hO10 := hO10.apart gr17 ap108
  clear hO8 gr17 ap68 ap108 hmk
  have hkk : ¬ ((1 : Int) + 3 * a.length + 3 * b.length < 0) := by omega
  go_wp2_with fail
  refine Calls.mono (laws_eqCardS ns ns _ _ _ _ _ hO10.rdA hO6.rdA hlen hlen) ?_
  rintro e w18 ⟨rfl, hb18⟩
  rw [rres]
  have h18 := h17.trans hb18
  have hO6 := hO6.ext hb18
  have hO10 := hO10.ext hb18
  clear hb18
  go_wp2_with fail
  refine Calls.mono (laws_markCardM ns _ 1 _ _ hO10 hlen (by omega)) ?_
  rintro e w19 ⟨rfl, hM, gr19⟩
  have h19 := h18.mark hO10 base10 gr19
  have hO6 := hO6.apart gr19 ap610
  clear hO10 gr19 ap610
  go_wp2_with fail
  refine Calls.mono (laws_heldCardS ns.length _ _ 1 _ hM.rdA hlen (by omega)) ?_
  rintro e w20 ⟨rfl, hb20⟩
  have h20 := h19.trans hb20
  have hM := hM.ext hb20
  have hO6 := hO6.ext hb20
  have hk3 : ¬ ((1 : Int) + 3 * ns.length < 0) := by omega
  clear hb20
  have hR20 := hR2.ext h20
  have hS20 := hS2.ext h20
  replace hS0 := fun (W : World) (h : Ext w20 W) => hS0 W (h20.trans h)
  go_wp2
  refine wp_region_held (S := fun W => W.cell? ⟨w.heap.size, 0, none⟩ = some (.string f.nm) ∧ W.cell? ⟨w.heap.size, 1, none⟩ = some (.int .i8 f.kd) ∧ W.cell? ⟨w.heap.size, 2, none⟩ = some (.int .i16 f.st) ∧ W.cell? ⟨w.heap.size, 3, none⟩ = some (.int .i16 f.sz)) (by kernel_rfl) ?_
  change wpAnyH _ _ _ _ _ _ _ _ (World.drew _)
  refine intro_world (fun WD hWD => ?_)
  have eD : Ext w20 WD := by rw [hWD]; exact (Ext.refl _).drew
  clear hWD
  refine wpAnyH_take (i := 0) (v := ?_) rfl (by kernel_rfl) (by kernel_rfl) (by kernel_rfl) (fun _ _ _ h => h) (Or.inl ⟨by rfl, ?_⟩) (hS0 _ eD) ?_
  rotate_left
  · (intro W9 hW9; obtain ⟨z0, z1, z2, z3⟩ := hW9; go_simp; try with_reducible rfl)
  try simp only [Act.put, List.setIfInBounds_toArray, List.set_cons_zero, List.set_cons_succ]
  refine wpAnyH_take (i := 2) (v := ?_) rfl (by kernel_rfl) (by kernel_rfl) (by kernel_rfl) (fun _ _ _ h => h) (Or.inl ⟨by rfl, ?_⟩) (hS0 _ eD) ?_
  rotate_left
  · (intro W9 hW9; obtain ⟨z0, z1, z2, z3⟩ := hW9; go_simp; try with_reducible rfl)
  try simp only [Act.put, List.setIfInBounds_toArray, List.set_cons_zero, List.set_cons_succ]
  refine wpAnyH_take (i := 4) (v := ?_) rfl (by kernel_rfl) (by kernel_rfl) (by kernel_rfl) (fun _ _ _ h => h) (Or.inl ⟨by rfl, ?_⟩) (hS0 _ eD) ?_
  rotate_left
  · (intro W9 hW9; obtain ⟨z0, z1, z2, z3⟩ := hW9; go_simp; try with_reducible rfl)
  try simp only [Act.put, List.setIfInBounds_toArray, List.set_cons_zero, List.set_cons_succ]
  refine wpAnyH_ready (rs := [1]) (by kernel_rfl) (by simp) ?_
  refine AllReadyH.cons rfl (fun K hK => ?_) (AllReadyH.nil)
  go_simp
  go_wp2_with fail
  refine Calls.mono (laws_toCardS a A cap _ (hR20.ext eD) hn1) ?_
  rintro e w23 ⟨v23, rfl, hO23, hb23⟩
  obtain ⟨A23, cap23, rfl, hle23, _⟩ := hO23.slice
  have h23 := eD.trans hb23
  go_simp
  refine hK.out _ _ (hS0 _ h23) (fun _ => ?_)
  clear hK K hb23
  refine wpAnyH_ready (rs := [3]) (by kernel_rfl) (by simp) ?_
  refine AllReadyH.cons rfl (fun K hK => ?_) (AllReadyH.nil)
  go_simp
  go_wp2_with fail
  refine Calls.mono (laws_toCardS b B cap' _ (hS20.ext h23) hm1) ?_
  rintro e w24 ⟨v24, rfl, hO24, hb24⟩
  obtain ⟨A24, cap24, rfl, hle24, _⟩ := hO24.slice
  have h24 := h23.trans hb24
  have hO23 := hO23.ext hb24
  go_simp
  refine hK.out _ _ (hS0 _ h24) (fun _ => ?_)
  clear hK K hb24
  refine wpAnyH_ready (rs := [5]) (by kernel_rfl) (by simp) ?_
  refine AllReadyH.cons rfl (fun K hK => ?_) (AllReadyH.nil)
  go_simp
  go_wp2_with fail
  refine Calls.mono (htc _) ?_
  rintro e w25 ⟨rfl, hb25⟩
  have h25 := h24.trans hb25
  have hO23 := hO23.ext hb25
  have hO24 := hO24.ext hb25
  go_simp
  refine hK.out _ _ (hS0 _ h25) (fun _ => ?_)
  clear hK K hb25
  refine wpAnyH_ready (rs := [6]) (by kernel_rfl) (by simp) ?_
  refine AllReadyH.cons rfl (fun K hK => ?_) (AllReadyH.nil)
  go_simp
  go_wp2_with fail
  refine Calls.mono (him A23 cap23 A24 cap24 _ hO23.rdA hle23 hO24.rdA hle24) ?_
  rintro e w26 ⟨v26, rfl, hO26, hb26⟩
  obtain ⟨A26, cap26, rfl, hle26, hR26⟩ := hO26.slice
  have h26 : Ext w20 w26 := h25.trans hb26
  go_simp
  refine hK.out _ _ (hS0 _ h26) (fun _ => ?_)
  clear hK K hO23 hO24
  refine wpAnyH_take (i := 7) (v := ?_) rfl (by kernel_rfl) (by kernel_rfl) (by kernel_rfl) (fun _ _ _ h => h) (Or.inl ⟨by rfl, ?_⟩) (hS0 _ h26) ?_
  rotate_left
  · (intro W9 hW9; obtain ⟨z0, z1, z2, z3⟩ := hW9; go_simp; try with_reducible rfl)
  try simp only [Act.put, List.setIfInBounds_toArray, List.set_cons_zero, List.set_cons_succ]
  refine wpAnyH_take (i := 8) (v := ?_) rfl (by kernel_rfl) (by kernel_rfl) (by kernel_rfl) (fun _ _ _ h => h) (Or.inl ⟨by rfl, ?_⟩) (hS0 _ h26) ?_
  rotate_left
  · (intro W9 hW9; obtain ⟨z0, z1, z2, z3⟩ := hW9; go_simp; try with_reducible rfl)
  try simp only [Act.put, List.setIfInBounds_toArray, List.set_cons_zero, List.set_cons_succ]
  refine wpAnyH_take (i := 9) (v := ?_) rfl (by kernel_rfl) (by kernel_rfl) (by kernel_rfl) (fun _ _ _ h => h) (Or.inl ⟨by rfl, ?_⟩) (hS0 _ h26) ?_
  rotate_left
  · (intro W9 hW9; obtain ⟨z0, z1, z2, z3⟩ := hW9; go_simp; try with_reducible rfl)
  try simp only [Act.put, List.setIfInBounds_toArray, List.set_cons_zero, List.set_cons_succ]
  refine wpAnyH_ready (rs := [10]) (by kernel_rfl) (by simp) ?_
  refine AllReadyH.cons rfl (fun K hK => ?_) (AllReadyH.nil)
  go_simp
  refine hK.out _ _ (hS0 _ h26) (fun _ => ?_)
  clear hK K
  refine wpAnyH_ready (rs := [11]) (by kernel_rfl) (by simp) ?_
  refine AllReadyH.cons rfl (fun K hK => ?_) (AllReadyH.nil)
  go_simp
  refine hK.out _ _ (hS0 _ h26) (fun _ => ?_)
  clear hK K
  refine wpAnyH_done (by kernel_rfl) ?_ _
  have hM := hM.ext h26
  have hO6 := hO6.ext h26
  go_wp2_with fail
  refine Calls.mono (laws_eqCardS ns ns _ _ _ _ _ hO26.rdA hO6.rdA hlen hlen) ?_
  rintro e w27 ⟨rfl, hb27⟩
  rw [rres]
  have hM := hM.ext hb27
  go_wp2_with fail
  refine Calls.mono (laws_heldCardS ns.length _ _ 1 _ hM.rdA hlen (by omega)) ?_
  rintro e w28 ⟨rfl, hb28⟩
  go_wp2
  go_ret
  exact ⟨rfl, hw2.trans (((h20.trans h26).trans hb27).trans hb28)⟩
end Go.Proofs.YtdlpifgkponnmaaDoor
