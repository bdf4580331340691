/-
  FSX: the texts DC FS0 F8 VM L8 FDX EQ SW0 FW0 DK0 in one (written by merge.py).
-/
import Derived.Test.YtdlpifgkponnmaaDoorFSY
import Derived.Test.YtdlpifgkponnmaaDoorL6
import Derived.Deep.RegionHeld
import Derived.Test.YtdlpifgkponnmaaDoorF5
import Derived.Test.YtdlpifgkponnmaaDoorC2
import Derived.Test.YtdlpifgkponnmaaDoorMI
import Derived.Test.YtdlpifgkponnmaaDoorL5
import Derived.Test.YtdlpifgkponnmaaDoorWN
import Derived.Test.YtdlpifgkponnmaaDoorP1
import Derived.Test.YtdlpifgkponnmaaDoorF1
import Derived.Test.YtdlpifgkponnmaaDoorS0
import Derived.OrdersHeld
import Derived.Test.YtdlpifgkponnmaaDoorF18
import Derived.Test.YtdlpifgkponnmaaDoorK0
import Derived.Test.YtdlpifgkponnmaaDoorC1
import Derived.Test.YtdlpifgkponnmaaDoorF12
import Derived.Test.YtdlpifgkponnmaaDoorC3
set_option linter.unusedVariables false
set_option linter.unusedSimpArgs false
set_option maxRecDepth 100000
namespace Go.Proofs.YtdlpifgkponnmaaDoor
open Go.RowKit
def mdF (a b : List Crd) (f : Fld) : List Crd × Int :=
  if (deckB a && (deckB b && fldB f)) = true then (if (sortedB f a && sortedB f b) = true then (if a.length + b.length ≤ 80 then (if deckB (a ++ b) = true then (mergeF (kf f) a b, 0) else ([], 8)) else ([], 3)) else ([], 4)) else ([], 1)
theorem md_bad {a b : List Crd} {f : Fld} (h : (deckB a && (deckB b && fldB f)) = false) : mdF a b f = ([], 1) := by unfold mdF; rw [h]; rfl
theorem md_un {a b : List Crd} {f : Fld} (h : (deckB a && (deckB b && fldB f)) = true) (h2 : (sortedB f a && sortedB f b) = false) : mdF a b f = ([], 4) := by unfold mdF; rw [if_pos h, h2]; rfl
theorem md_far {a b : List Crd} {f : Fld} (h : (deckB a && (deckB b && fldB f)) = true) (h2 : (sortedB f a && sortedB f b) = true) (h3 : ¬ a.length + b.length ≤ 80) : mdF a b f = ([], 3) := by unfold mdF; rw [if_pos h, if_pos h2, if_neg h3]
theorem md_two {a b : List Crd} {f : Fld} (h : (deckB a && (deckB b && fldB f)) = true) (h2 : (sortedB f a && sortedB f b) = true) (h3 : a.length + b.length ≤ 80) (h4 : deckB (a ++ b) = false) : mdF a b f = ([], 8) := by unfold mdF; rw [if_pos h, if_pos h2, if_pos h3, h4]; rfl
theorem md_ok {a b : List Crd} {f : Fld} (h : (deckB a && (deckB b && fldB f)) = true) (h2 : (sortedB f a && sortedB f b) = true) (h3 : a.length + b.length ≤ 80) (h4 : deckB (a ++ b) = true) : mdF a b f = (mergeF (kf f) a b, 0) := by unfold mdF; rw [if_pos h, if_pos h2, if_pos h3, if_pos h4]
theorem merge_len (key : Crd → Int) (a b : List Crd) : (mergeF key a b).length = a.length + b.length := by rw [(mergeF_perm key a b).length_eq, List.length_append]
theorem md_len (a b : List Crd) (f : Fld) : (mdF a b f).1.length ≤ 80 := by
  unfold mdF
  split
  · split
    · split
      · rename_i h
        split
        · show (mergeF (kf f) a b).length ≤ 80
          rw [merge_len]; exact h
        · exact Nat.zero_le _
      · exact Nat.zero_le _
    · exact Nat.zero_le _
  · exact Nat.zero_le _
/-- A step of the merge: what is out already, and what is left of both. -/
theorem merge_b {key : Crd → Int} {a b : List Crd} {i j : Nat} (hi : i < a.length) (hj : j < b.length) (h : key b[j] < key a[i]) : mergeF key (a.drop i) (b.drop j) = b[j] :: mergeF key (a.drop i) (b.drop (j + 1)) := by
  rw [List.drop_eq_getElem_cons hi, List.drop_eq_getElem_cons hj]; exact mergeF_right key _ _ _ _ h
theorem merge_a {key : Crd → Int} {a b : List Crd} {i j : Nat} (hi : i < a.length) (hj : j < b.length) (h : ¬ key b[j] < key a[i]) : mergeF key (a.drop i) (b.drop j) = a[i] :: mergeF key (a.drop (i + 1)) (b.drop j) := by
  rw [List.drop_eq_getElem_cons hi, List.drop_eq_getElem_cons hj]; exact mergeF_left key _ _ _ _ h
theorem merge_a0 {key : Crd → Int} {a b : List Crd} {i j : Nat} (hi : i < a.length) (hj : ¬ j < b.length) : mergeF key (a.drop i) (b.drop j) = a[i] :: mergeF key (a.drop (i + 1)) (b.drop j) := by
  rw [List.drop_eq_nil_of_le (by omega : b.length ≤ j), mergeF_nil, mergeF_nil, List.drop_eq_getElem_cons hi]
theorem merge_b0 {key : Crd → Int} {a b : List Crd} {i j : Nat} (hi : ¬ i < a.length) (hj : j < b.length) : mergeF key (a.drop i) (b.drop j) = b[j] :: mergeF key (a.drop i) (b.drop (j + 1)) := by
  rw [List.drop_eq_nil_of_le (by omega : a.length ≤ i), nil_mergeF, nil_mergeF, List.drop_eq_getElem_cons hj]
theorem merge_end {key : Crd → Int} {a b : List Crd} {i j : Nat} (hi : ¬ i < a.length) (hj : ¬ j < b.length) : mergeF key (a.drop i) (b.drop j) = [] := by
  rw [List.drop_eq_nil_of_le (by omega : a.length ≤ i), nil_mergeF, List.drop_eq_nil_of_le (by omega)]
end Go.Proofs.YtdlpifgkponnmaaDoor
set_option linter.unusedVariables false
set_option linter.unusedSimpArgs false
set_option maxRecDepth 100000
namespace Go.Proofs.YtdlpifgkponnmaaDoor
open Go.RowKit
/-- The reference's loop, from the world behind its checks on. -/
theorem md_split (a b : List Crd) (f : Fld) (h1 : deckB a = true) (h2 : deckB b = true) (h3 : fldB f = true) : (deckB a && (deckB b && fldB f)) = true := by rw [h1, h2, h3]; rfl
set_option maxHeartbeats 2000000 in
theorem spec_MergeDecks_no (a b : List Crd) (A B : Option Addr) (cap cap' : Nat) (f : Fld) (w : World) (hR : Rd encCrd w A a) (hn : a.length ≤ 1048576) (hok : ∀ c ∈ a, CrdIn c) (hS : Rd encCrd w B b) (hm : b.length ≤ 1048576) (hok' : ∀ c ∈ b, CrdIn c) (hf : FldIn f) (hbad : (deckB a && (deckB b && fldB f)) = false) :
    Calls Tryd.prog 18 #[.slice A a.length cap, .slice B b.length cap', .agg #[.string f.nm, .int .i8 f.kd, .int .i16 f.st, .int .i16 f.sz]] w fun e w' => ∃ v, e = .returned (.tuple #[v, .int .i64 (mdF a b f).2]) ∧ Ow encCrd 60 w' w.heap.size v (mdF a b f).1 ∧ Ext w w' := by
  have hF0 : ∀ W, BoxAt W w.heap.size #[.string f.nm, .int .i8 f.kd, .int .i16 f.st, .int .i16 f.sz] 33 → FldAt W w.heap.size 0 f := fun W h => ⟨h.cell 0, h.cell 1, h.cell 2, h.cell 3⟩
  have h1 := fun (W : World) (hE : Ext w W) => spec_l02Ok a A cap W (hR.ext hE) hn hok
  have h2 := fun (W : World) (hE : Ext w W) => spec_l02Ok b B cap' W (hS.ext hE) hm hok'
  have h3 := fun (W : World) (h : FldAt W w.heap.size 0 f) => l01Field_in f hf w.heap.size 0 W h
  have hv := hd (md_bad hbad)
  have hX0 : BoxAt (w.alloc (.cells #[.string f.nm, .int .i8 f.kd, .int .i16 f.st, .int .i16 f.sz] 33)) w.heap.size #[.string f.nm, .int .i8 f.kd, .int .i16 f.st, .int .i16 f.sz] 33 := BoxAt.new' rfl
  have hE0 : Ext w (w.alloc (.cells #[.string f.nm, .int .i8 f.kd, .int .i16 f.st, .int .i16 f.sz] 33)) := (Ext.refl _).alloc _
  cases hd1 : deckB a with
  | false =>
    rw [hd1] at h1
    clear hbad h2 h3
    go_enter Tryd.func18, Tryd.ntmps18
    go_wp2_with fail
    refine Calls.mono (h1 _ hE0) ?_
    rintro e w1 ⟨rfl, hb1⟩
    go_wp2
    refine bodyPost_ret (v := .tuple #[.slice (some ⟨w1.heap.size, 0, none⟩) 0 0, .int .i64 1]) (by simp [results, Tryd.results18, go_sem]) rfl ⟨_, by rw [hv.out], by rw [hv.out]; exact Ow.made0 rfl (hE0.trans hb1).size, (hE0.trans hb1).alloc _⟩
  | true =>
    rw [hd1] at h1 hbad
    cases hd2 : deckB b with
    | false =>
      rw [hd2] at h2
      clear hbad h3
      go_enter Tryd.func18, Tryd.ntmps18
      go_wp2_with fail
      refine Calls.mono (h1 _ hE0) ?_
      rintro e w1 ⟨rfl, hb1⟩
      go_wp2_with fail
      refine Calls.mono (h2 _ (hE0.trans hb1)) ?_
      rintro e w2 ⟨rfl, hb2⟩
      have hw2 := (hE0.trans hb1).trans hb2
      go_wp2
      refine bodyPost_ret (v := .tuple #[.slice (some ⟨w2.heap.size, 0, none⟩) 0 0, .int .i64 1]) (by simp [results, Tryd.results18, go_sem]) rfl ⟨_, by rw [hv.out], by rw [hv.out]; exact Ow.made0 rfl hw2.size, hw2.alloc _⟩
    | true =>
      rw [hd2] at h2 hbad
      have hd3 : fldB f = false := by simpa using hbad
      rw [hd3] at h3
      clear hbad
      go_enter Tryd.func18, Tryd.ntmps18
      go_wp2_with fail
      refine Calls.mono (h1 _ hE0) ?_
      rintro e w1 ⟨rfl, hb1⟩
      go_wp2_with fail
      refine Calls.mono (h2 _ (hE0.trans hb1)) ?_
      rintro e w2 ⟨rfl, hb2⟩
      go_wp2_with fail
      refine Calls.mono (h3 _ (hF0 _ ((hX0.ext hb1).ext hb2))) ?_
      rintro e w3 ⟨rfl, hb3⟩
      have hw3 := ((hE0.trans hb1).trans hb2).trans hb3
      go_wp2
      refine bodyPost_ret (v := .tuple #[.slice (some ⟨w3.heap.size, 0, none⟩) 0 0, .int .i64 1]) (by simp [results, Tryd.results18, go_sem]) rfl ⟨_, by rw [hv.out], by rw [hv.out]; exact Ow.made0 rfl hw3.size, hw3.alloc _⟩
end Go.Proofs.YtdlpifgkponnmaaDoor
set_option linter.unusedVariables false
set_option linter.unusedSimpArgs false
set_option maxRecDepth 100000
namespace Go.Proofs.YtdlpifgkponnmaaDoor
open Go.RowKit
set_option maxHeartbeats 4000000 in
theorem spec_MergeDecks_yes (a b : List Crd) (A B : Option Addr) (cap cap' : Nat) (f : Fld) (w : World) (hR : Rd encCrd w A a) (hn : a.length ≤ 1048576) (hok : ∀ c ∈ a, CrdIn c) (hS : Rd encCrd w B b) (hm : b.length ≤ 1048576) (hok' : ∀ c ∈ b, CrdIn c) (hf : FldIn f) (hd1 : deckB a = true) (hd2 : deckB b = true) (hd3 : fldB f = true) :
    Calls Tryd.prog 18 #[.slice A a.length cap, .slice B b.length cap', .agg #[.string f.nm, .int .i8 f.kd, .int .i16 f.st, .int .i16 f.sz]] w fun e w' => ∃ v, e = .returned (.tuple #[v, .int .i64 (mdF a b f).2]) ∧ Ow encCrd 60 w' w.heap.size v (mdF a b f).1 ∧ Ext w w' := by
  have hx := @ExtOf.cell
  have hF0 : ∀ W, BoxAt W w.heap.size #[.string f.nm, .int .i8 f.kd, .int .i16 f.st, .int .i16 f.sz] 33 → FldAt W w.heap.size 0 f := fun W h => ⟨h.cell 0, h.cell 1, h.cell 2, h.cell 3⟩
  have h1 := fun (W : World) (hE : Ext w W) => spec_l02Ok a A cap W (hR.ext hE) hn hok
  have h2 := fun (W : World) (hE : Ext w W) => spec_l02Ok b B cap' W (hS.ext hE) hm hok'
  have h3 := fun (W : World) (h : FldAt W w.heap.size 0 f) => l01Field_in f hf w.heap.size 0 W h
  have s1 := fun (W : World) (hF : FldAt W w.heap.size 0 f) (hE : Ext w W) => spec_l02Sorted f hd3 hf.1.2.2.1 hf.1.2.2.2 a A cap w.heap.size 0 W hF (hR.ext hE) hn
  have s2 := fun (W : World) (hF : FldAt W w.heap.size 0 f) (hE : Ext w W) => spec_l02Sorted f hd3 hf.1.2.2.1 hf.1.2.2.2 b B cap' w.heap.size 0 W hF (hS.ext hE) hm
  have hky := fun (m : Mask) (W : World) (hF : FldAt W w.heap.size 0 f) => spec_l02Key f hd3 hf.1.2.2.1 hf.1.2.2.2 m w.heap.size 0 W hF
  have hall := md_split a b f hd1 hd2 hd3
  have hX0 : BoxAt (w.alloc (.cells #[.string f.nm, .int .i8 f.kd, .int .i16 f.st, .int .i16 f.sz] 33)) w.heap.size #[.string f.nm, .int .i8 f.kd, .int .i16 f.st, .int .i16 f.sz] 33 := BoxAt.new' rfl
  have hE0 : Ext w (w.alloc (.cells #[.string f.nm, .int .i8 f.kd, .int .i16 f.st, .int .i16 f.sz] 33)) := (Ext.refl _).alloc _
  rw [hd1] at h1
  rw [hd2] at h2
  rw [hd3] at h3
  cases hs1 : sortedB f a with
  | false =>
    have hv := hd (md_un hall (by rw [hs1]; rfl))
    rw [hs1] at s1
    clear s2 hky hall
    go_enter Tryd.func18, Tryd.ntmps18
    go_wp2_with fail
    refine Calls.mono (h1 _ hE0) ?_
    rintro e w1 ⟨rfl, hb1⟩
    go_wp2_with fail
    refine Calls.mono (h2 _ (hE0.trans hb1)) ?_
    rintro e w2 ⟨rfl, hb2⟩
    go_wp2_with fail
    refine Calls.mono (h3 _ (hF0 _ ((hX0.ext hb1).ext hb2))) ?_
    rintro e w3 ⟨rfl, hb3⟩
    have hw3 := ((hE0.trans hb1).trans hb2).trans hb3
    go_wp2_with fail
    refine Calls.mono (s1 _ (hF0 _ (((hX0.ext hb1).ext hb2).ext hb3)) hw3) ?_
    rintro e w4 ⟨rfl, hb4⟩
    have hw4 := hw3.trans hb4
    go_wp2
    refine bodyPost_ret (v := .tuple #[.slice (some ⟨w4.heap.size, 0, none⟩) 0 0, .int .i64 4]) (by simp [results, Tryd.results18, go_sem]) rfl ⟨_, by rw [hv.out], by rw [hv.out]; exact Ow.made0 rfl hw4.size, hw4.alloc _⟩
  | true =>
    rw [hs1] at s1
    cases hs2 : sortedB f b with
    | false =>
      have hv := hd (md_un hall (by rw [hs1, hs2]; rfl))
      rw [hs2] at s2
      clear hky hall
      go_enter Tryd.func18, Tryd.ntmps18
      go_wp2_with fail
      refine Calls.mono (h1 _ hE0) ?_
      rintro e w1 ⟨rfl, hb1⟩
      go_wp2_with fail
      refine Calls.mono (h2 _ (hE0.trans hb1)) ?_
      rintro e w2 ⟨rfl, hb2⟩
      go_wp2_with fail
      refine Calls.mono (h3 _ (hF0 _ ((hX0.ext hb1).ext hb2))) ?_
      rintro e w3 ⟨rfl, hb3⟩
      have hw3 := ((hE0.trans hb1).trans hb2).trans hb3
      go_wp2_with fail
      refine Calls.mono (s1 _ (hF0 _ (((hX0.ext hb1).ext hb2).ext hb3)) hw3) ?_
      rintro e w4 ⟨rfl, hb4⟩
      have hw4 := hw3.trans hb4
      go_wp2_with fail
      refine Calls.mono (s2 _ (hF0 _ ((((hX0.ext hb1).ext hb2).ext hb3).ext hb4)) hw4) ?_
      rintro e w5 ⟨rfl, hb5⟩
      have hw5 := hw4.trans hb5
      go_wp2
      refine bodyPost_ret (v := .tuple #[.slice (some ⟨w5.heap.size, 0, none⟩) 0 0, .int .i64 4]) (by simp [results, Tryd.results18, go_sem]) rfl ⟨_, by rw [hv.out], by rw [hv.out]; exact Ow.made0 rfl hw5.size, hw5.alloc _⟩
    | true =>
      rw [hs2] at s2
      by_cases h80 : a.length + b.length ≤ 80
      · have hv2 := fun h => md_two hall (by rw [hs1, hs2]; rfl) h80 h
        have hv3 := fun h => md_ok hall (by rw [hs1, hs2]; rfl) h80 h
        have hle : ((a.length : Int) + (b.length : Int) ≤ 80) := by omega
        have hmk := mergeF_ok (kf f) a b
        have hml := merge_len (kf f) a b
        have hMok : ∀ c ∈ mergeF (kf f) a b, CrdIn c := fun c hc => by
          rcases List.mem_append.1 ((mergeF_perm (kf f) a b).mem_iff.1 hc) with h | h
          · exact hok c h
          · exact hok' c h
        have hend := fun i j hi hj => merge_end (key := kf f) (a := a) (b := b) (i := i) (j := j) hi hj
        have ha := fun i j hi hj h => merge_a (key := kf f) (a := a) (b := b) (i := i) (j := j) hi hj h
        have hb := fun i j hi hj h => merge_b (key := kf f) (a := a) (b := b) (i := i) (j := j) hi hj h
        have ha0 := fun i j hi hj => merge_a0 (key := kf f) (a := a) (b := b) (i := i) (j := j) hi hj
        have hb0 := fun i j hi hj => merge_b0 (key := kf f) (a := a) (b := b) (i := i) (j := j) hi hj
        have hM0 : mergeF (kf f) (a.drop 0) (b.drop 0) = mergeF (kf f) a b := by rw [List.drop_zero, List.drop_zero]
        generalize mergeF (kf f) a b = M at hv3 hmk hml hM0 hMok
        clear hall
        go_enter Tryd.func18, Tryd.ntmps18
        go_wp2_with fail
        refine Calls.mono (h1 _ hE0) ?_
        rintro e w1 ⟨rfl, hb1⟩
        go_wp2_with fail
        refine Calls.mono (h2 _ (hE0.trans hb1)) ?_
        rintro e w2 ⟨rfl, hb2⟩
        go_wp2_with fail
        refine Calls.mono (h3 _ (hF0 _ ((hX0.ext hb1).ext hb2))) ?_
        rintro e w3 ⟨rfl, hb3⟩
        have hw3 := ((hE0.trans hb1).trans hb2).trans hb3
        go_wp2_with fail
        refine Calls.mono (s1 _ (hF0 _ (((hX0.ext hb1).ext hb2).ext hb3)) hw3) ?_
        rintro e w4 ⟨rfl, hb4⟩
        have hw4 := hw3.trans hb4
        go_wp2_with fail
        refine Calls.mono (s2 _ (hF0 _ ((((hX0.ext hb1).ext hb2).ext hb3).ext hb4)) hw4) ?_
        rintro e w5 ⟨rfl, hb5⟩
        have hw5 := hw4.trans hb5
        have hX5 := (((((hX0.ext hb1).ext hb2).ext hb3).ext hb4)).ext hb5
        clear hb1 hb2 hb3 hb4 hb5 hw3 hw4 h1 h2 h3 s1 s2 hX0 hE0
        go_wp2
        go_loopg [8, 9, 10] (a.length + b.length) (fun g v i j wr => ∃ p q : Nat, ∃ os : List Crd, g = (a.length - p) + (b.length - q) ∧ p ≤ a.length ∧ q ≤ b.length ∧ i = .int .i64 p ∧ j = .int .i64 q ∧ Hd (os.length = p + q) ∧ Hd (os ++ mergeF (kf f) (a.drop p) (b.drop q) = M) ∧ Ext w5 wr ∧ Ow encCrd 60 wr w5.heap.size v os)
        case atStart => exact ⟨0, 0, [], by omega, by omega, by omega, rfl, rfl, hd rfl, hd hM0, (Ext.refl _).alloc _, Ow.made0 rfl (Nat.le_refl _)⟩
        case round =>
          obtain ⟨p, q, os, hg, hp, hq, rfl, rfl, hol, hQ, hw, hO⟩ := hrel
          have hwr := hw5.trans hw
          have hk := fun (m : Mask) (W : World) (hE : Ext wr W) => hky m W (hF0 _ (hX5.ext (hw.trans hE)))
          have eA : ∀ (x : Crd) (R : List Crd), mergeF (kf f) (a.drop p) (b.drop q) = x :: R → Hd (os ++ [x] ++ R = M) := fun x R h => hd (by rw [List.append_assoc, List.singleton_append, ← h]; exact hQ.out)
          have hol2 : os.length ≤ 80 := by have := hol.out; omega
          clear hM0 hml
          by_cases hpl : p < a.length
          · obtain ⟨bA, oA, hA, hltA, _⟩ := hR p hpl
            subst hA
            obtain ⟨m0, m1, m2, m3⟩ := (hR.ext hwr).crd p hpl
            have i1 : (p : Int) < a.length := by omega
            have i3 : ((p : Int) = a.length) = False := eq_false (by omega)
            by_cases hql : q < b.length
            · obtain ⟨bB, oB, hB, hltB, _⟩ := hS q hql
              subst hB
              obtain ⟨n0, n1, n2, n3⟩ := (hS.ext hwr).crd q hql
              have i2 : (q : Int) < b.length := by omega
              have ha1 : ¬ (keyF f b[q].m : Int) < (keyF f a[p].m : Int) → Hd (os ++ [a[p]] ++ mergeF (kf f) (a.drop (p + 1)) (b.drop q) = M) := fun h => eA _ _ (ha p q hpl hql (by first | exact h | exact Int.not_lt.1 h))
              have hb1 : (keyF f b[q].m : Int) < (keyF f a[p].m : Int) → Hd (os ++ [b[q]] ++ mergeF (kf f) (a.drop p) (b.drop (q + 1)) = M) := fun h => eA _ _ (hb p q hpl hql h)
              have hc1 := hk a[p].m
              have hc2 := hk b[q].m
              generalize a[p] = x at m0 m1 m2 hc1 ha1 hb1
              generalize b[q] = y at n0 n1 n2 hc2 ha1 hb1
              generalize keyF f x.m = kx at hc1 ha1 hb1
              generalize keyF f y.m = ky at hc2 ha1 hb1
              by_cases e : (ky : Int) < kx
              · have hQ2 := hb1 e
                have he : ((ky : Int) < kx) = True := eq_true e
                clear hmk ha1 hb1 ha hb ha0 hb0 hend hky eA hk e hQ hv2 hv3
                go_wp2
                refine wp_region_ext (by kernel_rfl) (by kernel_rfl) ?_
                repeat (first | go_big_quiet_step ((first | (go_at_call 43; with_reducible exact Calls.ext_all (fun W hE => hc1 W hE)) | (go_at_call 43; with_reducible exact Calls.ext_all (fun W hE => hc2 W hE)))) | quiet_step ((first | (go_at_call 43; with_reducible exact Calls.ext_all (fun W hE => hc1 W hE)) | (go_at_call 43; with_reducible exact Calls.ext_all (fun W hE => hc2 W hE)))))
                refine wpQuiet_nil ?_
                intro w7 hq7
                have hb7 := ext_of_class hq7
                clear hq7
                obtain ⟨hc7, hf7, hz7⟩ := bcell3 hb7
                try simp at hz7
                have hO7 := hO.ext hb7
                have hw7 := hw.trans hb7
                clear hc7 hf7
                replace m0 := hb7.cell m0
                replace m1 := hb7.cell m1
                replace m2 := hb7.cell m2
                replace n0 := hb7.cell n0
                replace n1 := hb7.cell n1
                replace n2 := hb7.cell n2
                go_wp2_with (at_builtin; refine wpList_push2 (w0 := w5) (base := w5.heap.size) (xs := os) encCrd (by rfl) _ _ 29 (.agg #[.string ⟨#[]⟩, .int .u64 0, .int .u64 0]) 32 (by rfl) Tryd.underlying29 info_Crd (by rfl) (y) (by rfl) (by rfl) (by simp) (hO7) (by have := (hw7 : Ext w5 _).size; simp at this ⊢; omega) (by omega) (hw7) (by omega) (by omega) ?_)
                intro v3 w3 hO3 hb3 hg3 ho3
                go_wp2
                go_roundg ((a.length - p) + (b.length - (q + 1)))
                case rel => exact ⟨p, q + 1, os ++ [y], rfl, hp, hql, by simp, by simp, hd (by have := hol.out; rw [List.length_append, List.length_singleton]; omega), hQ2, hb3, hO3⟩
                case measure => omega
              · have hQ2 := ha1 e
                have he : ((ky : Int) < kx) = False := eq_false e
                clear hmk ha1 hb1 ha hb ha0 hb0 hend hky eA hk e hQ hv2 hv3
                go_wp2
                refine wp_region_ext (by kernel_rfl) (by kernel_rfl) ?_
                repeat (first | go_big_quiet_step ((first | (go_at_call 43; with_reducible exact Calls.ext_all (fun W hE => hc1 W hE)) | (go_at_call 43; with_reducible exact Calls.ext_all (fun W hE => hc2 W hE)))) | quiet_step ((first | (go_at_call 43; with_reducible exact Calls.ext_all (fun W hE => hc1 W hE)) | (go_at_call 43; with_reducible exact Calls.ext_all (fun W hE => hc2 W hE)))))
                refine wpQuiet_nil ?_
                intro w7 hq7
                have hb7 := ext_of_class hq7
                clear hq7
                obtain ⟨hc7, hf7, hz7⟩ := bcell3 hb7
                try simp at hz7
                have hO7 := hO.ext hb7
                have hw7 := hw.trans hb7
                clear hc7 hf7
                replace m0 := hb7.cell m0
                replace m1 := hb7.cell m1
                replace m2 := hb7.cell m2
                replace n0 := hb7.cell n0
                replace n1 := hb7.cell n1
                replace n2 := hb7.cell n2
                go_wp2_with (at_builtin; refine wpList_push2 (w0 := w5) (base := w5.heap.size) (xs := os) encCrd (by rfl) _ _ 29 (.agg #[.string ⟨#[]⟩, .int .u64 0, .int .u64 0]) 32 (by rfl) Tryd.underlying29 info_Crd (by rfl) (x) (by rfl) (by rfl) (by simp) (hO7) (by have := (hw7 : Ext w5 _).size; simp at this ⊢; omega) (by omega) (hw7) (by omega) (by omega) ?_)
                intro v3 w3 hO3 hb3 hg3 ho3
                go_wp2
                go_roundg ((a.length - (p + 1)) + (b.length - q))
                case rel => exact ⟨p + 1, q, os ++ [x], rfl, hpl, hq, by simp, by simp, hd (by have := hol.out; rw [List.length_append, List.length_singleton]; omega), hQ2, hb3, hO3⟩
                case measure => omega
            · have i2 : ((q : Int) < b.length) = False := eq_false (by omega)
              have hQ2 := eA _ _ (ha0 p q hpl hql)
              generalize a[p] = x at m0 m1 m2 hQ2
              clear hmk ha hb ha0 hb0 hend hky eA hk hQ hv2 hv3
              go_wp2
              refine wp_region_ext (by kernel_rfl) (by kernel_rfl) ?_
              repeat (first | go_big_quiet_step (fail) | quiet_step (fail))
              refine wpQuiet_nil ?_
              intro w7 hq7
              have hb7 := ext_of_class hq7
              clear hq7
              obtain ⟨hc7, hf7, hz7⟩ := bcell3 hb7
              try simp at hz7
              have hO7 := hO.ext hb7
              have hw7 := hw.trans hb7
              clear hc7 hf7
              replace m0 := hb7.cell m0
              replace m1 := hb7.cell m1
              replace m2 := hb7.cell m2
              go_wp2_with (at_builtin; refine wpList_push2 (w0 := w5) (base := w5.heap.size) (xs := os) encCrd (by rfl) _ _ 29 (.agg #[.string ⟨#[]⟩, .int .u64 0, .int .u64 0]) 32 (by rfl) Tryd.underlying29 info_Crd (by rfl) (x) (by rfl) (by rfl) (by simp) (hO7) (by have := (hw7 : Ext w5 _).size; simp at this ⊢; omega) (by omega) (hw7) (by omega) (by omega) ?_)
              intro v3 w3 hO3 hb3 hg3 ho3
              go_wp2
              go_roundg ((a.length - (p + 1)) + (b.length - q))
              case rel => exact ⟨p + 1, q, os ++ [x], rfl, hpl, hq, by simp, by simp, hd (by have := hol.out; rw [List.length_append, List.length_singleton]; omega), hQ2, hb3, hO3⟩
              case measure => omega
          · have i1 : ((p : Int) < a.length) = False := eq_false (by omega)
            have i3 : ((p : Int) = a.length) = True := eq_true (by omega)
            by_cases hql : q < b.length
            · obtain ⟨bB, oB, hB, hltB, _⟩ := hS q hql
              subst hB
              obtain ⟨n0, n1, n2, n3⟩ := (hS.ext hwr).crd q hql
              have i2 : (q : Int) < b.length := by omega
              have hQ2 := eA _ _ (hb0 p q hpl hql)
              generalize b[q] = y at n0 n1 n2 hQ2
              clear hmk ha hb ha0 hb0 hend hky eA hk hQ hv2 hv3
              go_wp2
              refine wp_region_ext (by kernel_rfl) (by kernel_rfl) ?_
              repeat (first | go_big_quiet_step (fail) | quiet_step (fail))
              refine wpQuiet_nil ?_
              intro w7 hq7
              have hb7 := ext_of_class hq7
              clear hq7
              obtain ⟨hc7, hf7, hz7⟩ := bcell3 hb7
              try simp at hz7
              have hO7 := hO.ext hb7
              have hw7 := hw.trans hb7
              clear hc7 hf7
              replace n0 := hb7.cell n0
              replace n1 := hb7.cell n1
              replace n2 := hb7.cell n2
              go_wp2_with (at_builtin; refine wpList_push2 (w0 := w5) (base := w5.heap.size) (xs := os) encCrd (by rfl) _ _ 29 (.agg #[.string ⟨#[]⟩, .int .u64 0, .int .u64 0]) 32 (by rfl) Tryd.underlying29 info_Crd (by rfl) (y) (by rfl) (by rfl) (by simp) (hO7) (by have := (hw7 : Ext w5 _).size; simp at this ⊢; omega) (by omega) (hw7) (by omega) (by omega) ?_)
              intro v3 w3 hO3 hb3 hg3 ho3
              go_wp2
              go_roundg ((a.length - p) + (b.length - (q + 1)))
              case rel => exact ⟨p, q + 1, os ++ [y], rfl, hp, hql, by simp, by simp, hd (by have := hol.out; rw [List.length_append, List.length_singleton]; omega), hQ2, hb3, hO3⟩
              case measure => omega
            · have i2 : ((q : Int) < b.length) = False := eq_false (by omega)
              have hQ2 : os = M := by have := hQ.out; rw [hend p q hpl hql, List.append_nil] at this; exact this
              subst hQ2
              clear hend ha hb ha0 hb0 hky eA hk hQ
              obtain ⟨A9, c9, rfl, hle9, hR9⟩ := hO.slice
              have h9 := spec_l02Ok os A9 c9 wr hR9 (by omega) hMok
              rw [hmk] at h9
              clear hmk
              cases hm9 : deckB (a ++ b) with
              | false =>
                have hv := hd (hv2 hm9)
                rw [hm9] at h9
                clear hv2 hv3
                go_wp2_with fail
                refine Calls.mono h9 ?_
                rintro e w8 ⟨rfl, hb8⟩
                have hw8 := hwr.trans hb8
                go_wp2
                refine bodyPost_ret (v := .tuple #[.slice (some ⟨w8.heap.size, 0, none⟩) 0 0, .int .i64 8]) (by simp [results, Tryd.results18, go_sem]) rfl ⟨_, by rw [hv.out], by rw [hv.out]; exact Ow.made0 rfl hw8.size, hw8.alloc _⟩
              | true =>
                have hv := hd (hv3 hm9)
                rw [hm9] at h9
                have hO9 := hO.lower hw5.size
                clear hv2 hv3 hO
                go_wp2_with fail
                refine Calls.mono h9 ?_
                rintro e w8 ⟨rfl, hb8⟩
                have hw8 := hwr.trans hb8
                go_wp2
                refine bodyPost_ret (v := .tuple #[.slice A9 os.length c9, .int .i64 0]) (by simp [results, Tryd.results18, go_sem]) rfl ⟨_, by rw [hv.out], by rw [hv.out]; exact hO9.ext hb8, hw8⟩
      · have hv := hd (md_far hall (by rw [hs1, hs2]; rfl) h80)
        have hgt : (80 : Int) < (a.length : Int) + (b.length : Int) := by omega
        clear hky hall
        go_enter Tryd.func18, Tryd.ntmps18
        go_wp2_with fail
        refine Calls.mono (h1 _ hE0) ?_
        rintro e w1 ⟨rfl, hb1⟩
        go_wp2_with fail
        refine Calls.mono (h2 _ (hE0.trans hb1)) ?_
        rintro e w2 ⟨rfl, hb2⟩
        go_wp2_with fail
        refine Calls.mono (h3 _ (hF0 _ ((hX0.ext hb1).ext hb2))) ?_
        rintro e w3 ⟨rfl, hb3⟩
        have hw3 := ((hE0.trans hb1).trans hb2).trans hb3
        go_wp2_with fail
        refine Calls.mono (s1 _ (hF0 _ (((hX0.ext hb1).ext hb2).ext hb3)) hw3) ?_
        rintro e w4 ⟨rfl, hb4⟩
        have hw4 := hw3.trans hb4
        go_wp2_with fail
        refine Calls.mono (s2 _ (hF0 _ ((((hX0.ext hb1).ext hb2).ext hb3).ext hb4)) hw4) ?_
        rintro e w5 ⟨rfl, hb5⟩
        have hw5 := hw4.trans hb5
        go_wp2
        refine bodyPost_ret (v := .tuple #[.slice (some ⟨w5.heap.size, 0, none⟩) 0 0, .int .i64 3]) (by simp [results, Tryd.results18, go_sem]) rfl ⟨_, by rw [hv.out], by rw [hv.out]; exact Ow.made0 rfl hw5.size, hw5.alloc _⟩
end Go.Proofs.YtdlpifgkponnmaaDoor
set_option linter.unusedVariables false
set_option linter.unusedSimpArgs false
set_option maxRecDepth 100000
namespace Go.Proofs.YtdlpifgkponnmaaDoor
open Go.RowKit
theorem Rd.tl {α : Type} {e : Enc α} {w : World} {b off : Nat} {xs : List α} (h : Rd e w (some ⟨b, off, none⟩) xs) : Rd e w (some ⟨b, off + e.sz, none⟩) xs.tail := fun k hk => by
  have hk2 : k + 1 < xs.length := by rw [List.length_tail] at hk; omega
  obtain ⟨b', off', hA, hlt, hc⟩ := h (k + 1) hk2
  simp only [Option.some.injEq, Addr.mk.injEq, and_true] at hA
  obtain ⟨rfl, rfl⟩ := hA
  refine ⟨_, _, rfl, hlt, fun j u hu => ?_⟩
  rw [List.getElem_tail] at hu
  have := hc j u hu
  rw [show off + e.sz + k * e.sz + j = off + (k + 1) * e.sz + j by rw [Nat.add_mul]; omega]
  exact this
theorem Rd.hd0 {w : World} {A : Option Addr} {xs : List Crd} (h : Rd encCrd w A xs) {n : Nat} (hn : Hd (xs.length = n)) (h0 : 0 < n) : ∃ b off x, A = some ⟨b, off, none⟩ ∧ xs = x :: xs.tail ∧ w.cell? ⟨b, off, none⟩ = some (.string x.nm) ∧ w.cell? ⟨b, off + 1, none⟩ = some (.int .u64 (lo x.m)) ∧ w.cell? ⟨b, off + 2, none⟩ = some (.int .u64 (hi x.m)) ∧ b < w.heap.size := by
  cases xs with
  | nil => have := hn.out; simp at this; omega
  | cons x xs =>
    obtain ⟨b, off, rfl, hlt, _⟩ := h 0 (Nat.zero_lt_succ _)
    obtain ⟨m0, m1, m2, _⟩ := h.crd 0 (Nat.zero_lt_succ _)
    simp only [Nat.zero_mul, Nat.add_zero, List.getElem_cons_zero] at m0 m1 m2
    exact ⟨b, off, x, rfl, rfl, m0, m1, m2, hlt⟩
theorem tail_len {α : Type} {xs : List α} {n : Nat} (h : Hd (xs.length = n)) : Hd (xs.tail.length = n - 1) := hd (by rw [List.length_tail, h.out])
theorem tail_one {α : Type} {xs : List α} {n : Nat} (h : Hd (xs.length = n)) (h1 : n ≤ 1) : xs.tail = [] := List.eq_nil_of_length_eq_zero (by rw [List.length_tail, h.out]; omega)
theorem len_zero {α : Type} {xs : List α} (h : Hd (xs.length = 0)) : xs = [] := List.eq_nil_of_length_eq_zero h.out
set_option maxHeartbeats 4000000 in
theorem impl_MergeDecks (a b : List Crd) (A B : Option Addr) (cap cap' : Nat) (f : Fld) (w : World) (hR : Rd encCrd w A a) (hcap : a.length ≤ cap) (hn : a.length ≤ 1048576) (hok : ∀ c ∈ a, CrdIn c) (hS : Rd encCrd w B b) (hcap' : b.length ≤ cap') (hm : b.length ≤ 1048576) (hok' : ∀ c ∈ b, CrdIn c) (hf : FldIn f) :
    Calls Tryd.prog 19 #[.slice A a.length cap, .slice B b.length cap', .agg #[.string f.nm, .int .i8 f.kd, .int .i16 f.st, .int .i16 f.sz]] w fun e w' => ∃ v, e = .returned (.tuple #[v, .int .i64 (mdF a b f).2]) ∧ Ow encCrd 60 w' w.heap.size v (mdF a b f).1 ∧ Ext w w' := by
  have hx := @ExtOf.cell
  have h1 := fun (W : World) (hE : Ext w W) => impl_isDeck a A cap W (hR.ext hE) hcap hn hok
  have h2 := fun (W : World) (hE : Ext w W) => impl_isDeck b B cap' W (hS.ext hE) hcap' hm hok'
  have h3 := fun (W : World) => isField_in f hf W
  have s1 := fun (h : fldB f = true) (W : World) (hE : Ext w W) => impl_isSorted f h a A cap W (hR.ext hE) hn
  have s2 := fun (h : fldB f = true) (W : World) (hE : Ext w W) => impl_isSorted f h b B cap' W (hS.ext hE) hm
  have hky := fun (h : fldB f = true) (m : Mask) (W : World) => impl_key f h m W
  have hbad := fun h => md_bad (a := a) (b := b) (f := f) h
  have hall := md_split a b f
  have hX0 : BoxAt (w.alloc (.cells #[.string f.nm, .int .i8 f.kd, .int .i16 f.st, .int .i16 f.sz] 33)) w.heap.size #[.string f.nm, .int .i8 f.kd, .int .i16 f.st, .int .i16 f.sz] 33 := BoxAt.new' rfl
  have hE0 : Ext w (w.alloc (.cells #[.string f.nm, .int .i8 f.kd, .int .i16 f.st, .int .i16 f.sz] 33)) := (Ext.refl _).alloc _
  have hw1s := fun (w1 : World) (hb : Ext (w.alloc (.cells #[.string f.nm, .int .i8 f.kd, .int .i16 f.st, .int .i16 f.sz] 33)) w1) => (⟨(hX0.ext hb).cell 0, (hX0.ext hb).cell 1, (hX0.ext hb).cell 2, (hX0.ext hb).cell 3, (hX0.ext hb).lt⟩ : w1.cell? ⟨w.heap.size, 0, none⟩ = some (.string f.nm) ∧ w1.cell? ⟨w.heap.size, 1, none⟩ = some (.int .i8 f.kd) ∧ w1.cell? ⟨w.heap.size, 2, none⟩ = some (.int .i16 f.st) ∧ w1.cell? ⟨w.heap.size, 3, none⟩ = some (.int .i16 f.sz) ∧ w.heap.size < w1.heap.size)
  cases hd1 : deckB a with
  | false =>
    have hv := hd (hbad (by rw [hd1]; rfl))
    rw [hd1] at h1
    clear h2 h3 s1 s2 hky hbad hall hw1s
    go_enter Tryd.func19, Tryd.ntmps19
    go_wp2_with fail
    refine Calls.mono (h1 _ hE0) ?_
    rintro e w1 ⟨rfl, hb1⟩
    go_wp2
    refine bodyPost_ret (v := .tuple #[.slice none 0 0, .int .i64 1]) (by simp [results, Tryd.results19, go_sem]) rfl ⟨_, by rw [hv.out], by rw [hv.out]; exact Ow.nil _ _ _ _, hE0.trans hb1⟩
  | true =>
    rw [hd1] at h1
    cases hd2 : deckB b with
    | false =>
      have hv := hd (hbad (by rw [hd1, hd2]; rfl))
      rw [hd2] at h2
      clear h3 s1 s2 hky hbad hall hw1s
      go_enter Tryd.func19, Tryd.ntmps19
      go_wp2_with fail
      refine Calls.mono (h1 _ hE0) ?_
      rintro e w1 ⟨rfl, hb1⟩
      go_wp2_with fail
      refine Calls.mono (h2 _ (hE0.trans hb1)) ?_
      rintro e w2 ⟨rfl, hb2⟩
      go_wp2
      refine bodyPost_ret (v := .tuple #[.slice none 0 0, .int .i64 1]) (by simp [results, Tryd.results19, go_sem]) rfl ⟨_, by rw [hv.out], by rw [hv.out]; exact Ow.nil _ _ _ _, (hE0.trans hb1).trans hb2⟩
    | true =>
      rw [hd2] at h2
      cases hd3 : fldB f with
      | false =>
        have hv := hd (hbad (by rw [hd1, hd2, hd3]; rfl))
        rw [hd3] at h3
        clear s1 s2 hky hbad hall
        go_enter Tryd.func19, Tryd.ntmps19
        go_wp2_with fail
        refine Calls.mono (h1 _ hE0) ?_
        rintro e w1 ⟨rfl, hb1⟩
        go_wp2_with fail
        refine Calls.mono (h2 _ (hE0.trans hb1)) ?_
        rintro e w2 ⟨rfl, hb2⟩
        have hb12 := hb1.trans hb2
        obtain ⟨x0, x1, x2, x3, lX⟩ := hw1s w2 hb12
        go_wp2_with fail
        refine Calls.mono (h3 _) ?_
        rintro e w3 ⟨rfl, hb3⟩
        go_wp2
        refine bodyPost_ret (v := .tuple #[.slice none 0 0, .int .i64 1]) (by simp [results, Tryd.results19, go_sem]) rfl ⟨_, by rw [hv.out], by rw [hv.out]; exact Ow.nil _ _ _ _, (hE0.trans hb12).trans hb3⟩
      | true =>
        rw [hd3] at h3
        replace s1 := s1 hd3
        replace s2 := s2 hd3
        replace hky := hky hd3
        have hall := hall hd1 hd2 hd3
        clear hbad
        cases hs1 : sortedB f a with
        | false =>
          have hv := hd (md_un hall (by rw [hs1]; rfl))
          rw [hs1] at s1
          clear s2 hky hall
          go_enter Tryd.func19, Tryd.ntmps19
          go_wp2_with fail
          refine Calls.mono (h1 _ hE0) ?_
          rintro e w1 ⟨rfl, hb1⟩
          go_wp2_with fail
          refine Calls.mono (h2 _ (hE0.trans hb1)) ?_
          rintro e w2 ⟨rfl, hb2⟩
          have hb12 := hb1.trans hb2
          obtain ⟨x0, x1, x2, x3, lX⟩ := hw1s w2 hb12
          go_wp2_with fail
          refine Calls.mono (h3 _) ?_
          rintro e w3 ⟨rfl, hb3⟩
          have hb13 := hb12.trans hb3
          clear x0 x1 x2 x3 lX
          obtain ⟨x0, x1, x2, x3, lX⟩ := hw1s w3 hb13
          go_wp2_with fail
          refine Calls.mono (s1 _ (hE0.trans hb13)) ?_
          rintro e w4 ⟨rfl, hb4⟩
          go_wp2
          refine bodyPost_ret (v := .tuple #[.slice none 0 0, .int .i64 4]) (by simp [results, Tryd.results19, go_sem]) rfl ⟨_, by rw [hv.out], by rw [hv.out]; exact Ow.nil _ _ _ _, (hE0.trans hb13).trans hb4⟩
        | true =>
          rw [hs1] at s1
          cases hs2 : sortedB f b with
          | false =>
            have hv := hd (md_un hall (by rw [hs1, hs2]; rfl))
            rw [hs2] at s2
            clear hky hall
            go_enter Tryd.func19, Tryd.ntmps19
            go_wp2_with fail
            refine Calls.mono (h1 _ hE0) ?_
            rintro e w1 ⟨rfl, hb1⟩
            go_wp2_with fail
            refine Calls.mono (h2 _ (hE0.trans hb1)) ?_
            rintro e w2 ⟨rfl, hb2⟩
            have hb12 := hb1.trans hb2
            obtain ⟨x0, x1, x2, x3, lX⟩ := hw1s w2 hb12
            go_wp2_with fail
            refine Calls.mono (h3 _) ?_
            rintro e w3 ⟨rfl, hb3⟩
            have hb13 := hb12.trans hb3
            clear x0 x1 x2 x3 lX
            obtain ⟨x0, x1, x2, x3, lX⟩ := hw1s w3 hb13
            go_wp2_with fail
            refine Calls.mono (s1 _ (hE0.trans hb13)) ?_
            rintro e w4 ⟨rfl, hb4⟩
            have hb14 := hb13.trans hb4
            clear x0 x1 x2 x3 lX
            obtain ⟨x0, x1, x2, x3, lX⟩ := hw1s w4 hb14
            go_wp2_with fail
            refine Calls.mono (s2 _ (hE0.trans hb14)) ?_
            rintro e w5 ⟨rfl, hb5⟩
            go_wp2
            refine bodyPost_ret (v := .tuple #[.slice none 0 0, .int .i64 4]) (by simp [results, Tryd.results19, go_sem]) rfl ⟨_, by rw [hv.out], by rw [hv.out]; exact Ow.nil _ _ _ _, (hE0.trans hb14).trans hb5⟩
          | true =>
            rw [hs2] at s2
            by_cases h80 : a.length + b.length ≤ 80
            · have hv2 := fun h => md_two hall (by rw [hs1, hs2]; rfl) h80 h
              have hv3 := fun h => md_ok hall (by rw [hs1, hs2]; rfl) h80 h
              have hle : ((a.length : Int) + (b.length : Int) ≤ 80) := by omega
              have hab : ∀ c ∈ a ++ b, CrdIn c := fun c hc => (List.mem_append.1 hc).elim (hok c) (hok' c)
              have hlab : (a ++ b).length ≤ 80 := by rw [List.length_append]; exact h80
              clear hall
              go_enter Tryd.func19, Tryd.ntmps19
              go_wp2_with fail
              refine Calls.mono (h1 _ hE0) ?_
              rintro e w1 ⟨rfl, hb1⟩
              go_wp2_with fail
              refine Calls.mono (h2 _ (hE0.trans hb1)) ?_
              rintro e w2 ⟨rfl, hb2⟩
              have hb12 := hb1.trans hb2
              obtain ⟨x0, x1, x2, x3, lX⟩ := hw1s w2 hb12
              go_wp2_with fail
              refine Calls.mono (h3 _) ?_
              rintro e w3 ⟨rfl, hb3⟩
              have hb13 := hb12.trans hb3
              clear x0 x1 x2 x3 lX
              obtain ⟨x0, x1, x2, x3, lX⟩ := hw1s w3 hb13
              go_wp2_with fail
              refine Calls.mono (s1 _ (hE0.trans hb13)) ?_
              rintro e w4 ⟨rfl, hb4⟩
              have hb14 := hb13.trans hb4
              clear x0 x1 x2 x3 lX
              obtain ⟨x0, x1, x2, x3, lX⟩ := hw1s w4 hb14
              go_wp2_with fail
              refine Calls.mono (s2 _ (hE0.trans hb14)) ?_
              rintro e w5 ⟨rfl, hb5⟩
              have hb15 := hb14.trans hb5
              have hw5 := hE0.trans hb15
              clear x0 x1 x2 x3 lX h1 h2 h3 s1 s2 hb1 hb2 hb3 hb4 hb5 hb12 hb13 hb14
              go_wp2_with (at_builtin; refine wpList_addAny (w0 := w5) (base := w5.heap.size) (xs := []) encCrd (by rfl) _ _ 29 (.agg #[.string ⟨#[]⟩, .int .u64 0, .int .u64 0]) 32 (by rfl) Tryd.underlying29 info_Crd (by rfl) a A cap (by rfl) (by rfl) (hR.ext (hw5.alloc _)) (Ow.made0 rfl (Nat.le_refl _)) ((Ext.refl w5).alloc (.cells #[] 60)).size (Nat.le_refl _) ((Ext.refl w5).alloc (.cells #[] 60)) (by simp only [List.length_nil]; omega) (by simp only [List.length_nil]; omega) ?_)
              intro v6 w6 hO6 hw6
              try rw [List.nil_append] at hO6
              go_wp2_with (at_builtin; refine wpList_addAny (w0 := w5) (base := w5.heap.size) (xs := a) encCrd (by rfl) _ _ 29 (.agg #[.string ⟨#[]⟩, .int .u64 0, .int .u64 0]) 32 (by rfl) Tryd.underlying29 info_Crd (by rfl) b B cap' (by rfl) (by rfl) (hS.ext (hw5.trans hw6)) (hO6) hw6.size (Nat.le_refl _) hw6 (by omega) (by omega) ?_)
              intro v7 w7 hO7 hw7
              obtain ⟨A7, c7, rfl, hle7, hR7⟩ := hO7.slice
              clear hO6 hO7 hw6
              have h7 := impl_isDeck (a ++ b) A7 c7 w7 hR7 hle7 (by omega) hab
              generalize hlN : (a ++ b).length = lN at h7 hle7 hlab ⊢
              clear hlN
              cases hm9 : deckB (a ++ b) with
              | false =>
                have hv := hd (hv2 hm9)
                rw [hm9] at h7
                clear hv2 hv3 hky
                go_wp2_with fail
                refine Calls.mono h7 ?_
                rintro e w8 ⟨rfl, hb8⟩
                go_wp2
                refine bodyPost_ret (v := .tuple #[.slice none 0 0, .int .i64 8]) (by simp [results, Tryd.results19, go_sem]) rfl ⟨_, by rw [hv.out], by rw [hv.out]; exact Ow.nil _ _ _ _, (hw5.trans hw7).trans hb8⟩
              | true =>
                have hv := hd (hv3 hm9)
                rw [hm9] at h7
                clear hv2 hv3
                go_wp2_with fail
                refine Calls.mono h7 ?_
                rintro e w8 ⟨rfl, hb8⟩
                have hw8 := (hw5.trans hw7).trans hb8
                have hX8 := hb15.trans (hw7.trans hb8)
                clear h7 hR7 hw7 hb8 hb15 hw5 hX0 hE0
                generalize hQ0 : mergeF (kf f) a b = M at hv
                replace hQ0 : Hd ([] ++ mergeF (kf f) a b = M) := hd (by rw [List.nil_append]; exact hQ0)
                have hRa := hR.ext hw8
                have hSb := hS.ext hw8
                go_wp2
                go_loopg [0, 1, 8] (a.length + b.length) (fun g sa sb v wr => ∃ n m : Nat, ∃ ra rb os : List Crd, ∃ A B : Option Addr, ∃ ca cb : Nat, g = n + m ∧ sa = .slice A n ca ∧ sb = .slice B m cb ∧ Hd (ra.length = n) ∧ Hd (rb.length = m) ∧ n ≤ ca ∧ m ≤ cb ∧ n ≤ 80 ∧ m ≤ 80 ∧ Hd (os.length + n + m ≤ 80) ∧ Hd (os ++ mergeF (kf f) ra rb = M) ∧ Rd encCrd w8 A ra ∧ Rd encCrd w8 B rb ∧ Ext w8 wr ∧ Ow encCrd 60 wr w8.heap.size v os)
                case atStart => exact ⟨a.length, b.length, a, b, [], A, B, cap, cap', rfl, rfl, rfl, hd rfl, hd rfl, hcap, hcap', by omega, by omega, hd (by simp; omega), hQ0, hRa, hSb, (Ext.refl _).alloc _, Ow.made0 rfl (Nat.le_refl _)⟩
                case round =>
                  clear hR hS hRa hSb hcap hcap' hn hm hok hok' hab hlab hle hle7 h80 hQ0
                  obtain ⟨n, m, ra, rb, os, A, B, ca, cb, hg, rfl, rfl, hln, hlm, hca, hcb, h8n, h8m, h8, hQ, hR, hS, hw, hO⟩ := hrel
                  have hwr := hw8.trans hw
                  have hk := fun (c : Mask) (W : World) (hE : Ext wr W) => hky c W
                  obtain ⟨x0, x1, x2, x3, lX⟩ := hw1s wr (hX8.trans hw)
                  have hol2 : os.length ≤ 80 := by have := h8.out; omega
                  by_cases hn0 : 0 < n
                  · obtain ⟨bA, oA, x, rfl, hra, m0, m1, m2, lA⟩ := (hR.ext hw).hd0 hln hn0
                    have i1 : (0 : Int) < (n : Int) := by omega
                    have i3 : ((n : Int) = 0) = False := eq_false (by omega)
                    have i4 : (n = 0) = False := eq_false (by omega)
                    by_cases hm0 : 0 < m
                    · obtain ⟨bB, oB, y, rfl, hrb, n0, n1, n2, lB⟩ := (hS.ext hw).hd0 hlm hm0
                      have i2 : (0 : Int) < (m : Int) := by omega
                      have ha1 : ¬ (keyF f y.m : Int) < (keyF f x.m : Int) → Hd (os ++ [x] ++ mergeF (kf f) ra.tail rb = M) := fun h => hd (by have h1 := hQ.out; rw [hra, hrb, mergeF_left _ _ _ _ _ h, ← hrb] at h1; rw [List.append_assoc, List.singleton_append]; exact h1)
                      have hb1 : (keyF f y.m : Int) < (keyF f x.m : Int) → Hd (os ++ [y] ++ mergeF (kf f) ra rb.tail = M) := fun h => hd (by have h1 := hQ.out; rw [hra, hrb, mergeF_right _ _ _ _ _ h, ← hra] at h1; rw [List.append_assoc, List.singleton_append]; exact h1)
                      have hc1 := hk x.m
                      have hc2 := hk y.m
                      generalize keyF f x.m = kx at hc1 ha1 hb1
                      generalize keyF f y.m = ky at hc2 ha1 hb1
                      clear hra hrb
                      by_cases e : (ky : Int) < kx
                      · have hQ2 := hb1 e
                        have he : ((ky : Int) < kx) = True := eq_true e
                        clear hk hky e hQ hv ha1 hb1 hw1s
                        go_wp2
                        refine wp_region_ext (by kernel_rfl) (by kernel_rfl) ?_
                        repeat (first | go_big_quiet_step ((first | (go_at_call 45; with_reducible exact Calls.ext_all (fun W hE => hc1 W hE)) | (go_at_call 45; with_reducible exact Calls.ext_all (fun W hE => hc2 W hE)))) | quiet_step ((first | (go_at_call 45; with_reducible exact Calls.ext_all (fun W hE => hc1 W hE)) | (go_at_call 45; with_reducible exact Calls.ext_all (fun W hE => hc2 W hE)))))
                        refine wpQuiet_nil ?_
                        intro w7 hq7
                        have hb7 := ext_of_class hq7
                        clear hq7
                        obtain ⟨hc7, hf7, hz7⟩ := bcell3 hb7
                        try simp at hz7
                        have hO7 := hO.ext hb7
                        have hw7 := hw.trans hb7
                        clear hc7 hf7
                        replace m0 := hb7.cell m0
                        replace m1 := hb7.cell m1
                        replace m2 := hb7.cell m2
                        replace n0 := hb7.cell n0
                        replace n1 := hb7.cell n1
                        replace n2 := hb7.cell n2
                        go_wp2_with (at_builtin; refine wpList_push2 (w0 := w8) (base := w8.heap.size) (xs := os) encCrd (by rfl) _ _ 29 (.agg #[.string ⟨#[]⟩, .int .u64 0, .int .u64 0]) 32 (by rfl) Tryd.underlying29 info_Crd (by rfl) (y) (by rfl) (by rfl) (by simp) (hO7) (by have := (hw7 : Ext w8 _).size; simp at this ⊢; omega) (by omega) (hw7) (by omega) (by omega) ?_)
                        intro v3 w3 hO3 hb3 hg3 ho3
                        have ht := tail_len hlm
                        have h82 : Hd ((os ++ [y]).length + n + (m - 1) ≤ 80) := hd (by have := h8.out; rw [List.length_append]; simp only [List.length_cons, List.length_nil]; omega)
                        by_cases hc1' : cb = 1
                        · obtain rfl : m = 1 := by omega
                          subst hc1'
                          have hnil := tail_one hlm hcb
                          go_wp2
                          go_roundg (n + 0)
                          case rel => exact ⟨n, 0, ra, rb.tail, os ++ [y], _, _, _, _, rfl, rfl, rfl, hln, ht, by omega, by omega, by omega, by omega, h82, hQ2, hR, by rw [hnil]; exact Rd.nil _ _ _, hb3, hO3⟩
                          case measure => omega
                        · go_wp2
                          go_roundg (n + (m - 1))
                          case rel => exact ⟨n, m - 1, ra, rb.tail, os ++ [y], _, _, _, _, rfl, rfl, rfl, hln, ht, by omega, by omega, by omega, by omega, h82, hQ2, hR, hS.tl, hb3, hO3⟩
                          case measure => omega
                      · have hQ2 := ha1 e
                        have he : ((ky : Int) < kx) = False := eq_false e
                        clear hk hky e hQ hv ha1 hb1 hw1s
                        go_wp2
                        refine wp_region_ext (by kernel_rfl) (by kernel_rfl) ?_
                        repeat (first | go_big_quiet_step ((first | (go_at_call 45; with_reducible exact Calls.ext_all (fun W hE => hc1 W hE)) | (go_at_call 45; with_reducible exact Calls.ext_all (fun W hE => hc2 W hE)))) | quiet_step ((first | (go_at_call 45; with_reducible exact Calls.ext_all (fun W hE => hc1 W hE)) | (go_at_call 45; with_reducible exact Calls.ext_all (fun W hE => hc2 W hE)))))
                        refine wpQuiet_nil ?_
                        intro w7 hq7
                        have hb7 := ext_of_class hq7
                        clear hq7
                        obtain ⟨hc7, hf7, hz7⟩ := bcell3 hb7
                        try simp at hz7
                        have hO7 := hO.ext hb7
                        have hw7 := hw.trans hb7
                        clear hc7 hf7
                        replace m0 := hb7.cell m0
                        replace m1 := hb7.cell m1
                        replace m2 := hb7.cell m2
                        replace n0 := hb7.cell n0
                        replace n1 := hb7.cell n1
                        replace n2 := hb7.cell n2
                        go_wp2_with (at_builtin; refine wpList_push2 (w0 := w8) (base := w8.heap.size) (xs := os) encCrd (by rfl) _ _ 29 (.agg #[.string ⟨#[]⟩, .int .u64 0, .int .u64 0]) 32 (by rfl) Tryd.underlying29 info_Crd (by rfl) (x) (by rfl) (by rfl) (by simp) (hO7) (by have := (hw7 : Ext w8 _).size; simp at this ⊢; omega) (by omega) (hw7) (by omega) (by omega) ?_)
                        intro v3 w3 hO3 hb3 hg3 ho3
                        have ht := tail_len hln
                        have h82 : Hd ((os ++ [x]).length + (n - 1) + m ≤ 80) := hd (by have := h8.out; rw [List.length_append]; simp only [List.length_cons, List.length_nil]; omega)
                        by_cases hc1' : ca = 1
                        · obtain rfl : n = 1 := by omega
                          subst hc1'
                          have hnil := tail_one hln hca
                          go_wp2
                          go_roundg (0 + m)
                          case rel => exact ⟨0, m, ra.tail, rb, os ++ [x], _, _, _, _, rfl, rfl, rfl, ht, hlm, by omega, by omega, by omega, by omega, h82, hQ2, by rw [hnil]; exact Rd.nil _ _ _, hS, hb3, hO3⟩
                          case measure => omega
                        · go_wp2
                          go_roundg ((n - 1) + m)
                          case rel => exact ⟨n - 1, m, ra.tail, rb, os ++ [x], _, _, _, _, rfl, rfl, rfl, ht, hlm, by omega, by omega, by omega, by omega, h82, hQ2, hR.tl, hS, hb3, hO3⟩
                          case measure => omega
                    · obtain rfl : m = 0 := by omega
                      have hQ2 : Hd (os ++ [x] ++ mergeF (kf f) ra.tail rb = M) := hd (by have h1 := hQ.out; rw [len_zero hlm, mergeF_nil] at h1 ⊢; rw [List.append_assoc, List.singleton_append, ← hra]; exact h1)
                      clear hra hk hky hQ hv hw1s
                      go_wp2
                      refine wp_region_ext (by kernel_rfl) (by kernel_rfl) ?_
                      repeat (first | go_big_quiet_step (fail) | quiet_step (fail))
                      refine wpQuiet_nil ?_
                      intro w7 hq7
                      have hb7 := ext_of_class hq7
                      clear hq7
                      obtain ⟨hc7, hf7, hz7⟩ := bcell3 hb7
                      try simp at hz7
                      have hO7 := hO.ext hb7
                      have hw7 := hw.trans hb7
                      clear hc7 hf7
                      replace m0 := hb7.cell m0
                      replace m1 := hb7.cell m1
                      replace m2 := hb7.cell m2
                      go_wp2_with (at_builtin; refine wpList_push2 (w0 := w8) (base := w8.heap.size) (xs := os) encCrd (by rfl) _ _ 29 (.agg #[.string ⟨#[]⟩, .int .u64 0, .int .u64 0]) 32 (by rfl) Tryd.underlying29 info_Crd (by rfl) (x) (by rfl) (by rfl) (by simp) (hO7) (by have := (hw7 : Ext w8 _).size; simp at this ⊢; omega) (by omega) (hw7) (by omega) (by omega) ?_)
                      intro v3 w3 hO3 hb3 hg3 ho3
                      have ht := tail_len hln
                      have h82 : Hd ((os ++ [x]).length + (n - 1) + 0 ≤ 80) := hd (by have := h8.out; rw [List.length_append]; simp only [List.length_cons, List.length_nil]; omega)
                      by_cases hc1' : ca = 1
                      · obtain rfl : n = 1 := by omega
                        subst hc1'
                        have hnil := tail_one hln hca
                        go_wp2
                        go_roundg (0 + 0)
                        case rel => exact ⟨0, 0, ra.tail, rb, os ++ [x], _, _, _, _, rfl, rfl, rfl, ht, hlm, by omega, by omega, by omega, by omega, h82, hQ2, by rw [hnil]; exact Rd.nil _ _ _, hS, hb3, hO3⟩
                        case measure => omega
                      · go_wp2
                        go_roundg ((n - 1) + 0)
                        case rel => exact ⟨n - 1, 0, ra.tail, rb, os ++ [x], _, _, _, _, rfl, rfl, rfl, ht, hlm, by omega, by omega, by omega, by omega, h82, hQ2, hR.tl, hS, hb3, hO3⟩
                        case measure => omega
                  · obtain rfl : n = 0 := by omega
                    by_cases hm0 : 0 < m
                    · obtain ⟨bB, oB, y, rfl, hrb, n0, n1, n2, lB⟩ := (hS.ext hw).hd0 hlm hm0
                      have i2 : (0 : Int) < (m : Int) := by omega
                      have hQ2 : Hd (os ++ [y] ++ mergeF (kf f) ra rb.tail = M) := hd (by have h1 := hQ.out; rw [len_zero hln, nil_mergeF] at h1 ⊢; rw [List.append_assoc, List.singleton_append, ← hrb]; exact h1)
                      clear hrb hk hky hQ hv hw1s
                      go_wp2
                      refine wp_region_ext (by kernel_rfl) (by kernel_rfl) ?_
                      repeat (first | go_big_quiet_step (fail) | quiet_step (fail))
                      refine wpQuiet_nil ?_
                      intro w7 hq7
                      have hb7 := ext_of_class hq7
                      clear hq7
                      obtain ⟨hc7, hf7, hz7⟩ := bcell3 hb7
                      try simp at hz7
                      have hO7 := hO.ext hb7
                      have hw7 := hw.trans hb7
                      clear hc7 hf7
                      replace n0 := hb7.cell n0
                      replace n1 := hb7.cell n1
                      replace n2 := hb7.cell n2
                      go_wp2_with (at_builtin; refine wpList_push2 (w0 := w8) (base := w8.heap.size) (xs := os) encCrd (by rfl) _ _ 29 (.agg #[.string ⟨#[]⟩, .int .u64 0, .int .u64 0]) 32 (by rfl) Tryd.underlying29 info_Crd (by rfl) (y) (by rfl) (by rfl) (by simp) (hO7) (by have := (hw7 : Ext w8 _).size; simp at this ⊢; omega) (by omega) (hw7) (by omega) (by omega) ?_)
                      intro v3 w3 hO3 hb3 hg3 ho3
                      have ht := tail_len hlm
                      have h82 : Hd ((os ++ [y]).length + 0 + (m - 1) ≤ 80) := hd (by have := h8.out; rw [List.length_append]; simp only [List.length_cons, List.length_nil]; omega)
                      by_cases hc1' : cb = 1
                      · obtain rfl : m = 1 := by omega
                        subst hc1'
                        have hnil := tail_one hlm hcb
                        go_wp2
                        go_roundg (0 + 0)
                        case rel => exact ⟨0, 0, ra, rb.tail, os ++ [y], _, _, _, _, rfl, rfl, rfl, hln, ht, by omega, by omega, by omega, by omega, h82, hQ2, hR, by rw [hnil]; exact Rd.nil _ _ _, hb3, hO3⟩
                        case measure => omega
                      · go_wp2
                        go_roundg (0 + (m - 1))
                        case rel => exact ⟨0, m - 1, ra, rb.tail, os ++ [y], _, _, _, _, rfl, rfl, rfl, hln, ht, by omega, by omega, by omega, by omega, h82, hQ2, hR, hS.tl, hb3, hO3⟩
                        case measure => omega
                    · obtain rfl : m = 0 := by omega
                      have hQ2 : os = M := by have := hQ.out; rw [len_zero hln, len_zero hlm, nil_mergeF, List.append_nil] at this; exact this
                      subst hQ2
                      clear hk hky hQ hw1s
                      have hO9 := hO.lower hw8.size
                      go_wp2
                      refine bodyPost_ret (v := .tuple #[_, .int .i64 0]) (by simp [results, Tryd.results19, go_sem]; rfl) rfl ⟨_, by rw [hv.out], by rw [hv.out]; exact hO9, hwr⟩
            · have hv := hd (md_far hall (by rw [hs1, hs2]; rfl) h80)
              have hgt : (80 : Int) < (a.length : Int) + (b.length : Int) := by omega
              clear hky hall
              go_enter Tryd.func19, Tryd.ntmps19
              go_wp2_with fail
              refine Calls.mono (h1 _ hE0) ?_
              rintro e w1 ⟨rfl, hb1⟩
              go_wp2_with fail
              refine Calls.mono (h2 _ (hE0.trans hb1)) ?_
              rintro e w2 ⟨rfl, hb2⟩
              have hb12 := hb1.trans hb2
              obtain ⟨x0, x1, x2, x3, lX⟩ := hw1s w2 hb12
              go_wp2_with fail
              refine Calls.mono (h3 _) ?_
              rintro e w3 ⟨rfl, hb3⟩
              have hb13 := hb12.trans hb3
              clear x0 x1 x2 x3 lX
              obtain ⟨x0, x1, x2, x3, lX⟩ := hw1s w3 hb13
              go_wp2_with fail
              refine Calls.mono (s1 _ (hE0.trans hb13)) ?_
              rintro e w4 ⟨rfl, hb4⟩
              have hb14 := hb13.trans hb4
              clear x0 x1 x2 x3 lX
              obtain ⟨x0, x1, x2, x3, lX⟩ := hw1s w4 hb14
              go_wp2_with fail
              refine Calls.mono (s2 _ (hE0.trans hb14)) ?_
              rintro e w5 ⟨rfl, hb5⟩
              go_wp2
              refine bodyPost_ret (v := .tuple #[.slice none 0 0, .int .i64 3]) (by simp [results, Tryd.results19, go_sem]) rfl ⟨_, by rw [hv.out], by rw [hv.out]; exact Ow.nil _ _ _ _, (hE0.trans hb14).trans hb5⟩
end Go.Proofs.YtdlpifgkponnmaaDoor
set_option linter.unusedVariables false
set_option linter.unusedSimpArgs false
set_option maxRecDepth 100000
namespace Go.Proofs.YtdlpifgkponnmaaDoor
open Go.RowKit
theorem spec_MergeDecks (a b : List Crd) (A B : Option Addr) (cap cap' : Nat) (f : Fld) (w : World) (hR : Rd encCrd w A a) (hn : a.length ≤ 1048576) (hok : ∀ c ∈ a, CrdIn c) (hS : Rd encCrd w B b) (hm : b.length ≤ 1048576) (hok' : ∀ c ∈ b, CrdIn c) (hf : FldIn f) :
    Calls Tryd.prog 18 #[.slice A a.length cap, .slice B b.length cap', .agg #[.string f.nm, .int .i8 f.kd, .int .i16 f.st, .int .i16 f.sz]] w fun e w' => ∃ v, e = .returned (.tuple #[v, .int .i64 (mdF a b f).2]) ∧ Ow encCrd 60 w' w.heap.size v (mdF a b f).1 ∧ Ext w w' := by
  cases h : (deckB a && (deckB b && fldB f)) with
  | false => exact spec_MergeDecks_no a b A B cap cap' f w hR hn hok hS hm hok' hf h
  | true =>
    rw [Bool.and_eq_true, Bool.and_eq_true] at h
    exact spec_MergeDecks_yes a b A B cap cap' f w hR hn hok hS hm hok' hf h.1 h.2.1 h.2.2
set_option maxHeartbeats 4000000 in
theorem laws_FnExactMergeDecks (a b : List Crd) (A B : Option Addr) (cap cap' : Nat) (f : Fld) (w : World) (hn : a.length ≤ 9223372036854775807) (hR : Rd encCrd w A a) (hok : ∀ c ∈ a, CrdIn c) (hm : b.length ≤ 9223372036854775807) (hS : Rd encCrd w B b) (hok' : ∀ c ∈ b, CrdIn c) (hf : FldIn f) :
    Calls Tryd.prog 5 #[.slice A a.length cap, .slice B b.length cap', .agg #[.string f.nm, .int .i8 f.kd, .int .i16 f.st, .int .i16 f.sz]] w fun e w' => e = .returned (.bool true) ∧ Ext w w' := by
  have ra := eqL_refl crdB crdB_refl a
  have rb := eqL_refl crdB crdB_refl b
  have htc := fun W => laws_toField f W
  go_enter Tryd.func5, Tryd.ntmps5
  go_wp2_with fail
  refine Calls.mono (laws_szCardS a A cap 1048576 (by omega) (by omega) hn _ (hR.ext (by ((repeat (first | with_reducible exact Ext.refl _ | with_reducible exact hw | with_reducible exact hb9 | with_reducible exact hb8 | with_reducible exact hb7 | with_reducible exact hb6 | with_reducible exact hb5 | with_reducible exact hb4 | with_reducible exact hb3 | with_reducible exact hb2 | with_reducible exact hb1 | with_reducible refine Ext.alloc ?_ _ | with_reducible refine Ext.drew ?_ | ((with_reducible refine Ext.set ?_ ?_ _); focus (dsimp only; omega)) | with_reducible refine Ext.trans ?_ hb9 | with_reducible refine Ext.trans ?_ hb8 | with_reducible refine Ext.trans ?_ hb7 | with_reducible refine Ext.trans ?_ hb6 | with_reducible refine Ext.trans ?_ hb5 | with_reducible refine Ext.trans ?_ hb4 | with_reducible refine Ext.trans ?_ hb3 | with_reducible refine Ext.trans ?_ hb2 | with_reducible refine Ext.trans ?_ hb1 | with_reducible refine Ext.trans ?_ hw))))) hok) ?_
  rintro e w0 ⟨r0, rfl, hr, hb0⟩
  have c0 : w0.cell? ⟨w.heap.size, 0, none⟩ = some (.string f.nm) := hb0.cell (by go_simp)
  have c1 : w0.cell? ⟨w.heap.size, 1, none⟩ = some (.int .i8 f.kd) := hb0.cell (by go_simp)
  have c2 : w0.cell? ⟨w.heap.size, 2, none⟩ = some (.int .i16 f.st) := hb0.cell (by go_simp)
  have c3 : w0.cell? ⟨w.heap.size, 3, none⟩ = some (.int .i16 f.sz) := hb0.cell (by go_simp)
  have hw0 : Ext w w0 := by clear c0 c1 c2 c3; exact ((Ext.refl _).alloc _).trans hb0
  clear hb0
  by_cases hr0 : r0 < 0
  · go_wp2
    go_ret
    exact ⟨rfl, hw0⟩
  obtain ⟨g0, g1, g2⟩ := hr.resolve_left hr0
  have hn1 : a.length ≤ 1048576 := by omega
  clear hr
  go_wp2_with fail
  refine Calls.mono (laws_szCardS b B cap' r0 (by omega) (by omega) hm _ (hS.ext hw0) hok') ?_
  rintro e w1 ⟨r, rfl, hr', hb1⟩
  have hw1 := hw0.trans hb1
  replace c0 := hb1.cell c0
  replace c1 := hb1.cell c1
  replace c2 := hb1.cell c2
  replace c3 := hb1.cell c3
  by_cases hr1 : r < 0
  · go_wp2
    go_ret
    exact ⟨rfl, hw1⟩
  obtain ⟨g3, g4, g5⟩ := hr'.resolve_left hr1
  have hm1 : b.length ≤ 1048576 := by omega
  clear hr' hb1 hw0
  have hlen : (mdF a b f).1.length ≤ 1048576 := Nat.le_trans (md_len a b f) (by decide)
  have hsp := fun (p : Option Addr) (n : Nat) (p' : Option Addr) (n' : Nat) (W : World) (h : Rd encCrd W p a) (h' : Rd encCrd W p' b) => spec_MergeDecks a b p p' n n' f W h hn1 hok h' hm1 hok' hf
  have him := fun (p : Option Addr) (n : Nat) (p' : Option Addr) (n' : Nat) (W : World) (h : Rd encCrd W p a) (hc : a.length ≤ n) (h' : Rd encCrd W p' b) (hc' : b.length ≤ n') => impl_MergeDecks a b p p' n n' f W h hc hn1 hok h' hc' hm1 hok' hf
  generalize mdF a b f = q at hlen hsp him
  obtain ⟨ns, cd⟩ := q
  dsimp only at hlen hsp him
  have rres := eqL_refl crdB crdB_refl ns
  have lc := World.block_lt_of_cell? _ _ c0
  dsimp only at lc
  go_wp2_with fail
  refine Calls.mono (laws_szField f r (by omega) (by omega) hf.2 _) ?_
  rintro e w2 ⟨rfl, hb2⟩
  have hw2 := hw1.trans hb2
  replace c0 := hb2.cell c0
  replace c1 := hb2.cell c1
  replace c2 := hb2.cell c2
  replace c3 := hb2.cell c3
  clear hb2 hw1 lc
  by_cases hr2 : szF f.nm.size r < 0
  · generalize szF f.nm.size r = q1 at hr2
    go_wp2
    go_ret
    exact ⟨rfl, hw2⟩
  generalize szF f.nm.size r = q1 at hr2
  have hR2 := hR.ext hw2
  have hS2 := hS.ext hw2
  clear hR hS
  have hS0 := fun (W : World) (h : Ext w2 W) => (⟨h.cell c0, h.cell c1, h.cell c2, h.cell c3⟩ : W.cell? ⟨w.heap.size, 0, none⟩ = some (.string f.nm) ∧ W.cell? ⟨w.heap.size, 1, none⟩ = some (.int .i8 f.kd) ∧ W.cell? ⟨w.heap.size, 2, none⟩ = some (.int .i16 f.st) ∧ W.cell? ⟨w.heap.size, 3, none⟩ = some (.int .i16 f.sz))
  go_wp2
  refine wp_region_held (S := fun W => W.cell? ⟨w.heap.size, 0, none⟩ = some (.string f.nm) ∧ W.cell? ⟨w.heap.size, 1, none⟩ = some (.int .i8 f.kd) ∧ W.cell? ⟨w.heap.size, 2, none⟩ = some (.int .i16 f.st) ∧ W.cell? ⟨w.heap.size, 3, none⟩ = some (.int .i16 f.sz)) (by kernel_rfl) ?_
  change wpAnyH _ _ _ _ _ _ _ _ (World.drew _)
  refine intro_world (fun WD hWD => ?_)
  have eD : Ext w2 WD := by rw [hWD]; exact (Ext.refl _).drew
  clear hWD
  refine wpAnyH_take (i := 0) (v := ?_) rfl (by kernel_rfl) (by kernel_rfl) (by kernel_rfl) (fun _ _ _ h => h) (Or.inl ⟨by rfl, ?_⟩) (hS0 _ eD) ?_
  rotate_left
  · (intro W9 hW9; obtain ⟨z0, z1, z2, z3⟩ := hW9; go_simp; try with_reducible rfl)
  try simp only [Act.put, List.setIfInBounds_toArray, List.set_cons_zero, List.set_cons_succ]
  refine wpAnyH_take (i := 2) (v := ?_) rfl (by kernel_rfl) (by kernel_rfl) (by kernel_rfl) (fun _ _ _ h => h) (Or.inl ⟨by rfl, ?_⟩) (hS0 _ eD) ?_
  rotate_left
  · (intro W9 hW9; obtain ⟨z0, z1, z2, z3⟩ := hW9; go_simp; try with_reducible rfl)
  try simp only [Act.put, List.setIfInBounds_toArray, List.set_cons_zero, List.set_cons_succ]
  refine wpAnyH_take (i := 4) (v := ?_) rfl (by kernel_rfl) (by kernel_rfl) (by kernel_rfl) (fun _ _ _ h => h) (Or.inl ⟨by rfl, ?_⟩) (hS0 _ eD) ?_
  rotate_left
  · (intro W9 hW9; obtain ⟨z0, z1, z2, z3⟩ := hW9; go_simp; try with_reducible rfl)
  try simp only [Act.put, List.setIfInBounds_toArray, List.set_cons_zero, List.set_cons_succ]
  refine wpAnyH_ready (rs := [1]) (by kernel_rfl) (by simp) ?_
  refine AllReadyH.cons rfl (fun K hK => ?_) (AllReadyH.nil)
  go_simp
  go_wp2_with fail
  refine Calls.mono (laws_toCardS a A cap _ (hR2.ext eD) hn1) ?_
  rintro e w3 ⟨v3, rfl, hO3, hb3⟩
  obtain ⟨A3, cap3, rfl, hle3, _⟩ := hO3.slice
  have h3 := eD.trans hb3
  go_simp
  refine hK.out _ _ (hS0 _ h3) (fun _ => ?_)
  clear hK K hb3
  refine wpAnyH_ready (rs := [3]) (by kernel_rfl) (by simp) ?_
  refine AllReadyH.cons rfl (fun K hK => ?_) (AllReadyH.nil)
  go_simp
  go_wp2_with fail
  refine Calls.mono (laws_toCardS b B cap' _ (hS2.ext h3) hm1) ?_
  rintro e w4 ⟨v4, rfl, hO4, hb4⟩
  obtain ⟨A4, cap4, rfl, hle4, _⟩ := hO4.slice
  have h4 := h3.trans hb4
  have hO3 := hO3.ext hb4
  go_simp
  refine hK.out _ _ (hS0 _ h4) (fun _ => ?_)
  clear hK K hb4
  refine wpAnyH_ready (rs := [5]) (by kernel_rfl) (by simp) ?_
  refine AllReadyH.cons rfl (fun K hK => ?_) (AllReadyH.nil)
  go_simp
  go_wp2_with fail
  refine Calls.mono (htc _) ?_
  rintro e w5 ⟨rfl, hb5⟩
  have h5 := h4.trans hb5
  have hO3 := hO3.ext hb5
  have hO4 := hO4.ext hb5
  go_simp
  refine hK.out _ _ (hS0 _ h5) (fun _ => ?_)
  clear hK K hb5
  refine wpAnyH_ready (rs := [6]) (by kernel_rfl) (by simp) ?_
  refine AllReadyH.cons rfl (fun K hK => ?_) (AllReadyH.nil)
  go_simp
  go_wp2_with fail
  refine Calls.mono (hsp A3 cap3 A4 cap4 _ hO3.rdA hO4.rdA) ?_
  rintro e w6 ⟨v6, rfl, hO6, hb6⟩
  obtain ⟨A6, cap6, rfl, hle6, hR6⟩ := hO6.slice
  have h6 : Ext w2 w6 := h5.trans hb6
  go_simp
  refine hK.out _ _ (hS0 _ h6) (fun _ => ?_)
  clear hK K hO3 hO4
  refine wpAnyH_take (i := 7) (v := ?_) rfl (by kernel_rfl) (by kernel_rfl) (by kernel_rfl) (fun _ _ _ h => h) (Or.inl ⟨by rfl, ?_⟩) (hS0 _ h6) ?_
  rotate_left
  · (intro W9 hW9; obtain ⟨z0, z1, z2, z3⟩ := hW9; go_simp; try with_reducible rfl)
  try simp only [Act.put, List.setIfInBounds_toArray, List.set_cons_zero, List.set_cons_succ]
  refine wpAnyH_take (i := 8) (v := ?_) rfl (by kernel_rfl) (by kernel_rfl) (by kernel_rfl) (fun _ _ _ h => h) (Or.inl ⟨by rfl, ?_⟩) (hS0 _ h6) ?_
  rotate_left
  · (intro W9 hW9; obtain ⟨z0, z1, z2, z3⟩ := hW9; go_simp; try with_reducible rfl)
  try simp only [Act.put, List.setIfInBounds_toArray, List.set_cons_zero, List.set_cons_succ]
  refine wpAnyH_take (i := 9) (v := ?_) rfl (by kernel_rfl) (by kernel_rfl) (by kernel_rfl) (fun _ _ _ h => h) (Or.inl ⟨by rfl, ?_⟩) (hS0 _ h6) ?_
  rotate_left
  · (intro W9 hW9; obtain ⟨z0, z1, z2, z3⟩ := hW9; go_simp; try with_reducible rfl)
  try simp only [Act.put, List.setIfInBounds_toArray, List.set_cons_zero, List.set_cons_succ]
  refine wpAnyH_ready (rs := [10]) (by kernel_rfl) (by simp) ?_
  refine AllReadyH.cons rfl (fun K hK => ?_) (AllReadyH.nil)
  go_simp
  refine hK.out _ _ (hS0 _ h6) (fun _ => ?_)
  clear hK K
  refine wpAnyH_ready (rs := [11]) (by kernel_rfl) (by simp) ?_
  refine AllReadyH.cons rfl (fun K hK => ?_) (AllReadyH.nil)
  go_simp
  refine hK.out _ _ (hS0 _ h6) (fun _ => ?_)
  clear hK K
  refine wpAnyH_done (by kernel_rfl) ?_ _
  clear hR6 hb6 h5
  go_wp2_with fail
  refine Calls.mono (laws_toCardS a A cap _ (hR2.ext h6) hn1) ?_
  rintro e w7 ⟨v7, rfl, hO7, hb7⟩
  obtain ⟨A7, cap7, rfl, hle7, hR7⟩ := hO7.slice
  have h7 := h6.trans hb7
  go_wp2_with fail
  refine Calls.mono (laws_toCardS b B cap' _ (hS2.ext h7) hm1) ?_
  rintro e w8 ⟨v8, rfl, hO8, hb8⟩
  obtain ⟨A8, cap8, rfl, hle8, hR8⟩ := hO8.slice
  have h8 := h7.trans hb8
  obtain ⟨y0, y1, y2, y3⟩ := hS0 _ h8
  have ly := World.block_lt_of_cell? _ _ y0
  dsimp only at ly
  go_wp2_with fail
  refine Calls.mono (htc _) ?_
  rintro e w9 ⟨rfl, hb9⟩
  have h9 := h8.trans hb9
  clear y0 y1 y2 y3 ly hR7 hR8
  go_wp2_with fail
  refine Calls.mono (him A7 cap7 A8 cap8 _ (hO7.ext (hb8.trans hb9)).rdA hle7 (hO8.ext hb9).rdA hle8) ?_
  rintro e w10 ⟨v10, rfl, hO10, hb10⟩
  obtain ⟨A10, cap10, rfl, hle10, hR10⟩ := hO10.slice
  have h10 := h9.trans hb10
  have ap67 := Apart.of hO6 hO7 (Nat.le_refl _)
  have ap68 := Apart.of hO6 hO8 hb7.size
  have ap610 := Apart.of hO6 hO10 ((hb7.trans hb8).trans hb9).size
  have ap87 := Apart.of' hO7 hO8 (Nat.le_refl _)
  have ap107 := Apart.of' hO7 hO10 (hb8.trans hb9).size
  have ap108 := Apart.of' hO8 hO10 hb9.size
  have base7 : w2.heap.size ≤ w6.heap.size := h6.size
  have base8 : w2.heap.size ≤ w7.heap.size := h7.size
  have base10 : w2.heap.size ≤ w9.heap.size := h9.size
  have hO6 := hO6.ext (((hb7.trans hb8).trans hb9).trans hb10)
  have hO7 := hO7.ext ((hb8.trans hb9).trans hb10)
  have hO8 := hO8.ext (hb9.trans hb10)
  clear hR10 hb7 hb8 hb9 hb10
  go_wp2_with fail
  refine Calls.mono (laws_eqCardS ns ns _ _ _ _ _ hO10.rdA hO6.rdA hlen hlen) ?_
  rintro e w11 ⟨rfl, hb11⟩
  rw [rres]
  have h11 := h10.trans hb11
  have hO6 := hO6.ext hb11
  have hO7 := hO7.ext hb11
  have hO8 := hO8.ext hb11
  have hO10 := hO10.ext hb11
  clear hb11
  go_wp2_with fail
  refine Calls.mono (laws_toCardS a A cap _ (hR2.ext h11) hn1) ?_
  rintro e w12 ⟨v12, rfl, hO12, hb12⟩
  obtain ⟨A12, cap12, rfl, hle12, hR12⟩ := hO12.slice
  have h12 := h11.trans hb12
  have hO6 := hO6.ext hb12
  have hO7 := hO7.ext hb12
  have hO8 := hO8.ext hb12
  have hO10 := hO10.ext hb12
  clear hO12 hb12
  go_wp2_with fail
  refine Calls.mono (laws_eqCardS a a _ _ _ _ _ hO7.rdA hR12 hn1 hn1) ?_
  rintro e w13 ⟨rfl, hb13⟩
  rw [ra]
  have h13 := h12.trans hb13
  have hO6 := hO6.ext hb13
  have hO7 := hO7.ext hb13
  have hO8 := hO8.ext hb13
  have hO10 := hO10.ext hb13
  clear hb13 hR12
  go_wp2_with fail
  refine Calls.mono (laws_toCardS b B cap' _ (hS2.ext h13) hm1) ?_
  rintro e w14 ⟨v14, rfl, hO14, hb14⟩
  obtain ⟨A14, cap14, rfl, hle14, hR14⟩ := hO14.slice
  have h14 := h13.trans hb14
  have hO6 := hO6.ext hb14
  have hO7 := hO7.ext hb14
  have hO8 := hO8.ext hb14
  have hO10 := hO10.ext hb14
  clear hO14 hb14
  go_wp2_with fail
  refine Calls.mono (laws_eqCardS b b _ _ _ _ _ hO8.rdA hR14 hm1 hm1) ?_
  rintro e w15 ⟨rfl, hb15⟩
  rw [rb]
  have h15 := h14.trans hb15
  have hO6 := hO6.ext hb15
  have hO7 := hO7.ext hb15
  have hO8 := hO8.ext hb15
  have hO10 := hO10.ext hb15
  clear hb15 hR14
  go_wp2_with fail
  refine Calls.mono (laws_markCardS a _ 1 _ _ hO7 hn1 (by omega)) ?_
  rintro e w16 ⟨rfl, gr16⟩
  have h16 := h15.mark hO7 base7 gr16
  have hO6 := hO6.apart gr16 ap67
  have hO8 := hO8.apart gr16 ap87
  have hO10 := hO10.apart gr16 ap107
  clear hO7 gr16 ap67 ap87 ap107
  have hmk := laws_markCardS b _ (1 + 3 * a.length) _ _ hO8 hm1 (by omega)
  rw [show ((1 + 3 * a.length : Nat) : Int) = 1 + 3 * (a.length : Int) by omega] at hmk
  go_wp2_with fail
  refine Calls.mono hmk ?_
  rintro e w17 ⟨rfl, gr17⟩
  have h17 := h16.mark hO8 base8 gr17
  have hO6 := hO6.apart gr17 ap68
  have hO10 := hO10.apart gr17 ap108
  clear hO8 gr17 ap68 ap108 hmk
  have hkk : ¬ ((1 : Int) + 3 * a.length + 3 * b.length < 0) := by omega
  go_wp2_with fail
  refine Calls.mono (laws_eqCardS ns ns _ _ _ _ _ hO10.rdA hO6.rdA hlen hlen) ?_
  rintro e w18 ⟨rfl, hb18⟩
  rw [rres]
  have h18 := h17.trans hb18
  have hO6 := hO6.ext hb18
  have hO10 := hO10.ext hb18
  clear hb18
  go_wp2_with fail
  refine Calls.mono (laws_markCardM ns _ 1 _ _ hO10 hlen (by omega)) ?_
  rintro e w19 ⟨rfl, hM, gr19⟩
  have h19 := h18.mark hO10 base10 gr19
  have hO6 := hO6.apart gr19 ap610
  clear hO10 gr19 ap610
  go_wp2_with fail
  refine Calls.mono (laws_heldCardS ns.length _ _ 1 _ hM.rdA hlen (by omega)) ?_
  rintro e w20 ⟨rfl, hb20⟩
  have h20 := h19.trans hb20
  have hM := hM.ext hb20
  have hO6 := hO6.ext hb20
  have hk3 : ¬ ((1 : Int) + 3 * ns.length < 0) := by omega
  clear hb20
  have hR20 := hR2.ext h20
  have hS20 := hS2.ext h20
  replace hS0 := fun (W : World) (h : Ext w20 W) => hS0 W (h20.trans h)
  go_wp2
  refine wp_region_held (S := fun W => W.cell? ⟨w.heap.size, 0, none⟩ = some (.string f.nm) ∧ W.cell? ⟨w.heap.size, 1, none⟩ = some (.int .i8 f.kd) ∧ W.cell? ⟨w.heap.size, 2, none⟩ = some (.int .i16 f.st) ∧ W.cell? ⟨w.heap.size, 3, none⟩ = some (.int .i16 f.sz)) (by kernel_rfl) ?_
  change wpAnyH _ _ _ _ _ _ _ _ (World.drew _)
  refine intro_world (fun WD hWD => ?_)
  have eD : Ext w20 WD := by rw [hWD]; exact (Ext.refl _).drew
  clear hWD
  refine wpAnyH_take (i := 0) (v := ?_) rfl (by kernel_rfl) (by kernel_rfl) (by kernel_rfl) (fun _ _ _ h => h) (Or.inl ⟨by rfl, ?_⟩) (hS0 _ eD) ?_
  rotate_left
  · (intro W9 hW9; obtain ⟨z0, z1, z2, z3⟩ := hW9; go_simp; try with_reducible rfl)
  try simp only [Act.put, List.setIfInBounds_toArray, List.set_cons_zero, List.set_cons_succ]
  refine wpAnyH_take (i := 2) (v := ?_) rfl (by kernel_rfl) (by kernel_rfl) (by kernel_rfl) (fun _ _ _ h => h) (Or.inl ⟨by rfl, ?_⟩) (hS0 _ eD) ?_
  rotate_left
  · (intro W9 hW9; obtain ⟨z0, z1, z2, z3⟩ := hW9; go_simp; try with_reducible rfl)
  try simp only [Act.put, List.setIfInBounds_toArray, List.set_cons_zero, List.set_cons_succ]
  refine wpAnyH_take (i := 4) (v := ?_) rfl (by kernel_rfl) (by kernel_rfl) (by kernel_rfl) (fun _ _ _ h => h) (Or.inl ⟨by rfl, ?_⟩) (hS0 _ eD) ?_
  rotate_left
  · (intro W9 hW9; obtain ⟨z0, z1, z2, z3⟩ := hW9; go_simp; try with_reducible rfl)
  try simp only [Act.put, List.setIfInBounds_toArray, List.set_cons_zero, List.set_cons_succ]
  refine wpAnyH_ready (rs := [1]) (by kernel_rfl) (by simp) ?_
  refine AllReadyH.cons rfl (fun K hK => ?_) (AllReadyH.nil)
  go_simp
  go_wp2_with fail
  refine Calls.mono (laws_toCardS a A cap _ (hR20.ext eD) hn1) ?_
  rintro e w23 ⟨v23, rfl, hO23, hb23⟩
  obtain ⟨A23, cap23, rfl, hle23, _⟩ := hO23.slice
  have h23 := eD.trans hb23
  go_simp
  refine hK.out _ _ (hS0 _ h23) (fun _ => ?_)
  clear hK K hb23
  refine wpAnyH_ready (rs := [3]) (by kernel_rfl) (by simp) ?_
  refine AllReadyH.cons rfl (fun K hK => ?_) (AllReadyH.nil)
  go_simp
  go_wp2_with fail
  refine Calls.mono (laws_toCardS b B cap' _ (hS20.ext h23) hm1) ?_
  rintro e w24 ⟨v24, rfl, hO24, hb24⟩
  obtain ⟨A24, cap24, rfl, hle24, _⟩ := hO24.slice
  have h24 := h23.trans hb24
  have hO23 := hO23.ext hb24
  go_simp
  refine hK.out _ _ (hS0 _ h24) (fun _ => ?_)
  clear hK K hb24
  refine wpAnyH_ready (rs := [5]) (by kernel_rfl) (by simp) ?_
  refine AllReadyH.cons rfl (fun K hK => ?_) (AllReadyH.nil)
  go_simp
  go_wp2_with fail
  refine Calls.mono (htc _) ?_
  rintro e w25 ⟨rfl, hb25⟩
  have h25 := h24.trans hb25
  have hO23 := hO23.ext hb25
  have hO24 := hO24.ext hb25
  go_simp
  refine hK.out _ _ (hS0 _ h25) (fun _ => ?_)
  clear hK K hb25
  refine wpAnyH_ready (rs := [6]) (by kernel_rfl) (by simp) ?_
  refine AllReadyH.cons rfl (fun K hK => ?_) (AllReadyH.nil)
  go_simp
  go_wp2_with fail
  refine Calls.mono (him A23 cap23 A24 cap24 _ hO23.rdA hle23 hO24.rdA hle24) ?_
  rintro e w26 ⟨v26, rfl, hO26, hb26⟩
  obtain ⟨A26, cap26, rfl, hle26, hR26⟩ := hO26.slice
  have h26 : Ext w20 w26 := h25.trans hb26
  go_simp
  refine hK.out _ _ (hS0 _ h26) (fun _ => ?_)
  clear hK K hO23 hO24
  refine wpAnyH_take (i := 7) (v := ?_) rfl (by kernel_rfl) (by kernel_rfl) (by kernel_rfl) (fun _ _ _ h => h) (Or.inl ⟨by rfl, ?_⟩) (hS0 _ h26) ?_
  rotate_left
  · (intro W9 hW9; obtain ⟨z0, z1, z2, z3⟩ := hW9; go_simp; try with_reducible rfl)
  try simp only [Act.put, List.setIfInBounds_toArray, List.set_cons_zero, List.set_cons_succ]
  refine wpAnyH_take (i := 8) (v := ?_) rfl (by kernel_rfl) (by kernel_rfl) (by kernel_rfl) (fun _ _ _ h => h) (Or.inl ⟨by rfl, ?_⟩) (hS0 _ h26) ?_
  rotate_left
  · (intro W9 hW9; obtain ⟨z0, z1, z2, z3⟩ := hW9; go_simp; try with_reducible rfl)
  try simp only [Act.put, List.setIfInBounds_toArray, List.set_cons_zero, List.set_cons_succ]
  refine wpAnyH_take (i := 9) (v := ?_) rfl (by kernel_rfl) (by kernel_rfl) (by kernel_rfl) (fun _ _ _ h => h) (Or.inl ⟨by rfl, ?_⟩) (hS0 _ h26) ?_
  rotate_left
  · (intro W9 hW9; obtain ⟨z0, z1, z2, z3⟩ := hW9; go_simp; try with_reducible rfl)
  try simp only [Act.put, List.setIfInBounds_toArray, List.set_cons_zero, List.set_cons_succ]
  refine wpAnyH_ready (rs := [10]) (by kernel_rfl) (by simp) ?_
  refine AllReadyH.cons rfl (fun K hK => ?_) (AllReadyH.nil)
  go_simp
  refine hK.out _ _ (hS0 _ h26) (fun _ => ?_)
  clear hK K
  refine wpAnyH_ready (rs := [11]) (by kernel_rfl) (by simp) ?_
  refine AllReadyH.cons rfl (fun K hK => ?_) (AllReadyH.nil)
  go_simp
  refine hK.out _ _ (hS0 _ h26) (fun _ => ?_)
  clear hK K
  refine wpAnyH_done (by kernel_rfl) ?_ _
  have hM := hM.ext h26
  have hO6 := hO6.ext h26
  go_wp2_with fail
  refine Calls.mono (laws_eqCardS ns ns _ _ _ _ _ hO26.rdA hO6.rdA hlen hlen) ?_
  rintro e w27 ⟨rfl, hb27⟩
  rw [rres]
  have hM := hM.ext hb27
  go_wp2_with fail
  refine Calls.mono (laws_heldCardS ns.length _ _ 1 _ hM.rdA hlen (by omega)) ?_
  rintro e w28 ⟨rfl, hb28⟩
  go_wp2
  go_ret
  exact ⟨rfl, hw2.trans (((h20.trans h26).trans hb27).trans hb28)⟩
end Go.Proofs.YtdlpifgkponnmaaDoor
set_option linter.unusedVariables false
set_option linter.unusedSimpArgs false
set_option maxRecDepth 100000
namespace Go.Proofs.YtdlpifgkponnmaaDoor
open Go.RowKit
/-- Cards by a key, and by their places where the keys are equal. -/
def ordR (pos : Crd → Int) (K : Crd → Nat) (a b : Crd) : Prop := K a < K b ∨ K a = K b ∧ pos a < pos b
theorem pass_mem (ds : List Crd) (h : Int) (c : Crd) : c ∈ passF ds h ↔ c ∈ ds := (passF_perm ds h).mem_iff
theorem pass_ord {pos : Crd → Int} {K K' : Crd → Nat} {B : Nat} {h : Int} (hK : ∀ c, K c < B) (hK' : ∀ c, K' c = K c + B * bitN c.m h) (ds : List Crd) (hp : ds.Pairwise (ordR pos K)) : (passF ds h).Pairwise (ordR pos K') := by
  unfold passF
  rw [List.pairwise_append]
  have part : ∀ p : Crd → Bool, ∀ q : Nat, (∀ c, p c = true → bitN c.m h = q) → (ds.filter p).Pairwise (ordR pos K') := by
    intro p q hq
    refine List.Pairwise.imp_of_mem ?_ (hp.sublist List.filter_sublist)
    intro a b ha hb hab
    have h1 := hq a (List.mem_filter.1 ha).2
    have h2 := hq b (List.mem_filter.1 hb).2
    unfold ordR at *
    rw [hK' a, hK' b, h1, h2]
    omega
  refine ⟨part _ 0 (fun c hc => bitN_miss (by simpa using hc)), part _ 1 (fun c hc => bitN_hit hc), ?_⟩
  intro a ha b hb
  have h1 : bitN a.m h = 0 := bitN_miss (by simpa using (List.mem_filter.1 ha).2)
  have h2 : bitN b.m h = 1 := bitN_hit (List.mem_filter.1 hb).2
  left
  rw [hK' a, hK' b, h1, h2]
  have := hK a
  omega
theorem passes_ord {pos : Crd → Int} : ∀ (hs : List Int) (K : Crd → Nat) (B : Nat) (ds : List Crd), (∀ c, K c < B) → ds.Pairwise (ordR pos K) → (passesF ds hs).Pairwise (ordR pos fun c => K c + B * keyV c.m hs)
  | [], K, B, ds, _, hp => by
    unfold passesF
    simpa [keyV] using hp
  | h :: hs, K, B, ds, hK, hp => by
    have h1 := pass_ord (K' := fun c => K c + B * bitN c.m h) hK (fun c => rfl) ds hp
    have h2 := passes_ord hs (fun c => K c + B * bitN c.m h) (2 * B) (passF ds h) (fun c => by
      have h3 := hK c
      have h4 := bitN_le c.m h
      have h5 : B * bitN c.m h ≤ B * 1 := Nat.mul_le_mul_left _ h4
      omega) h1
    unfold passesF at h2 ⊢
    rw [List.foldl_cons]
    refine h2.imp fun {a b} hab => ?_
    have e : ∀ c : Crd, K c + B * keyV c.m (h :: hs) = K c + B * bitN c.m h + 2 * B * keyV c.m hs := by
      intro c
      rw [keyV, Nat.mul_add, show B * (2 * keyV c.m hs) = 2 * B * keyV c.m hs by rw [← Nat.mul_assoc, Nat.mul_comm B 2]]
      omega
    unfold ordR at hab ⊢
    dsimp only at hab ⊢
    rw [e a, e b]
    exact hab
/-- The place of a card, by its name. -/
def posF (ds : List Crd) (c : Crd) : Int := fidx (fun y : Crd => y.nm.toList == c.nm.toList) ds
theorem nm_eq (x y : ByteArray) : (x.toList == y.toList) = decide (x = y) := by
  rw [Bool.eq_iff_iff, beq_iff_eq, decide_eq_true_eq, ByteArray.toList_eq, ByteArray.toList_eq]
  constructor
  · intro h
    cases x; cases y
    exact congrArg ByteArray.mk (Array.toList_inj.1 h)
  · rintro rfl; rfl
theorem deck_parts {ds : List Crd} (h : deckB ds = true) : ds.length ≤ 80 ∧ (∀ c ∈ ds, isCardB c = true) ∧ (ds.map Crd.nm).Nodup := by
  unfold deckB okD at h
  rw [Bool.and_eq_true, Bool.and_eq_true, decide_eq_true_eq, decide_eq_true_eq, List.all_eq_true] at h
  exact ⟨h.1, h.2.1, h.2.2⟩
theorem pos_at {ds : List Crd} (h : deckB ds = true) (i : Nat) (hi : i < ds.length) : posF ds ds[i] = i := by
  have hn := (deck_parts h).2.2
  refine fidx_hit _ _ i hi (by simp) ?_
  rw [List.any_eq_false]
  intro x hx
  obtain ⟨j, hj, rfl⟩ := List.mem_take_iff_getElem.1 hx
  rw [nm_eq, decide_eq_true_eq]
  intro e
  have h1 : (ds.map Crd.nm)[j]'(by rw [List.length_map]; omega) = (ds.map Crd.nm)[i]'(by rw [List.length_map]; omega) := by rw [List.getElem_map, List.getElem_map]; exact e
  exact List.pairwise_iff_getElem.1 hn j i (by rw [List.length_map]; omega) (by rw [List.length_map]; omega) (by omega) h1
theorem pos_start {ds : List Crd} (h : deckB ds = true) : ds.Pairwise (ordR (posF ds) fun _ => 0) := by
  rw [List.pairwise_iff_getElem]
  intro i j hi hj hij
  right
  rw [pos_at h i hi, pos_at h j hj]
  exact ⟨rfl, by omega⟩
theorem sorted_pair {f : Fld} {ds : List Crd} (h : ds.Pairwise fun a b => kf f a ≤ kf f b) : sortedB f ds = true := by
  rw [List.pairwise_iff_getElem] at h
  refine sorted_good fun i h1 h2 => ?_
  obtain ⟨p, rfl⟩ : ∃ p, i = p + 1 := ⟨i - 1, by omega⟩
  rw [upAt_at p h2, decide_eq_true_eq]
  exact h p (p + 1) (by omega) h2 (by omega)
theorem deck_perm_len {xs ys : List Crd} (h : xs.Perm ys) : deckB xs = deckB ys := deckB_perm h
theorem deck_take {ds : List Crd} (n : Nat) (h : deckB ds = true) : deckB (ds.take n) = true ∧ deckB (ds.drop n) = true := by
  obtain ⟨h1, h2, h3⟩ := deck_parts h
  have mk : ∀ xs : List Crd, xs.Sublist ds → deckB xs = true := by
    intro xs hs
    unfold deckB okD
    have hl := hs.length_le
    rw [decide_eq_true (by omega), List.all_eq_true.2 (fun c hc => h2 c (hs.subset hc)), decide_eq_true (h3.sublist (hs.map Crd.nm))]
    rfl
  exact ⟨mk _ (List.take_sublist _ _), mk _ (List.drop_sublist _ _)⟩
theorem takeWhile_iff (p : Crd → Bool) : ∀ (ds : List Crd), ds.Pairwise (fun a b => p b = true → p a = true) → ∀ i (h : i < ds.length), p ds[i] = true ↔ i < (ds.takeWhile p).length
  | [], _, i, h => by cases h
  | c :: ds, hp, i, h => by
    obtain ⟨h1, h2⟩ := List.pairwise_cons.1 hp
    by_cases hc : p c = true
    · rw [List.takeWhile_cons_of_pos hc, List.length_cons]
      cases i with
      | zero => simp [hc]
      | succ i =>
        have := takeWhile_iff p ds h2 i (by simpa using h)
        rw [List.getElem_cons_succ, this]
        omega
    · rw [List.takeWhile_cons_of_neg hc, List.length_nil]
      constructor
      · intro hi
        exfalso
        cases i with
        | zero => exact hc hi
        | succ i => exact hc (h1 _ (List.getElem_mem (by simpa using h)) hi)
      · intro hi; omega
/-- All that FnSorted says of a deck and a field. -/
theorem sorted_law {ds : List Crd} {f : Fld} (hd' : deckB ds = true) (hf : fldB f = true) :
    ∃ due : List Crd, sdF ds f = (due, 0) ∧ passesF ds (sortF f) = due ∧ deckB due = true ∧ sortedB f due = true ∧ due.length = ds.length ∧ (∀ c ∈ due, c ∈ ds) ∧
      (∀ i (h : i + 1 < due.length), kf f (due[i]'(by omega)) ≤ kf f due[i + 1] ∧ (kf f (due[i]'(by omega)) = kf f due[i + 1] → posF ds (due[i]'(by omega)) < posF ds due[i + 1])) ∧
      (∀ n, mdF (due.take n) (due.drop n) f = (due, 0)) ∧
      (∀ q, ffF due f q = ((ffI f due q : Int), 0) ∧ ffI f due q ≤ due.length ∧ ∀ i (h : i < due.length), kf f due[i] < q ↔ i < ffI f due q) := by
  have hperm : (passesF ds (sortF f)).Perm ds := by
    unfold passesF
    generalize sortF f = hs
    clear hd' hf
    induction hs generalizing ds with
    | nil => exact List.Perm.refl _
    | cons h hs ih => rw [List.foldl_cons]; exact ih.trans (passF_perm ds h)
  have hpair := passes_ord (pos := posF ds) (sortF f) (fun _ => 0) 1 ds (fun _ => Nat.zero_lt_one) (pos_start hd')
  have hord : (passesF ds (sortF f)).Pairwise (ordR (posF ds) fun c => keyF f c.m) := by
    refine hpair.imp fun {a b} hab => ?_
    unfold ordR at hab ⊢
    dsimp only at hab ⊢
    unfold keyF
    rw [Nat.zero_add, Nat.zero_add, Nat.one_mul, Nat.one_mul] at hab
    exact hab
  refine ⟨passesF ds (sortF f), by unfold sdF; rw [if_pos ⟨hd', hf⟩], rfl, ?_, ?_, hperm.length_eq, fun c hc => hperm.mem_iff.1 hc, ?_, ?_, ?_⟩
  · rw [deckB_perm hperm]; exact hd'
  · refine sorted_pair (hord.imp fun {a b} hab => ?_)
    unfold ordR at hab
    dsimp only at hab
    unfold kf
    omega
  · intro i h
    have := List.pairwise_iff_getElem.1 hord i (i + 1) (by omega) h (by omega)
    unfold ordR at this
    dsimp only at this
    unfold kf
    constructor
    · omega
    · intro e; omega
  · intro n
    have hdd : deckB (passesF ds (sortF f)) = true := by rw [deckB_perm hperm]; exact hd'
    obtain ⟨d1, d2⟩ := deck_take n hdd
    have hle : (passesF ds (sortF f)).Pairwise fun a b => kf f a ≤ kf f b := hord.imp fun {a b} hab => by
      unfold ordR at hab
      dsimp only at hab
      unfold kf
      omega
    have s1 : sortedB f ((passesF ds (sortF f)).take n) = true := sorted_pair (hle.sublist (List.take_sublist _ _))
    have s2 : sortedB f ((passesF ds (sortF f)).drop n) = true := sorted_pair (hle.sublist (List.drop_sublist _ _))
    have hl := (deck_parts hdd).1
    rw [md_ok (by rw [d1, d2, hf]; rfl) (by rw [s1, s2]; rfl) (by rw [← List.length_append, List.take_append_drop]; exact hl) (by rw [List.take_append_drop]; exact hdd)]
    congr 1
    unfold mergeF
    rw [List.merge_of_le, List.take_append_drop]
    intro a b ha hb
    rw [decide_eq_true_eq]
    have := hle
    rw [← List.take_append_drop n (passesF ds (sortF f)), List.pairwise_append] at this
    exact this.2.2 a ha b hb
  · intro q
    have hdd : deckB (passesF ds (sortF f)) = true := by rw [deckB_perm hperm]; exact hd'
    have hle : (passesF ds (sortF f)).Pairwise fun a b => kf f a ≤ kf f b := hord.imp fun {a b} hab => by
      unfold ordR at hab
      dsimp only at hab
      unfold kf
      omega
    refine ⟨ffF_ok hdd hf (sorted_pair hle), ?_, ?_⟩
    · unfold ffI
      exact (List.takeWhile_sublist _).length_le
    · intro i h
      have := takeWhile_iff (fun c => decide (kf f c < q)) (passesF ds (sortF f)) (hle.imp fun {a b} hab h2 => by rw [decide_eq_true_eq] at *; omega) i h
      unfold ffI
      rw [← this, decide_eq_true_eq]
end Go.Proofs.YtdlpifgkponnmaaDoor
set_option linter.unusedVariables false
namespace Go.Proofs.YtdlpifgkponnmaaDoor
open Go.RowKit
/-- In how many holes two masks differ. -/
def distM (m n : Mask) : Int := mcount (mless m n) + mcount (mless n m)
theorem distM_ge (m n : Mask) : 0 ≤ distM m n := by unfold distM; have := mcount_ge (mless m n); have := mcount_ge (mless n m); omega
theorem distM_le (m n : Mask) : distM m n ≤ 256 := by unfold distM; have := mcount_le (mless m n); have := mcount_le (mless n m); omega
theorem pcf_disj : ∀ (n x y : Nat), (∀ i, ¬ (x.testBit i = true ∧ y.testBit i = true)) → pcf n x + pcf n y ≤ n
  | 0, _, _, _ => by simp [pcf]
  | n + 1, x, y, h => by
    have h0 := h 0
    rw [Nat.testBit_zero, Nat.testBit_zero, decide_eq_true_eq, decide_eq_true_eq] at h0
    have h1 := pcf_disj n (x / 2) (y / 2) (fun i => by have := h (i + 1); rwa [Nat.testBit_add_one, Nat.testBit_add_one] at this)
    unfold pcf
    omega
theorem pcf_high {x : Nat} (h : x < 4294967296) : pcf 64 x = pcf 32 x := by
  have e := pcf_add 32 32 x
  rw [Nat.div_eq_of_lt (show x < 2 ^ 32 from h), pcf_zero, Nat.mod_eq_of_lt (show x < 2 ^ 32 from h)] at e
  exact e
theorem isMask_hi {m : Mask} (h : isMaskB m = true) : m.toNat / 18446744073709551616 < 4294967296 := by
  unfold isMaskB at h
  rw [decide_eq_true_eq] at h
  omega
theorem mless_tb (m n : Mask) (i : Nat) : (mless m n).getLsbD i = true → m.getLsbD i = true ∧ n.getLsbD i = false := by
  unfold mless
  rw [BitVec.getLsbD_and, BitVec.getLsbD_not]
  simp only [Bool.and_eq_true, Bool.not_eq_true', decide_eq_true_eq]
  rintro ⟨h, _, h2⟩
  exact ⟨h, h2⟩
theorem mless_le (m n : Mask) : (mless m n).toNat ≤ m.toNat := by
  unfold mless
  rw [BitVec.toNat_and]
  exact Nat.and_le_left
theorem isMask_mless {m n : Mask} (h : isMaskB m = true) : isMaskB (mless m n) = true := by
  unfold isMaskB at h ⊢
  rw [decide_eq_true_eq] at h ⊢
  exact Nat.lt_of_le_of_lt (mless_le m n) h
theorem distM_96 {m n : Mask} (hm : isMaskB m = true) (hn : isMaskB n = true) : distM m n ≤ 96 := by
  have a1 := isMask_hi (isMask_mless (n := n) hm)
  have a2 := isMask_hi (isMask_mless (n := m) hn)
  unfold distM mcount
  rw [pcf_high a1, pcf_high a2]
  have b1 := pcf_disj 64 ((mless m n).toNat % 18446744073709551616) ((mless n m).toNat % 18446744073709551616) (fun i => by
    rw [lo_tb, lo_tb]
    rintro ⟨h1, h2⟩
    rw [Bool.and_eq_true] at h1 h2
    have g1 := mless_tb m n i h1.2
    have g2 := mless_tb n m i h2.2
    rw [g2.2] at g1
    exact absurd g1.1 (by decide))
  have b2 := pcf_disj 32 ((mless m n).toNat / 18446744073709551616) ((mless n m).toNat / 18446744073709551616) (fun i => by
    rw [hi_tb, hi_tb]
    rintro ⟨h1, h2⟩
    have g1 := mless_tb m n _ h1
    have g2 := mless_tb n m _ h2
    rw [g2.2] at g1
    exact absurd g1.1 (by decide))
  omega
/-- The state behind the values up to k: the best one, its distance, how many have it. -/
def nvF (d : Nat → Int) : Nat → Int × Int × Int
  | 0 => (0, d 0, 1)
  | k + 1 => if d (k + 1) < (nvF d k).2.1 then ((k : Int) + 1, d (k + 1), 1) else if d (k + 1) = (nvF d k).2.1 then ((nvF d k).1, (nvF d k).2.1, (nvF d k).2.2 + 1) else nvF d k
theorem nvF_less {d : Nat → Int} {k : Nat} (h : d (k + 1) < (nvF d k).2.1) : nvF d (k + 1) = ((k : Int) + 1, d (k + 1), 1) := by rw [nvF, if_pos h]
theorem nvF_same {d : Nat → Int} {k : Nat} (h : d (k + 1) = (nvF d k).2.1) : nvF d (k + 1) = ((nvF d k).1, (nvF d k).2.1, (nvF d k).2.2 + 1) := by rw [nvF, if_neg (by omega), if_pos h]
theorem nvF_more {d : Nat → Int} {k : Nat} (h1 : ¬ d (k + 1) < (nvF d k).2.1) (h2 : ¬ d (k + 1) = (nvF d k).2.1) : nvF d (k + 1) = nvF d k := by rw [nvF, if_neg h1, if_neg h2]
theorem nvF_many (d : Nat → Int) : ∀ k, 1 ≤ (nvF d k).2.2 ∧ (nvF d k).2.2 ≤ k + 1
  | 0 => by simp [nvF]
  | k + 1 => by
    have ih := nvF_many d k
    rw [nvF]
    split
    · constructor <;> simp <;> omega
    · split
      · constructor <;> simp <;> omega
      · omega
theorem nvF_best (d : Nat → Int) : ∀ k, 0 ≤ (nvF d k).1 ∧ (nvF d k).1 ≤ k
  | 0 => by simp [nvF]
  | k + 1 => by
    have ih := nvF_best d k
    rw [nvF]
    split
    · constructor <;> simp <;> omega
    · split
      · constructor <;> simp <;> omega
      · omega
theorem nvF_least (d : Nat → Int) (lo hi : Int) (h : ∀ k, lo ≤ d k ∧ d k ≤ hi) : ∀ k, lo ≤ (nvF d k).2.1 ∧ (nvF d k).2.1 ≤ hi
  | 0 => h 0
  | k + 1 => by
    have ih := nvF_least d lo hi h k
    rw [nvF]
    split
    · exact h (k + 1)
    · split
      · exact ih
      · exact ih
/-- The distance of a value's code from a part. -/
def dOf (f : Fld) (p : Mask) (k : Nat) : Int := distM (codeF f k) p
/-- What NearestValue returns: three numbers. -/
def nearestF (f : Fld) (m : Mask) : Int × Int × Int :=
  if (fldB f && isMaskB m) = true then
    (if 1 < (nvF (dOf f (mmeet m (partF f))) (mostF f).toNat).2.2 then (0, 0, 4)
     else ((nvF (dOf f (mmeet m (partF f))) (mostF f).toNat).1, (nvF (dOf f (mmeet m (partF f))) (mostF f).toNat).2.1, 0))
  else (0, 0, 1)
/-- The first k values whose codes are near. -/
def nearTo (f : Fld) (p : Mask) (far : Int) : Nat → List Int
  | 0 => []
  | k + 1 => if dOf f p k ≤ far then nearTo f p far k ++ [(k : Int)] else nearTo f p far k
theorem nearTo_zero (f : Fld) (p : Mask) (far : Int) : nearTo f p far 0 = [] := rfl
theorem nearTo_hit {f : Fld} {p : Mask} {far : Int} {k : Nat} (h : dOf f p k ≤ far) : nearTo f p far (k + 1) = nearTo f p far k ++ [(k : Int)] := by rw [nearTo, if_pos h]
theorem nearTo_miss {f : Fld} {p : Mask} {far : Int} {k : Nat} (h : ¬ dOf f p k ≤ far) : nearTo f p far (k + 1) = nearTo f p far k := by rw [nearTo, if_neg h]
theorem nearTo_len (f : Fld) (p : Mask) (far : Int) : ∀ k, (nearTo f p far k).length ≤ k
  | 0 => Nat.le_refl _
  | k + 1 => by
    have := nearTo_len f p far k
    rw [nearTo]
    split
    · rw [List.length_append, List.length_singleton]; omega
    · omega
attribute [irreducible] nearTo
/-- All values whose codes are near a mask. -/
def nearL (f : Fld) (m : Mask) (far : Int) : List Int := nearTo f (mmeet m (partF f)) far (mostF f + 1).toNat
/-- What ValuesNear returns. -/
def nearF (f : Fld) (m : Mask) (far : Int) : List Int × Int :=
  if (fldB f && isMaskB m) = true then (if 0 ≤ far ∧ far ≤ 2 then (nearL f m far, 0) else ([], 2)) else ([], 1)
/-- What IsTold returns. -/
def toldF (f : Fld) (v : Int) (t u : Mask) : Bool × Int :=
  if (fldB f && isWearB t u) = true then
    (if 0 ≤ v ∧ v ≤ mostF f then (decide ((valueF f (mless (mjoin (codeF f v) t) u)).2 ≠ 0 ∨ (valueF f (mless (mjoin (codeF f v) t) u)).1 = v), 0) else (false, 2))
  else (false, 1)
end Go.Proofs.YtdlpifgkponnmaaDoor
set_option linter.unusedVariables false
set_option linter.unusedSimpArgs false
set_option maxRecDepth 100000
namespace Go.Proofs.YtdlpifgkponnmaaDoor
open Go.RowKit
theorem mhas_or (a b : Mask) (i : Nat) : mhas (mjoin a b) i = (mhas a i || mhas b i) := by simp [mhas, mjoin]
theorem mhas_less (a b : Mask) (i : Nat) (h : i < 128) : mhas (mless a b) i = (mhas a i && !mhas b i) := by simp [mhas, mless, h]
theorem mhas_and (a b : Mask) (i : Nat) : mhas (mmeet a b) i = (mhas a i && mhas b i) := by simp [mhas, mmeet]
theorem mhas_bit (k i : Nat) (hk : k < 128) : mhas (mbit k) i = decide (i = k) := by
  unfold mhas mbit
  rw [BitVec.getLsbD_shiftLeft]
  simp only [Int.toNat_natCast]
  by_cases h : i = k
  · subst h; simp [hk]
  · have h1 : decide (i = k) = false := decide_eq_false h
    rw [h1]
    by_cases h2 : i < k
    · simp [h2]
    · have h3 : BitVec.getLsbD 1#128 (i - k) = false := by rw [BitVec.getLsbD_one]; simp; omega
      rw [h3]; simp
theorem mask_ext {a b : Mask} (h : ∀ i : Nat, i < 128 → mhas a i = mhas b i) : a = b := BitVec.eq_of_getLsbD_eq fun i hi => by have := h i hi; simpa [mhas] using this
theorem mask_high {m : Mask} (h : isMaskB m = true) (i : Nat) (hi : 96 ≤ i) : mhas m i = false := by
  unfold isMaskB at h
  rw [decide_eq_true_eq] at h
  show m.toNat.testBit i = false
  exact Nat.testBit_lt_two_pow (Nat.lt_of_lt_of_le h (Nat.pow_le_pow_right (n := 2) (by decide) hi))
theorem sm_less {m n : Mask} (h : isMaskB m = true) : isMaskB (mless m n) = true := by
  unfold isMaskB mless at *
  rw [decide_eq_true_eq] at *
  rw [BitVec.toNat_and]
  exact Nat.lt_of_le_of_lt Nat.and_le_left h
theorem mzero_iff (m : Mask) : mzero m = true ↔ ∀ i : Nat, i < 128 → mhas m i = false := by
  constructor
  · intro h i hi
    have : m = 0 := by simpa [mzero] using h
    subst this; simp [mhas]
  · intro h
    have : m = 0 := mask_ext fun i hi => by rw [h i hi]; simp [mhas]
    subst this; simp [mzero]
theorem isWear_iff {t f : Mask} : isWearB t f = true ↔ isMaskB t = true ∧ isMaskB f = true ∧ ∀ i : Nat, i < 128 → (mhas t i = true → mhas f i = false) := by
  unfold isWearB
  rw [Bool.and_eq_true, Bool.and_eq_true, mzero_iff, and_assoc]
  refine and_congr_right fun _ => and_congr_right fun _ => forall_congr' fun i => forall_congr' fun hi => ?_
  rw [mhas_and]
  cases mhas t i <;> cases mhas f i <;> simp
theorem sm_joinV {a b : Mask} (ha : isMaskB a = true) (hb : isMaskB b = true) : isMaskB (mjoin a b) = true := by
  unfold isMaskB mjoin at *
  rw [decide_eq_true_eq] at *
  rw [BitVec.toNat_or]
  exact Nat.or_lt_two_pow (n := 96) ha hb
theorem isMask_zero : isMaskB 0 = true := by decide
theorem wear_zero : isWearB 0 0 = true := by decide
theorem wear_tear {t f b : Mask} (h : isWearB t f = true) (hb : isMaskB b = true) : isWearB (mjoin t b) (mless f b) = true := by
  obtain ⟨h1, h2, h3⟩ := isWear_iff.1 h
  refine isWear_iff.2 ⟨sm_joinV h1 hb, sm_less h2, fun i hi => ?_⟩
  have q1 := h3 i hi
  revert q1
  rw [mhas_or, mhas_less _ _ _ hi]
  cases mhas t i <;> cases mhas f i <;> cases mhas b i <;> simp
theorem wear_fill {t f b : Mask} (h : isWearB t f = true) (hb : isMaskB b = true) : isWearB (mless t b) (mjoin f b) = true := by
  obtain ⟨h1, h2, h3⟩ := isWear_iff.1 h
  refine isWear_iff.2 ⟨sm_less h1, sm_joinV h2 hb, fun i hi => ?_⟩
  have q1 := h3 i hi
  revert q1
  rw [mhas_or, mhas_less _ _ _ hi]
  cases mhas t i <;> cases mhas f i <;> cases mhas b i <;> simp
theorem wear_between {a b : Mask} (ha : isMaskB a = true) (hb : isMaskB b = true) : isWearB (mless b a) (mless a b) = true := by
  refine isWear_iff.2 ⟨sm_less hb, sm_less ha, fun i hi => ?_⟩
  rw [mhas_less _ _ _ hi, mhas_less _ _ _ hi]
  cases mhas a i <;> cases mhas b i <;> simp
theorem wear_swap {t f : Mask} (h : isWearB t f = true) : isWearB f t = true := by
  obtain ⟨h1, h2, h3⟩ := isWear_iff.1 h
  refine isWear_iff.2 ⟨h2, h1, fun i hi => ?_⟩
  have q1 := h3 i hi
  revert q1
  cases mhas t i <;> cases mhas f i <;> simp
theorem wear_after {t f t' f' : Mask} (h : isWearB t f = true) (h' : isWearB t' f' = true) : isWearB (mjoin t' (mless t f')) (mjoin f' (mless f t')) = true := by
  obtain ⟨h1, h2, h3⟩ := isWear_iff.1 h
  obtain ⟨g1, g2, g3⟩ := isWear_iff.1 h'
  refine isWear_iff.2 ⟨sm_joinV g1 (sm_less h1), sm_joinV g2 (sm_less h2), fun i hi => ?_⟩
  have q1 := h3 i hi
  revert q1
  have q2 := g3 i hi
  revert q2
  rw [mhas_or, mhas_less _ _ _ hi, mhas_or, mhas_less _ _ _ hi]
  cases mhas t i <;> cases mhas f i <;> cases mhas t' i <;> cases mhas f' i <;> simp
theorem worn_between (a b : Mask) : mless (mjoin a (mless b a)) (mless a b) = b := mask_ext fun i hi => by
  rw [mhas_less _ _ _ hi, mhas_or, mhas_less _ _ _ hi, mhas_less _ _ _ hi]
  cases mhas a i <;> cases mhas b i <;> rfl
theorem worn_after {t f t' f' : Mask} (a : Mask) (h : isWearB t f = true) (h' : isWearB t' f' = true) : mless (mjoin a (mjoin t' (mless t f'))) (mjoin f' (mless f t')) = mless (mjoin (mless (mjoin a t) f) t') f' := by
  obtain ⟨h1, h2, h3⟩ := isWear_iff.1 h
  obtain ⟨g1, g2, g3⟩ := isWear_iff.1 h'
  refine mask_ext fun i hi => ?_
  have q1 := h3 i hi
  revert q1
  have q2 := g3 i hi
  revert q2
  simp only [mhas_less _ _ _ hi, mhas_or]
  cases mhas t i <;> cases mhas f i <;> cases mhas t' i <;> cases mhas f' i <;> cases mhas a i <;> simp
/-- What wear changes, if nothing is torn that is torn and nothing filled that is not. -/
theorem worn_torn {t f a : Mask} (h : ∀ i : Nat, i < 128 → (mhas t i = true → mhas a i = false) ∧ (mhas f i = true → mhas a i = true)) : mless (mless (mjoin a t) f) a = t ∧ mless a (mless (mjoin a t) f) = f := by
  constructor
  all_goals
    refine mask_ext fun i hi => ?_
    have q1 := h i hi
    revert q1
    simp only [mhas_less _ _ _ hi, mhas_or]
    cases mhas t i <;> cases mhas f i <;> cases mhas a i <;> simp
end Go.Proofs.YtdlpifgkponnmaaDoor
set_option linter.unusedVariables false
set_option linter.unusedSimpArgs false
set_option maxRecDepth 100000
namespace Go.Proofs.YtdlpifgkponnmaaDoor
open Go.RowKit
/-- Texts as elements. -/
def encStr : Enc ByteArray where
  enc x := [.string x]
  sz := 1
  len _ := rfl
  one m u hu := by
    simp only [List.mem_cons, List.not_mem_nil, or_false] at hu
    subst hu
    rfl
  pos := by decide
theorem Rd.str {w : World} {b off : Nat} {xs : List ByteArray} (h : Rd encStr w (some ⟨b, off, none⟩) xs) (k : Nat) (hk : k < xs.length) :
    w.cell? ⟨b, off + k, none⟩ = some (.string xs[k]) := by
  obtain ⟨b', off', e1, hlt, hc⟩ := h k hk
  simp only [Option.some.injEq, Addr.mk.injEq, and_true] at e1
  obtain ⟨rfl, rfl⟩ := e1
  have := hc 0 _ rfl
  simpa [encStr] using this
def strB (x y : ByteArray) : Bool := x.toList == y.toList
theorem strB_refl (x : ByteArray) : strB x x = true := by simp [strB]
theorem strB_iff (x y : ByteArray) : strB x y = true ↔ x = y := by
  unfold strB
  rw [beq_iff_eq]
  constructor
  · intro h
    rw [ByteArray.toList_eq, ByteArray.toList_eq] at h
    cases x; cases y
    simp at h
    rw [h]
  · intro h; rw [h]
theorem info_str : (Tryd.prog.info? 9).map (fun i => (i.zero, i.size, i.bytes)) = some (some (.string ⟨#[]⟩), encStr.sz, 16) := by kernel_rfl
theorem info_str2 : (Tryd.prog.info? 9).map (·.size) = some encStr.sz := by kernel_rfl
end Go.Proofs.YtdlpifgkponnmaaDoor
set_option linter.unusedVariables false
set_option linter.unusedSimpArgs false
set_option maxRecDepth 100000
namespace Go.Proofs.YtdlpifgkponnmaaDoor
open Go.RowKit
theorem Win.grownOut {lo hi : Nat} {w w' w'' : World} {row : Option Nat} (h : Win lo hi w w') (hg : w'.grownBy w'' row) (hr : ∀ k, row = some k → w.heap.size ≤ k) : Win lo hi w w'' :=
  ⟨hg.os.trans h.os, hg.tape.trans h.tape, hg.output.trans h.output, Nat.le_trans h.size hg.size, fun b hb1 hb2 => (hg.block b (Nat.lt_of_lt_of_le hb1 h.size) (fun e => by have := hr b e.symm; omega)).trans (h.block b hb1 hb2)⟩
theorem Rd.grown {α : Type} {e : Enc α} {w w' : World} {A : Option Addr} {xs : List α} (h : Rd e w A xs) {row : Option Nat} (hg : w.grownBy w' row) (hne : ∀ p, A = some p → row ≠ some p.block) : Rd e w' A xs := fun k hk => by
  obtain ⟨b, off, hA, hlt, hc⟩ := h k hk
  exact ⟨b, off, hA, Nat.lt_of_lt_of_le hlt hg.size, fun j u hu => (cell_blockW (hg.block b hlt (fun e => hne _ hA e.symm))).trans (hc j u hu)⟩
theorem BoxAt.grown {w w' : World} {b : Nat} {cs : Array Value} {t : TypeId} (h : BoxAt w b cs t) {row : Option Nat} (hg : w.grownBy w' row) (hne : row ≠ some b) : BoxAt w' b cs t := (hg.block b h.lt (fun e => hne e.symm)).trans h
section
variable {α : Type} {e : Enc α} {xs : List α} {T : TypeId} {base : Nat} {v : Value}
/-- Append of one element, in a world of which nothing else is told. -/
theorem wpList_pushW {P : Program} {ops : Array Oper} {rest : List Oper} {o : Oper} {a : Act} {Q : Exit → Act → World → Prop} (e : Enc α) {W : World} {bk : Nat} (hgd : o.guard = none) (s y : Operand) (t : TypeId) (z : Value) (bytes : Nat)
    (ho : o.op = .call { callee := .builtin .append, args := #[s, y], argTypes := #[t, t] })
    (ht : P.underlying t = some (.slice T)) (hinfo : (P.info? T).map (fun i => (i.zero, i.size, i.bytes)) = some (some z, e.sz, bytes)) (hz : z.cells.size = e.sz)
    (x : α) (hs : a.eval s = v) (hy : a.eval y = .slice (some ⟨bk, 0, none⟩) 1 1) (hbk : bk = W.heap.size) (HO : Ow e T W base v xs) (hbase : base ≤ W.heap.size)
    (hl : (xs.length + 1) * bytes ≤ 140737488355328) (hl2 : xs.length + 1 ≤ 9223372036854775807)
    (h : ∀ v1 w1, Ow e T w1 base v1 (xs ++ [x]) → W.grownBy w1 v.ownBlock → (v1.ownBlock = v.ownBlock ∨ ∃ b, v1.ownBlock = some b ∧ W.heap.size ≤ b) → wpList P ops Q rest (a.put o.dst v1) w1) :
    wpList P ops Q (o :: rest) a (W.alloc (.cells (e.enc x).toArray T)) :=
  wpList_push2 (w0 := { W with heap := #[] }) e hgd s y t z bytes ho ht hinfo hz x hs hy hbk HO hbase (Nat.zero_le _) ⟨rfl, rfl, rfl, Nat.zero_le _, fun b hb => absurd hb (Nat.not_lt_zero b)⟩ hl hl2 (fun v1 w1 h1 _ h3 h4 => h v1 w1 h1 h3 h4)
end
theorem Conv.convBR {G C : Nat → Int → World → Prop} {T : Prop} (ht : ∀ b r W, C b r W → G b r W) (h : (∀ b r W, C b r W → G b r W) → T) : T := h ht
theorem Conv.convR {G C : Int → World → Prop} {T : Prop} (ht : ∀ r W, C r W → G r W) (h : (∀ r W, C r W → G r W) → T) : T := h ht
end Go.Proofs.YtdlpifgkponnmaaDoor
set_option linter.unusedVariables false
set_option linter.unusedSimpArgs false
set_option maxRecDepth 100000
namespace Go.Proofs.YtdlpifgkponnmaaDoor
open Go.RowKit
/-- Of how many numbers below n does p hold? -/
def cnt (p : Nat → Bool) : Nat → Nat
  | 0 => 0
  | n + 1 => cnt p n + if p n = true then 1 else 0
theorem cnt_front (p : Nat → Bool) : ∀ n, cnt p (n + 1) = (if p 0 = true then 1 else 0) + cnt (fun i => p (i + 1)) n
  | 0 => by simp [cnt]
  | n + 1 => by rw [cnt, cnt_front p n, cnt]; omega
theorem cnt_congr {p q : Nat → Bool} : ∀ {n : Nat}, (∀ i, i < n → p i = q i) → cnt p n = cnt q n
  | 0, _ => rfl
  | n + 1, h => by rw [cnt, cnt, cnt_congr (fun i hi => h i (by omega)), h n (by omega)]
theorem cnt_split (p q : Nat → Bool) : ∀ n : Nat, cnt p n = cnt (fun i => p i && q i) n + cnt (fun i => p i && !q i) n
  | 0 => rfl
  | n + 1 => by
    rw [cnt, cnt, cnt, cnt_split p q n]
    cases p n <;> cases q n <;> simp <;> omega
theorem cnt_zero {p : Nat → Bool} : ∀ {n : Nat}, cnt p n = 0 → ∀ i, i < n → p i = false
  | 0, _, i, hi => absurd hi (Nat.not_lt_zero i)
  | n + 1, h, i, hi => by
    rw [cnt] at h
    by_cases hin : i = n
    · subst hin
      cases hp : p i with
      | false => rfl
      | true => rw [hp] at h; simp at h
    · exact cnt_zero (n := n) (by omega) i (by omega)
theorem cnt_none {p : Nat → Bool} : ∀ {n : Nat}, (∀ i, i < n → p i = false) → cnt p n = 0
  | 0, _ => rfl
  | n + 1, h => by rw [cnt, cnt_none (fun i hi => h i (by omega)), h n (by omega)]; rfl
theorem cnt_range (a b : Nat) : ∀ n : Nat, a + b ≤ n → cnt (fun i => decide (a ≤ i ∧ i < a + b)) n = b
  | 0, h => by rw [cnt]; omega
  | n + 1, h => by
    rw [cnt]
    by_cases h2 : a + b ≤ n
    · rw [cnt_range a b n h2, if_neg (by rw [decide_eq_true_eq]; omega)]
      rfl
    · by_cases h3 : b = 0
      · subst h3
        rw [cnt_none (fun i _ => decide_eq_false (by omega)), if_neg (by rw [decide_eq_true_eq]; omega)]
      · obtain ⟨c, rfl⟩ : ∃ c, b = c + 1 := ⟨b - 1, by omega⟩
        have e : cnt (fun i => decide (a ≤ i ∧ i < a + (c + 1))) n = cnt (fun i => decide (a ≤ i ∧ i < a + c)) n := cnt_congr (fun i hi => by rw [decide_eq_decide]; omega)
        rw [e, cnt_range a c n (by omega), if_pos (by rw [decide_eq_true_eq]; omega)]
theorem pcf_cnt : ∀ (n x : Nat), pcf n x = cnt (fun i => x.testBit i) n
  | 0, x => by rw [pcf, cnt]
  | n + 1, x => by
    rw [pcf, cnt_front, pcf_cnt n (x / 2)]
    have e : cnt (fun i => (x / 2).testBit i) n = cnt (fun i => x.testBit (i + 1)) n := cnt_congr (fun i _ => by rw [Nat.testBit_succ])
    rw [e, Nat.testBit_zero]
    rcases Nat.mod_two_eq_zero_or_one x with h | h <;> rw [h] <;> rfl
theorem mcount_cnt (m : Mask) : mcount m = (cnt (fun i => mhas m i) 128 : Nat) := by
  unfold mcount
  rw [← pcf_add 64 64 m.toNat, pcf_cnt]
  rfl
theorem mcount_split (a b : Mask) : mcount a = mcount (mmeet a b) + mcount (mless a b) := by
  rw [mcount_cnt, mcount_cnt, mcount_cnt, cnt_split _ (fun i => mhas b i)]
  rw [cnt_congr (p := fun i => mhas (mmeet a b) i) (q := fun i => mhas a i && mhas b i) (fun i hi => mhas_and a b i), cnt_congr (p := fun i => mhas (mless a b) i) (q := fun i => mhas a i && !mhas b i) (fun i hi => mhas_less a b i hi)]
  omega
theorem mmeet_comm (a b : Mask) : mmeet a b = mmeet b a := by unfold mmeet; exact BitVec.and_comm _ _
theorem mcount_none {m : Mask} : mcount m = 0 ↔ m = 0 := by
  rw [mcount_cnt]
  constructor
  · intro h
    exact mask_ext fun i hi => by rw [cnt_zero (p := fun i => mhas m i) (by omega) i hi]; simp [mhas]
  · intro h
    subst h
    rw [cnt_none (fun i _ => by simp [mhas])]
    rfl
theorem less_eq_zero {a b : Mask} (h1 : mless a b = 0) (h2 : mless b a = 0) : a = b := mask_ext fun i hi => by
  have e1 := congrArg (fun m => mhas m i) h1
  have e2 := congrArg (fun m => mhas m i) h2
  simp only [mhas_less _ _ _ hi] at e1 e2
  have e0 : mhas (0 : Mask) i = false := by simp [mhas]
  rw [e0] at e1 e2
  cases ha : mhas a i <;> cases hb : mhas b i <;> rw [ha, hb] at e1 e2 <;> first | rfl | (exfalso; revert e1; decide) | (exfalso; revert e2; decide)
theorem distM_zero {a b : Mask} : distM a b = 0 ↔ a = b := by
  unfold distM
  have g1 := mcount_ge (mless a b)
  have g2 := mcount_ge (mless b a)
  constructor
  · intro h
    exact less_eq_zero (mcount_none.1 (by omega)) (mcount_none.1 (by omega))
  · rintro rfl
    have : mless a a = 0 := mask_ext fun i hi => by rw [mhas_less _ _ _ hi]; simp [mhas]
    rw [this, mcount_none.2 rfl]
    rfl
theorem distM_comm (a b : Mask) : distM a b = distM b a := by unfold distM; omega
/-- Masks of like parity differ in an even number of holes. -/
theorem distM_even {a b : Mask} (h : mcount a % 2 = mcount b % 2) : distM a b % 2 = 0 := by
  unfold distM
  have h1 := mcount_split a b
  have h2 := mcount_split b a
  rw [mmeet_comm b a] at h2
  omega
/-- Of two masks with as many holes none is within the other one, unless they are the same. -/
theorem within_same {a b : Mask} (h : mcount a = mcount b) (hw : mless a b = 0) : a = b := by
  have h1 := mcount_split a b
  have h2 := mcount_split b a
  rw [mmeet_comm b a] at h2
  have h3 := mcount_none.2 hw
  exact less_eq_zero hw (mcount_none.1 (by omega))
end Go.Proofs.YtdlpifgkponnmaaDoor
set_option linter.unusedVariables false
set_option linter.unusedSimpArgs false
set_option maxRecDepth 100000
namespace Go.Proofs.YtdlpifgkponnmaaDoor
open Go.RowKit
theorem pcf_fit {n k x : Nat} (hk : k ≤ n) (hx : x < 2 ^ k) : pcf n x = pcf k x := by
  obtain ⟨j, rfl⟩ : ∃ j, n = k + j := ⟨n - k, by omega⟩
  rw [pcf_add, Nat.mod_eq_of_lt hx, Nat.div_eq_of_lt hx, pcf_zero, Nat.add_zero]
theorem mcount_pcf (m : Mask) : mcount m = (pcf 128 m.toNat : Nat) := by
  unfold mcount
  rw [← pcf_add 64 64 m.toNat]
theorem shl_nat {m : Mask} {s k : Nat} (hm : m.toNat < 2 ^ k) (hs : k + s ≤ 128) : (m <<< s).toNat = m.toNat * 2 ^ s := by
  rw [BitVec.toNat_shiftLeft, Nat.shiftLeft_eq, Nat.mod_eq_of_lt]
  refine Nat.lt_of_lt_of_le ((Nat.mul_lt_mul_right (Nat.two_pow_pos s)).2 hm) ?_
  rw [← Nat.pow_add]
  exact Nat.pow_le_pow_right (by decide) hs
theorem mcount_shl {m : Mask} {s k : Nat} (hm : m.toNat < 2 ^ k) (hs : k + s ≤ 128) : mcount (m <<< s) = mcount m := by
  rw [mcount_pcf, mcount_pcf, shl_nat hm hs]
  have key : ∀ x : Nat, x < 2 ^ k → pcf 128 (x * 2 ^ s) = pcf 128 x := by
    intro x hx
    have e := pcf_add s (128 - s) (x * 2 ^ s)
    rw [show s + (128 - s) = 128 by omega, Nat.mul_mod_left, Nat.mul_div_cancel _ (Nat.two_pow_pos s), pcf_zero, Nat.zero_add] at e
    rw [e, pcf_fit (n := 128 - s) (k := k) (by omega) hx, pcf_fit (n := 128) (k := k) (by omega) hx]
  rw [key _ hm]
theorem mbit_shl (s k : Nat) : mbit ((s : Int) + k) = mbit k <<< s := by
  unfold mbit
  rw [show ((s : Int) + k).toNat = k + s by omega, Int.toNat_natCast, BitVec.shiftLeft_add]
theorem mjoin_shl (a b : Mask) (s : Nat) : mjoin (a <<< s) (b <<< s) = (mjoin a b) <<< s := by unfold mjoin; exact (BitVec.shiftLeft_or_distrib _ _ _).symm
theorem mzero_shl (s : Nat) : (0 : Mask) <<< s = 0 := by simp
theorem orTo_shl {g g' : Nat → Mask} {s : Nat} (h : ∀ k, g k = g' k <<< s) : ∀ n, orTo g n = orTo g' n <<< s
  | 0 => (mzero_shl s).symm
  | n + 1 => by rw [orTo, orTo, orTo_shl h n, h n, mjoin_shl]
theorem notch_shl (s holes b : Int) (t : Nat) (hs : s = t) : ∀ n : Nat, notchTo 0 s holes b n = notchTo 0 0 holes b n <<< t
  | 0 => (mzero_shl t).symm
  | n + 1 => by
    rw [notchTo, notchTo, notch_shl s holes b t hs n, hs, mbit_shl, mjoin_shl, show mbit (0 + (n : Int)) = mbit n by rw [Int.zero_add]]
    split <;> rfl
theorem mwith_shl (t : Nat) : ∀ (L : List Int) (m : Mask), (∀ x ∈ L, 0 ≤ x) → mwith (m <<< t) (L.map ((t : Int) + ·)) = mwith m L <<< t
  | [], m, _ => rfl
  | x :: L, m, h => by
    have hx := h x List.mem_cons_self
    obtain ⟨k, rfl⟩ := Int.eq_ofNat_of_zero_le hx
    rw [List.map_cons, mwith_cons, mwith_cons, mbit_shl, mjoin_shl, mwith_shl t L _ (fun y hy => h y (List.mem_cons_of_mem _ hy))]
theorem digP_shl (kd d : Int) (t o : Nat) : digP kd ((t : Int) + o) d = digP kd o d <<< t := by
  unfold digP
  have h := mwith_shl t ((digL kd d).map ((o : Int) + ·)) 0 (fun x hx => by
    obtain ⟨y, hy, rfl⟩ := List.mem_map.1 hx
    have := (digL_small kd d y hy).1
    omega)
  rw [mzero_shl, List.map_map] at h
  rw [← h]
  congr 1
  refine List.map_congr_left fun y _ => ?_
  show (t : Int) + o + y = t + (o + y)
  omega
theorem low_nat {m : Mask} {n : Nat} (h : ∀ i : Nat, mhas m i = true → i < n) : m.toNat < 2 ^ n :=
  Nat.lt_pow_two_of_testBit _ (fun i hi => by
    cases hb : m.toNat.testBit i with
    | false => rfl
    | true => have := h i hb; omega)
theorem notch_low (holes b : Int) : ∀ n : Nat, n ≤ 100 → ∀ i : Nat, mhas (notchTo 0 0 holes b n) i = true → i < n
  | 0, _, i, h => by simp [notchTo, mhas] at h
  | n + 1, hn, i, h => by
    rw [notchTo] at h
    split at h
    · rw [mhas_or, Bool.or_eq_true] at h
      rcases h with h | h
      · have := notch_low holes b n (by omega) i h; omega
      · rw [Int.zero_add, mhas_bit n i (by omega), decide_eq_true_eq] at h
        omega
    · have := notch_low holes b n (by omega) i h; omega
/-- A code is that of the field's shape, moved to its place. -/
theorem code_shl {f : Fld} (hf : fldB f = true) (v : Int) (v0 : 0 ≤ v) : codeF f v = codeF ⟨⟨#[]⟩, f.kd, 0, f.sz⟩ v <<< f.st.toNat := by
  obtain ⟨_, k0, k3, s0, z1, zm, h96⟩ := fldB_parts hf
  obtain ⟨nm, kd, st, sz⟩ := f
  dsimp only at *
  obtain ⟨t, rfl⟩ := Int.eq_ofNat_of_zero_le s0
  obtain ⟨u, rfl⟩ := Int.eq_ofNat_of_zero_le v0
  have hn := manyF_bd kd sz z1 (by unfold mostSz at zm; split at zm <;> (try split at zm) <;> omega)
  unfold codeF
  dsimp only
  rw [Int.toNat_natCast]
  split
  · rw [mbit_shl, Int.zero_add]
  · split
    · rename_i h0 h3
      subst h3
      rw [manyF3] at h96 hn
      have hz : sz.toNat ≤ 95 := by omega
      have e := notch_shl t sz u t rfl sz.toNat
      have hl := low_nat (notch_low sz u sz.toNat (by omega))
      have e2 : mbit ((t : Int) + sz) = mbit (0 + sz) <<< t := by
        obtain ⟨k, rfl⟩ := Int.eq_ofNat_of_zero_le (show 0 ≤ sz by omega)
        rw [mbit_shl, Int.zero_add]
      unfold binF
      rw [e, mcount_shl hl (by omega), e2, mjoin_shl]
      split <;> rfl
    · refine orTo_shl (fun k => ?_) _
      unfold digG
      have hw : 0 ≤ digW kd := by unfold digW; split <;> omega
      obtain ⟨q, hq⟩ := Int.eq_ofNat_of_zero_le hw
      rw [hq, show (t : Int) + (q : Int) * k = (t : Int) + ((q * k : Nat) : Int) by rw [Int.natCast_mul], show (0 : Int) + (q : Int) * k = ((q * k : Nat) : Int) by rw [Int.natCast_mul, Int.zero_add], digP_shl]
theorem range_has (t : Nat) : ∀ (n : Nat) (i : Nat), t + n ≤ 128 → mhas (orTo (fun k => mbit ((t : Int) + k)) n) i = decide (t ≤ i ∧ i < t + n)
  | 0, i, _ => by rw [orTo, decide_eq_false (by omega)]; simp [mhas]
  | n + 1, i, h => by
    rw [orTo, mhas_or, range_has t n i (by omega), show (t : Int) + n = ((t + n : Nat) : Int) by omega, mhas_bit _ _ (by omega), Bool.eq_iff_iff, Bool.or_eq_true, decide_eq_true_eq, decide_eq_true_eq, decide_eq_true_eq]
    omega
/-- The holes of a field. -/
theorem part_has {f : Fld} (hf : fldB f = true) (i : Nat) : mhas (partF f) i = decide (f.st ≤ i ∧ i < f.st + manyF f.kd f.sz) := by
  obtain ⟨_, k0, k3, s0, z1, zm, h96⟩ := fldB_parts hf
  have hn := manyF_bd f.kd f.sz z1 (by unfold mostSz at zm; split at zm <;> (try split at zm) <;> omega)
  unfold partF rangeM
  obtain ⟨t, ht⟩ := Int.eq_ofNat_of_zero_le s0
  obtain ⟨n, hm⟩ := Int.eq_ofNat_of_zero_le (show 0 ≤ manyF f.kd f.sz by omega)
  rw [ht, hm, Int.toNat_natCast, range_has t n i (by omega), decide_eq_decide]
  omega
/-- The shapes that are drawn. -/
def shapeB (kd sz : Int) : Bool := decide (1 ≤ sz) && ((decide (kd = 0) && decide (sz ≤ 12)) || (decide (kd = 1) && decide (sz ≤ 2)) || (decide (kd = 2) && decide (sz ≤ 2)) || (decide (kd = 3) && decide (sz ≤ 6)))
def codesT (kd sz : Int) : List Nat := (List.range (mostF ⟨⟨#[]⟩, kd, 0, sz⟩ + 1).toNat).map fun v : Nat => (codeF ⟨⟨#[]⟩, kd, 0, sz⟩ (v : Int)).toNat
/-- How many holes a code has: all of a shape's codes alike, or oddly many. -/
def weightB (kd sz : Int) (x : Nat) : Bool := (decide (kd = 0) && pcf 16 x == 1) || decide (kd = 1) || (decide (kd = 2) && (pcf 16 x : Nat) == 2 * sz.toNat) || (decide (kd = 3) && pcf 16 x % 2 == 1)
def noneTwice : List Nat → Bool
  | [] => true
  | x :: xs => !(xs.any fun y => Nat.beq x y) && noneTwice xs
def goodTab (kd sz : Int) : Bool := noneTwice (codesT kd sz) && (codesT kd sz).all fun x => !(Nat.beq x 0) && (Nat.blt x (2 ^ (manyF kd sz).toNat) && weightB kd sz x)
theorem tabs_good : ([(0, 1), (0, 2), (0, 3), (0, 4), (0, 5), (0, 6), (0, 7), (0, 8), (0, 9), (0, 10), (0, 11), (0, 12), (1, 1), (1, 2), (2, 1), (2, 2), (3, 1), (3, 2), (3, 3), (3, 4), (3, 5), (3, 6)] : List (Int × Int)).all (fun p => goodTab p.1 p.2) = true := by decide +kernel
theorem shape_good {kd sz : Int} (h : shapeB kd sz = true) : goodTab kd sz = true := by
  have hl := List.all_eq_true.1 tabs_good (kd, sz)
  refine hl ?_
  unfold shapeB at h
  simp only [Bool.and_eq_true, Bool.or_eq_true, decide_eq_true_eq] at h
  obtain ⟨h1, ((⟨rfl, h2⟩ | ⟨rfl, h2⟩) | ⟨rfl, h2⟩) | ⟨rfl, h2⟩⟩ := h
  · rcases (show sz = 1 ∨ sz = 2 ∨ sz = 3 ∨ sz = 4 ∨ sz = 5 ∨ sz = 6 ∨ sz = 7 ∨ sz = 8 ∨ sz = 9 ∨ sz = 10 ∨ sz = 11 ∨ sz = 12 by omega) with rfl | rfl | rfl | rfl | rfl | rfl | rfl | rfl | rfl | rfl | rfl | rfl <;> decide
  · rcases (show sz = 1 ∨ sz = 2 by omega) with rfl | rfl <;> decide
  · rcases (show sz = 1 ∨ sz = 2 by omega) with rfl | rfl <;> decide
  · rcases (show sz = 1 ∨ sz = 2 ∨ sz = 3 ∨ sz = 4 ∨ sz = 5 ∨ sz = 6 by omega) with rfl | rfl | rfl | rfl | rfl | rfl <;> decide
theorem noneTwice_at : ∀ (l : List Nat), noneTwice l = true → ∀ (i j : Nat) (hi : i < l.length) (hj : j < l.length), l[i] = l[j] → i = j
  | [], _, i, _, hi, _, _ => absurd hi (by simp)
  | x :: xs, h, i, j, hi, hj, e => by
    rw [noneTwice, Bool.and_eq_true, Bool.not_eq_true', List.any_eq_false] at h
    cases i with
    | zero =>
      cases j with
      | zero => rfl
      | succ j =>
        exfalso
        have hj2 : j < xs.length := by simpa using hj
        have := h.1 xs[j] (List.getElem_mem hj2)
        rw [List.getElem_cons_zero, List.getElem_cons_succ] at e
        rw [e] at this
        simp at this
    | succ i =>
      cases j with
      | zero =>
        exfalso
        have hi2 : i < xs.length := by simpa using hi
        have := h.1 xs[i] (List.getElem_mem hi2)
        rw [List.getElem_cons_zero, List.getElem_cons_succ] at e
        rw [← e] at this
        simp at this
      | succ j =>
        have hi2 : i < xs.length := by simpa using hi
        have hj2 : j < xs.length := by simpa using hj
        rw [List.getElem_cons_succ, List.getElem_cons_succ] at e
        have := noneTwice_at xs h.2 i j hi2 hj2 e
        omega
/-- What is known of the codes of a field that has been drawn. -/
structure CodeLaw (f : Fld) : Prop where
  inj : ∀ v w : Int, 0 ≤ v → v ≤ mostF f → 0 ≤ w → w ≤ mostF f → codeF f v = codeF f w → v = w
  ne : ∀ v : Int, 0 ≤ v → v ≤ mostF f → codeF f v ≠ 0
  part : ∀ v : Int, 0 ≤ v → v ≤ mostF f → ∀ i : Nat, mhas (codeF f v) i = true → mhas (partF f) i = true
  one : ∀ v : Int, f.kd = 0 → 0 ≤ v → v ≤ mostF f → mcount (codeF f v) = 1
  pairs : ∀ v : Int, f.kd = 2 → 0 ≤ v → v ≤ mostF f → mcount (codeF f v) = 2 * f.sz
  odd : ∀ v : Int, f.kd = 3 → 0 ≤ v → v ≤ mostF f → mcount (codeF f v) % 2 = 1
theorem code_law {f : Fld} (hf : fldB f = true) (hs : shapeB f.kd f.sz = true) : CodeLaw f := by
  obtain ⟨_, k0, k3, s0, z1, zm, h96⟩ := fldB_parts hf
  have hn := manyF_bd f.kd f.sz z1 (by unfold mostSz at zm; split at zm <;> (try split at zm) <;> omega)
  have hg := shape_good hs
  unfold goodTab at hg
  rw [Bool.and_eq_true, List.all_eq_true] at hg
  have hm0 : mostF ⟨⟨#[]⟩, f.kd, 0, f.sz⟩ = mostF f := rfl
  have hlen : (codesT f.kd f.sz).length = (mostF f + 1).toNat := by unfold codesT; rw [List.length_map, List.length_range, hm0]
  have hat : ∀ v : Nat, (v : Int) ≤ mostF f → ∃ h : v < (codesT f.kd f.sz).length, (codesT f.kd f.sz)[v] = (codeF ⟨⟨#[]⟩, f.kd, 0, f.sz⟩ (v : Int)).toNat := by
    intro v hv
    refine ⟨by omega, ?_⟩
    unfold codesT
    rw [List.getElem_map, List.getElem_range]
  have hfact : ∀ v : Nat, (v : Int) ≤ mostF f → (codeF ⟨⟨#[]⟩, f.kd, 0, f.sz⟩ (v : Int)).toNat ≠ 0 ∧ (codeF ⟨⟨#[]⟩, f.kd, 0, f.sz⟩ (v : Int)).toNat < 2 ^ (manyF f.kd f.sz).toNat ∧ weightB f.kd f.sz (codeF ⟨⟨#[]⟩, f.kd, 0, f.sz⟩ (v : Int)).toNat = true := by
    intro v hv
    obtain ⟨h1, h2⟩ := hat v hv
    have h3 := hg.2 _ (List.getElem_mem h1)
    rw [h2, Bool.and_eq_true, Bool.and_eq_true, Bool.not_eq_true'] at h3
    refine ⟨fun h => ?_, ?_, h3.2.2⟩
    · have := h3.1; rw [h] at this; simp at this
    · exact Nat.le_of_ble_eq_true h3.2.1
  have hfit : f.st.toNat + (manyF f.kd f.sz).toNat ≤ 96 := by omega
  have hcnt : ∀ v : Nat, (v : Int) ≤ mostF f → mcount (codeF f v) = (pcf 128 (codeF ⟨⟨#[]⟩, f.kd, 0, f.sz⟩ (v : Int)).toNat : Nat) := by
    intro v hv
    rw [code_shl hf v (by omega), mcount_shl (hfact v hv).2.1 (by omega), mcount_pcf]
  have h16 : shapeB f.kd f.sz = true → (manyF f.kd f.sz).toNat ≤ 16 := by
    intro h
    unfold shapeB at h
    simp only [Bool.and_eq_true, Bool.or_eq_true, decide_eq_true_eq] at h
    obtain ⟨h1, ((⟨h0, h2⟩ | ⟨h0, h2⟩) | ⟨h0, h2⟩) | ⟨h0, h2⟩⟩ := h <;> rw [h0]
    · rw [manyF0 _ (by decide) (by decide) (by decide)]; omega
    · rw [manyF1]; omega
    · rw [manyF2]; omega
    · rw [manyF3]; omega
  have hp16 : ∀ v : Nat, (v : Int) ≤ mostF f → pcf 128 (codeF ⟨⟨#[]⟩, f.kd, 0, f.sz⟩ (v : Int)).toNat = pcf 16 (codeF ⟨⟨#[]⟩, f.kd, 0, f.sz⟩ (v : Int)).toNat :=
    fun v hv => pcf_fit (by omega) (Nat.lt_of_lt_of_le (hfact v hv).2.1 (Nat.pow_le_pow_right (by decide) (h16 hs)))
  constructor
  · intro v w v0 v1 w0 w1 e
    obtain ⟨a, rfl⟩ := Int.eq_ofNat_of_zero_le v0
    obtain ⟨b, rfl⟩ := Int.eq_ofNat_of_zero_le w0
    rw [code_shl hf a (by omega), code_shl hf b (by omega)] at e
    have e2 := congrArg BitVec.toNat e
    rw [shl_nat (hfact a v1).2.1 (by omega), shl_nat (hfact b w1).2.1 (by omega)] at e2
    have e3 := Nat.eq_of_mul_eq_mul_right (Nat.two_pow_pos _) e2
    obtain ⟨h1, h2⟩ := hat a v1
    obtain ⟨h3, h4⟩ := hat b w1
    have := noneTwice_at _ hg.1 a b h1 h3 (by rw [h2, h4]; exact e3)
    omega
  · intro v v0 v1 e
    obtain ⟨a, rfl⟩ := Int.eq_ofNat_of_zero_le v0
    rw [code_shl hf a (by omega)] at e
    have e2 := congrArg BitVec.toNat e
    rw [shl_nat (hfact a v1).2.1 (by omega)] at e2
    have h0 : (0 : Mask).toNat = 0 := rfl
    rw [h0] at e2
    rcases Nat.mul_eq_zero.1 e2 with h | h
    · exact (hfact a v1).1 h
    · have := Nat.two_pow_pos f.st.toNat; omega
  · intro v v0 v1 i hi
    obtain ⟨a, rfl⟩ := Int.eq_ofNat_of_zero_le v0
    rw [part_has hf, decide_eq_true_eq]
    rw [code_shl hf a (by omega)] at hi
    have h2 := (hfact a v1).2.1
    generalize codeF ⟨⟨#[]⟩, f.kd, 0, f.sz⟩ (a : Int) = c at hi h2
    unfold mhas at hi
    rw [Int.toNat_natCast, BitVec.getLsbD_shiftLeft] at hi
    simp only [Bool.and_eq_true, Bool.not_eq_true', decide_eq_true_eq, decide_eq_false_iff_not] at hi
    obtain ⟨⟨g1, g2⟩, g3⟩ := hi
    have g4 : i - f.st.toNat < (manyF f.kd f.sz).toNat := by
      rcases Nat.lt_or_ge (i - f.st.toNat) (manyF f.kd f.sz).toNat with h | h
      · exact h
      · exfalso
        have h5 : c.toNat.testBit (i - f.st.toNat) = true := g3
        rw [Nat.testBit_lt_two_pow (Nat.lt_of_lt_of_le h2 (Nat.pow_le_pow_right (by decide) h))] at h5
        cases h5
    omega
  · intro v h0 v0 v1
    obtain ⟨a, rfl⟩ := Int.eq_ofNat_of_zero_le v0
    have h := (hfact a v1).2.2
    rw [hcnt a v1, hp16 a v1]
    unfold weightB at h
    rw [h0] at h ⊢
    simp at h
    rw [h]; rfl
  · intro v h0 v0 v1
    obtain ⟨a, rfl⟩ := Int.eq_ofNat_of_zero_le v0
    have h := (hfact a v1).2.2
    rw [hcnt a v1, hp16 a v1]
    unfold weightB at h
    rw [h0] at h ⊢
    simp at h
    rw [h]; omega
  · intro v h0 v0 v1
    obtain ⟨a, rfl⟩ := Int.eq_ofNat_of_zero_le v0
    have h := (hfact a v1).2.2
    rw [hcnt a v1, hp16 a v1]
    unfold weightB at h
    rw [h0] at h ⊢
    simp at h
    omega
end Go.Proofs.YtdlpifgkponnmaaDoor
set_option linter.unusedVariables false
set_option linter.unusedSimpArgs false
set_option maxRecDepth 100000
namespace Go.Proofs.YtdlpifgkponnmaaDoor
open Go.RowKit
theorem part_count {f : Fld} (hf : fldB f = true) : mcount (partF f) = manyF f.kd f.sz := by
  obtain ⟨_, k0, k3, s0, z1, zm, h96⟩ := fldB_parts hf
  have hn := manyF_bd f.kd f.sz z1 (by unfold mostSz at zm; split at zm <;> (try split at zm) <;> omega)
  obtain ⟨t, ht⟩ := Int.eq_ofNat_of_zero_le s0
  obtain ⟨n, hm⟩ := Int.eq_ofNat_of_zero_le (show 0 ≤ manyF f.kd f.sz by omega)
  rw [mcount_cnt, cnt_congr (q := fun i => decide (t ≤ i ∧ i < t + n)) (fun i _ => by rw [part_has hf, ht, hm, decide_eq_decide]; omega), cnt_range t n 128 (by omega), hm]
theorem part_mask {f : Fld} (hf : fldB f = true) : isMaskB (partF f) = true := by
  obtain ⟨_, k0, k3, s0, z1, zm, h96⟩ := fldB_parts hf
  unfold isMaskB
  rw [decide_eq_true_eq]
  show (partF f).toNat < 2 ^ 96
  refine low_nat fun i h => ?_
  rw [part_has hf, decide_eq_true_eq] at h
  omega
theorem code_mask {f : Fld} (hf : fldB f = true) (hL : CodeLaw f) {v : Int} (v0 : 0 ≤ v) (v1 : v ≤ mostF f) : isMaskB (codeF f v) = true := by
  unfold isMaskB
  rw [decide_eq_true_eq]
  show (codeF f v).toNat < 2 ^ 96
  refine low_nat fun i h => ?_
  have := hL.part v v0 v1 i h
  rcases Nat.lt_or_ge i 96 with h2 | h2
  · exact h2
  · rw [mask_high (part_mask hf) i h2] at this; cases this
theorem code_within {f : Fld} (hL : CodeLaw f) {v : Int} (v0 : 0 ≤ v) (v1 : v ≤ mostF f) : mless (codeF f v) (partF f) = 0 := mask_ext fun i hi => by
  rw [mhas_less _ _ _ hi]
  have := hL.part v v0 v1 i
  cases h : mhas (codeF f v) i with
  | false => simp [mhas]
  | true => rw [this h]; simp [mhas]
theorem code_meet {f : Fld} (hL : CodeLaw f) {v : Int} (v0 : 0 ≤ v) (v1 : v ≤ mostF f) : mmeet (codeF f v) (partF f) = codeF f v := mask_ext fun i hi => by
  rw [mhas_and]
  have := hL.part v v0 v1 i
  cases h : mhas (codeF f v) i with
  | false => rfl
  | true => rw [this h]; rfl
/-- The value of a mask of which a field has a value's code. -/
theorem value_code {f : Fld} (hL : CodeLaw f) {v : Int} (v0 : 0 ≤ v) (v1 : v ≤ mostF f) {m : Mask} (h : mmeet m (partF f) = codeF f v) : valueF f m = (v, 0) := by
  obtain ⟨k, rfl⟩ := Int.eq_ofNat_of_zero_le v0
  have hno : ∀ n : Nat, n ≤ k → valAt f (mmeet m (partF f)) n = none := by
    intro n
    induction n with
    | zero => intro _; rfl
    | succ n ih =>
      intro hn
      refine valAt_miss (ih (by omega)) fun e => ?_
      rw [h] at e
      have := hL.inj n k (by omega) (by omega) (by omega) v1 e
      omega
  exact valueF_hit (by rw [h]; exact hL.ne k v0 v1) (hno k (Nat.le_refl _)) h.symm v1
/-- .. and the other way round. -/
theorem value_back {f : Fld} {m : Mask} {n : Int} (h : valueF f m = (n, 0)) : 0 ≤ n ∧ n ≤ mostF f ∧ codeF f n = mmeet m (partF f) := by
  unfold valueF at h
  split at h
  · simp at h
  · have key : ∀ (k : Nat) (x : Int), valAt f (mmeet m (partF f)) k = some x → 0 ≤ x ∧ x < k ∧ codeF f x = mmeet m (partF f) := by
      intro k
      induction k with
      | zero => intro x hx; cases hx
      | succ k ih =>
        intro x hx
        rw [valAt] at hx
        cases h1 : valAt f (mmeet m (partF f)) k with
        | some y =>
          rw [h1, Option.some_or, Option.some.injEq] at hx
          subst hx
          obtain ⟨g1, g2, g3⟩ := ih y h1
          exact ⟨g1, by omega, g3⟩
        | none =>
          rw [h1, Option.none_or] at hx
          split at hx
          · rename_i h2
            rw [Option.some.injEq] at hx
            subst hx
            exact ⟨by omega, by omega, h2⟩
          · cases hx
    split at h
    · rename_i v hv
      obtain ⟨g1, g2, g3⟩ := key _ _ hv
      simp only [Prod.mk.injEq, and_true] at h
      subst h
      exact ⟨g1, by omega, g3⟩
    · simp at h
/-- What PutField puts into a mask. -/
def putM (f : Fld) (v : Int) (m : Mask) : Mask := mjoin (mless m (partF f)) (codeF f v)
theorem put_meet {f : Fld} (hL : CodeLaw f) {v : Int} (v0 : 0 ≤ v) (v1 : v ≤ mostF f) (m : Mask) : mmeet (putM f v m) (partF f) = codeF f v := mask_ext fun i hi => by
  unfold putM
  rw [mhas_and, mhas_or, mhas_less _ _ _ hi]
  have := hL.part v v0 v1 i
  cases h : mhas (codeF f v) i with
  | false => cases mhas m i <;> cases mhas (partF f) i <;> rfl
  | true => rw [this h]; cases mhas m i <;> rfl
theorem put_less {f : Fld} (hL : CodeLaw f) {v : Int} (v0 : 0 ≤ v) (v1 : v ≤ mostF f) (m : Mask) : mless (putM f v m) (partF f) = mless m (partF f) := mask_ext fun i hi => by
  unfold putM
  rw [mhas_less _ _ _ hi, mhas_or, mhas_less _ _ _ hi]
  have := hL.part v v0 v1 i
  cases h : mhas (codeF f v) i with
  | false => cases mhas m i <;> cases mhas (partF f) i <;> rfl
  | true => rw [this h]; cases mhas m i <;> rfl
theorem put_mask {f : Fld} (hf : fldB f = true) (hL : CodeLaw f) {v : Int} (v0 : 0 ≤ v) (v1 : v ≤ mostF f) {m : Mask} (hm : isMaskB m = true) : isMaskB (putM f v m) = true := sm_joinV (sm_less hm) (code_mask hf hL v0 v1)
theorem less_none (m p : Mask) : mmeet (mless m p) p = 0 := mask_ext fun i hi => by
  rw [mhas_and, mhas_less _ _ _ hi]
  cases mhas m i <;> cases mhas p i <;> simp [mhas]
/-- Codes of different values lie apart. -/
theorem code_far {f : Fld} (hf : fldB f = true) (hL : CodeLaw f) {v w : Int} (v0 : 0 ≤ v) (v1 : v ≤ mostF f) (w0 : 0 ≤ w) (w1 : w ≤ mostF f) (hne : v ≠ w) : (leastF f).1 ≤ distM (codeF f v) (codeF f w) := by
  obtain ⟨_, k0, k3, s0, z1, zm, h96⟩ := fldB_parts hf
  have h1 : distM (codeF f v) (codeF f w) ≠ 0 := fun h => hne (hL.inj v w v0 v1 w0 w1 (distM_zero.1 h))
  have h2 := distM_ge (codeF f v) (codeF f w)
  unfold leastF
  rw [if_pos hf]
  split
  · show (1 : Int) ≤ _; omega
  · rename_i hk
    split
    · show (0 : Int) ≤ _; omega
    · show (2 : Int) ≤ _
      have h3 : mcount (codeF f v) % 2 = mcount (codeF f w) % 2 := by
        rcases (show f.kd = 0 ∨ f.kd = 2 ∨ f.kd = 3 by omega) with h | h | h
        · rw [hL.one v h v0 v1, hL.one w h w0 w1]
        · rw [hL.pairs v h v0 v1, hL.pairs w h w0 w1]
        · rw [hL.odd v h v0 v1, hL.odd w h w0 w1]
      have := distM_even h3
      omega
theorem code_not_within {f : Fld} (hL : CodeLaw f) {v w : Int} (hk : f.kd = 0 ∨ f.kd = 2) (v0 : 0 ≤ v) (v1 : v ≤ mostF f) (w0 : 0 ≤ w) (w1 : w ≤ mostF f) (hne : v ≠ w) : mless (codeF f v) (codeF f w) ≠ 0 := by
  intro h
  refine hne (hL.inj v w v0 v1 w0 w1 (within_same ?_ h))
  rcases hk with h | h
  · rw [hL.one v h v0 v1, hL.one w h w0 w1]
  · rw [hL.pairs v h v0 v1, hL.pairs w h w0 w1]
end Go.Proofs.YtdlpifgkponnmaaDoor
set_option linter.unusedVariables false
set_option linter.unusedSimpArgs false
set_option maxRecDepth 100000
namespace Go.Proofs.YtdlpifgkponnmaaDoor
open Go.RowKit
theorem laws_a2Long (cs ds : List UInt8) (A B : Option Addr) (cap cap' : Nat) (w : World) :
    Calls Tryd.prog 20 #[.slice A cs.length cap, .slice B ds.length cap'] w fun e w' => e = .returned (.bool (decide (3000 < cs.length ∨ 3000 < ds.length))) ∧ Ext w w' := by
  by_cases h : 3000 < cs.length
  · have h' : (3000 : Int) < (cs.length : Int) := by omega
    rw [decide_eq_true (.inl h)]
    go_enter Tryd.func20, Tryd.ntmps20
    go_wp2
    go_ret
    exact ⟨by simp [h'], Ext.refl _⟩
  · have h' : ((3000 : Int) < (cs.length : Int)) = False := eq_false (by omega)
    by_cases g : 3000 < ds.length
    · have g' : (3000 : Int) < (ds.length : Int) := by omega
      rw [decide_eq_true (.inr g)]
      go_enter Tryd.func20, Tryd.ntmps20
      go_wp2
      go_ret
      exact ⟨by simp [h', g'], Ext.refl _⟩
    · have g' : ((3000 : Int) < (ds.length : Int)) = False := eq_false (by omega)
      rw [decide_eq_false (by omega)]
      go_enter Tryd.func20, Tryd.ntmps20
      go_wp2
      go_ret
      exact ⟨by simp [h', g'], Ext.refl _⟩
theorem laws_a2At (cs : List UInt8) (A : Option Addr) (cap : Nat) (k : Nat) (n : Int) (n1 : 1 ≤ n) (n2 : n < 9223372036854775808) (w : World) (hR : Rd encU8 w A cs) :
    Calls Tryd.prog 23 #[.slice A cs.length cap, .int .i64 k, .int .i64 n] w fun e w' => ∃ r : Int, e = .returned (.int .i64 r) ∧ 0 ≤ r ∧ r < n ∧ Ext w w' := by
  have i2 : (n < 1) = False := eq_false (by omega)
  by_cases h : k < cs.length
  · obtain ⟨bA, oA, hA, hltA, _⟩ := hR k h
    subst hA
    have m0 := hR.u8 k h
    have hr := cs[k].toNat_lt
    generalize cs[k].toNat = r at m0 hr
    have i1 : ((cs.length : Int) ≤ k) = False := eq_false (by omega)
    have i3 : (k : Int) < cs.length := by omega
    have hwr : IntKind.i64.wrap (r : Int) = (r : Int) := IntWalk.i64_in _ (by omega)
    have e3 : (n == 0) = false := beq_eq_false_iff_ne.2 (by omega)
    have e5 := Int.emod_nonneg (r : Int) (show n ≠ 0 by omega)
    have e6 := Int.emod_lt_of_pos (r : Int) (show 0 < n by omega)
    have e4 : IntKind.i64.wrap ((r : Int).tmod n) = (r : Int).tmod n := by
      rw [Int.tmod_eq_emod_of_nonneg (by omega)]
      exact IntWalk.i64_in _ (by omega)
    go_enter Tryd.func23, Tryd.ntmps23
    go_wp2
    go_ret
    exact ⟨_, rfl, e5, e6, Ext.refl _⟩
  · have i1 : (cs.length : Int) ≤ k := by omega
    go_enter Tryd.func23, Tryd.ntmps23
    go_wp2
    go_ret
    exact ⟨0, rfl, Int.le_refl _, by omega, Ext.refl _⟩
end Go.Proofs.YtdlpifgkponnmaaDoor
set_option linter.unusedVariables false
set_option linter.unusedSimpArgs false
set_option maxRecDepth 100000
namespace Go.Proofs.YtdlpifgkponnmaaDoor
open Go.RowKit
theorem mof_eq {a b : Int} (h0 : 0 ≤ a) (h1 : a < 18446744073709551616) (h2 : 0 ≤ b) (h3 : b < 18446744073709551616) : ∃ m : Mask, lo m = a ∧ hi m = b := ⟨mof a b, lo_mof h0 h1 h2 h3, hi_mof h0 h1 h2 h3⟩
theorem or_range {a b : Int} (h0 : 0 ≤ a) (h1 : a < 18446744073709551616) (h2 : 0 ≤ b) (h3 : b < 18446744073709551616) : 0 ≤ bits .or .u64 a b ∧ bits .or .u64 a b < 18446744073709551616 := by
  obtain ⟨x, rfl⟩ := Int.eq_ofNat_of_zero_le h0
  obtain ⟨y, rfl⟩ := Int.eq_ofNat_of_zero_le h2
  rw [u64_or_nat _ _ (by omega) (by omega)]
  have := Nat.or_lt_two_pow (n := 64) (x := x) (y := y) (by omega) (by omega)
  omega
theorem hi_small {m : Mask} (h : hi m < 4294967296) : isMaskB m = true := by
  unfold isMaskB hi at *
  rw [decide_eq_true_eq]
  omega
end Go.Proofs.YtdlpifgkponnmaaDoor
set_option linter.unusedVariables false
set_option linter.unusedSimpArgs false
set_option maxRecDepth 100000
namespace Go.Proofs.YtdlpifgkponnmaaDoor
open Go.RowKit
/-- The texts of which names of drawn fields and cards are taken. -/
def nmsL : List ByteArray := [⟨#[97, 110, 116]⟩, ⟨#[98, 101, 101]⟩, ⟨#[99, 111, 119]⟩, ⟨#[100, 111, 103]⟩, ⟨#[101, 101, 108]⟩, ⟨#[102, 111, 120]⟩, ⟨#[103, 110, 117]⟩, ⟨#[104, 101, 110]⟩, ⟨#[105, 98, 105, 115]⟩, ⟨#[106, 97, 121]⟩, ⟨#[107, 105, 116, 101]⟩, ⟨#[108, 97, 114, 107]⟩]
theorem nms_len : nmsL.length = 12 := rfl
theorem nms_good : nmsL.all isNameB = true := by decide +kernel
theorem nms_at (k : Nat) (h : k < 12) : isNameB nmsL[k]! = true := by
  rw [getElem!_pos nmsL k (by rw [nms_len]; omega)]
  exact List.all_eq_true.1 nms_good _ (List.getElem_mem _)
theorem nm_small {s : ByteArray} (h : isNameB s = true) : s.size ≤ 9223372036854775807 := by
  unfold isNameB at h
  simp only [Bool.and_eq_true, decide_eq_true_eq] at h
  omega
/-- A field as it is drawn. -/
def DrawnF (f : Fld) : Prop := fldB f = true ∧ shapeB f.kd f.sz = true
theorem shape_wide {kd sz : Int} (h : shapeB kd sz = true) : (kd = 0 ∨ kd = 1 ∨ kd = 2 ∨ kd = 3) ∧ 1 ≤ sz ∧ sz ≤ mostSz kd ∧ sz ≤ 12 ∧ 1 ≤ manyF kd sz ∧ manyF kd sz ≤ 12 := by
  unfold shapeB at h
  simp only [Bool.and_eq_true, Bool.or_eq_true, decide_eq_true_eq] at h
  obtain ⟨h1, ((⟨rfl, h2⟩ | ⟨rfl, h2⟩) | ⟨rfl, h2⟩) | ⟨rfl, h2⟩⟩ := h
  · rw [manyF0 _ (by decide) (by decide) (by decide)]; unfold mostSz; rw [if_pos rfl]; omega
  · rw [manyF1]; unfold mostSz; rw [if_neg (by decide), if_neg (by decide)]; omega
  · rw [manyF2]; unfold mostSz; rw [if_neg (by decide), if_neg (by decide)]; omega
  · rw [manyF3]; unfold mostSz; rw [if_neg (by decide), if_pos rfl]; omega
theorem drawn_fld {nm : ByteArray} {kd st sz : Int} (hn : isNameB nm = true) (hs : shapeB kd sz = true) (s0 : 0 ≤ st) (s1 : st + manyF kd sz ≤ 96) : DrawnF ⟨nm, kd, st, sz⟩ := by
  obtain ⟨hk, h1, h2, _, _, _⟩ := shape_wide hs
  exact ⟨fldB_true hn (by show 0 ≤ kd; omega) (by show kd ≤ 3; omega) s0 h1 h2 s1, hs⟩
theorem shape_of {kd r : Int} (k0 : 0 ≤ kd) (k3 : kd ≤ 3) (r0 : 1 ≤ r) (h0 : kd = 0 → r ≤ 12) (h1 : kd = 1 → r ≤ 2) (h2 : kd = 2 → r ≤ 2) (h3 : kd = 3 → r ≤ 6) : shapeB kd r = true := by
  unfold shapeB
  simp only [Bool.and_eq_true, Bool.or_eq_true, decide_eq_true_eq]
  omega
/-- A scheme as it is drawn. -/
def DrawnS (xs : List Fld) : Prop := ∀ f ∈ xs, DrawnF f
theorem drawn_in {f : Fld} (h : DrawnF f) : FldIn f := by
  obtain ⟨h1, k0, k3, s0, z0, z1, z2⟩ := fldB_parts h.1
  obtain ⟨hk, h2, h3, h4, h5, h6⟩ := shape_wide h.2
  refine ⟨⟨⟨?_, ?_⟩, ⟨?_, ?_⟩, ?_, ?_⟩, nm_small h1⟩ <;> omega
theorem spec_l01Names (w : World) :
    Calls Tryd.prog 76 #[] w fun e w' => ∃ b, e = .returned (.slice (some ⟨b, 0, none⟩) 12 12) ∧ Rd encStr w' (some ⟨b, 0, none⟩) nmsL ∧ w.heap.size ≤ b ∧ b < w'.heap.size ∧ Ext w w' := by
  go_enter Tryd.func76, Tryd.ntmps76
  go_wp2
  go_ret
  exact ⟨_, rfl, Rd.lit encStr _ nmsL _ _ (by decide) rfl, Nat.le_refl _, by simp, (Ext.refl _).alloc _⟩
set_option maxHeartbeats 1000000 in
theorem spec_l01Sized (base b n : Nat) (kd : Int) (k0 : 0 ≤ kd) (k3 : kd ≤ 3) (w : World) (hS : Src w base b n) (hn : n + 2 ≤ 1099511627776) :
    Calls Tryd.prog 77 #[.pointer (some ⟨b, 0, none⟩), .int .i8 kd] w fun e w' => ∃ sz : Int, e = .returned (.int .i16 sz) ∧ shapeB kd sz = true ∧ Src w' base b (n + 2) ∧ Win b (b + 1) w w' := by
  rcases (show kd = 0 ∨ kd = 1 ∨ kd = 2 ∨ kd = 3 by omega) with rfl | rfl | rfl | rfl
  · go_enter Tryd.func77, Tryd.ntmps77
    go_wp2_with fail
    refine Calls.mono (src_pick base b n 8 (by omega) _ hS hn) ?_
    rintro e w1 ⟨r, rfl, r0, r1, hS1, hW1⟩
    have e1 : IntKind.i64.wrap (1 + r) = 1 + r := IntWalk.i64_in _ (by omega)
    have e2 : IntKind.i16.wrap (1 + r) = 1 + r := IntWalk.i16_in _ (by omega)
    have hsh : shapeB 0 (1 + r) = true := shape_of (by omega) (by omega) (by omega) (by omega) (by omega) (by omega) (by omega)
    go_wp2
    go_ret
    exact ⟨1 + r, rfl, hsh, hS1, hW1⟩
  · go_enter Tryd.func77, Tryd.ntmps77
    go_wp2_with fail
    refine Calls.mono (src_pick base b n 2 (by omega) _ hS hn) ?_
    rintro e w1 ⟨r, rfl, r0, r1, hS1, hW1⟩
    have e1 : IntKind.i64.wrap (1 + r) = 1 + r := IntWalk.i64_in _ (by omega)
    have e2 : IntKind.i16.wrap (1 + r) = 1 + r := IntWalk.i16_in _ (by omega)
    have hsh : shapeB 1 (1 + r) = true := shape_of (by omega) (by omega) (by omega) (by omega) (by omega) (by omega) (by omega)
    go_wp2
    go_ret
    exact ⟨1 + r, rfl, hsh, hS1, hW1⟩
  · go_enter Tryd.func77, Tryd.ntmps77
    go_wp2_with fail
    refine Calls.mono (src_pick base b n 2 (by omega) _ hS hn) ?_
    rintro e w1 ⟨r, rfl, r0, r1, hS1, hW1⟩
    have e1 : IntKind.i64.wrap (1 + r) = 1 + r := IntWalk.i64_in _ (by omega)
    have e2 : IntKind.i16.wrap (1 + r) = 1 + r := IntWalk.i16_in _ (by omega)
    have hsh : shapeB 2 (1 + r) = true := shape_of (by omega) (by omega) (by omega) (by omega) (by omega) (by omega) (by omega)
    go_wp2
    go_ret
    exact ⟨1 + r, rfl, hsh, hS1, hW1⟩
  · go_enter Tryd.func77, Tryd.ntmps77
    go_wp2_with fail
    refine Calls.mono (src_pick base b n 6 (by omega) _ hS hn) ?_
    rintro e w1 ⟨r, rfl, r0, r1, hS1, hW1⟩
    have e1 : IntKind.i64.wrap (1 + r) = 1 + r := IntWalk.i64_in _ (by omega)
    have e2 : IntKind.i16.wrap (1 + r) = 1 + r := IntWalk.i16_in _ (by omega)
    have hsh : shapeB 3 (1 + r) = true := shape_of (by omega) (by omega) (by omega) (by omega) (by omega) (by omega) (by omega)
    go_wp2
    go_ret
    exact ⟨1 + r, rfl, hsh, hS1, hW1⟩
theorem info_Fld : (Tryd.prog.info? 33).map (fun i => (i.zero, i.size, i.bytes)) = some (some (.agg #[.string ⟨#[]⟩, .int .i8 0, .int .i16 0, .int .i16 0]), encFld.sz, 24) := by kernel_rfl
set_option maxHeartbeats 4000000 in
theorem spec_l01Drawn (base b n : Nat) (w : World) (hS : Src w base b n) (hn : n + 60 ≤ 1099511627776) :
    Calls Tryd.prog 46 #[.pointer (some ⟨b, 0, none⟩)] w fun e w' => ∃ xs v, e = .returned v ∧ Ow encFld 33 w' w.heap.size v xs ∧ DrawnS xs ∧ 1 ≤ xs.length ∧ xs.length ≤ 5 ∧ Src w' base b (n + 60) ∧ Win b (b + 1) w w' := by
  have lS := hS.lt
  have hbs := hS.base
  go_enter Tryd.func46, Tryd.ntmps46
  have hE1 := (Ext.refl w).alloc (.cells #[] 33)
  have hO1 : Ow encFld 33 (w.alloc (.cells #[] 33)) w.heap.size (.slice (some ⟨w.heap.size, 0, none⟩) 0 0) [] := Ow.made0 (T := 33) (W := w) rfl (Nat.le_refl _)
  go_wp2_with fail
  refine Calls.mono (src_pick base b n 6 (by omega) _ (hS.ext hE1) (by omega)) ?_
  rintro e w1 ⟨s, rfl, s0, s1, hS1, hW1⟩
  have hO1 := hO1.win hW1 (fun b' h => .inr (by have := (hO1.lt b' h).1; omega))
  have hw1 := (Win.of (lo := b) (hi := b + 1) hE1).trans hW1
  clear hS hE1 hW1
  go_wp2_with fail
  refine Calls.mono (spec_l01Names _) ?_
  rintro e w2 ⟨c, rfl, hN, hc0, hc1, hb2⟩
  have hc0 := Nat.lt_of_lt_of_le (hO1.lt w.heap.size rfl).2 hc0
  have hO2 := hO1.ext hb2
  have hS2 := hS1.ext hb2
  have hw2 := hw1.ext hb2
  clear hO1 hS1 hw1 hb2
  go_wp2_with fail
  refine Calls.mono (src_pick base b _ 5 (by omega) _ hS2 (by omega)) ?_
  rintro e w3 ⟨k0, rfl, k00, k01, hS3, hW3⟩
  have hO3 := hO2.win hW3 (fun b' h => .inr (by have := (hO2.lt b' h).1; omega))
  have hN3 := hN.win hW3 (fun p hp => by cases hp; exact .inr (by show b + 1 ≤ c; omega))
  have hw3 := hw2.trans hW3
  have hc3 := Nat.lt_of_lt_of_le hc1 hW3.size
  clear hO2 hN hS2 hw2 hW3 hc1
  obtain ⟨k0, rfl⟩ := Int.eq_ofNat_of_zero_le k00
  have j1 : IntKind.i64.wrap (1 + (k0 : Int)) = ((k0 + 1 : Nat) : Int) := (IntWalk.i64_in _ (by omega)).trans (by omega)
  go_wp2
  go_loopg [3, 4, 6] (k0 + 1) (fun g v sv kv wr => ∃ k : Nat, ∃ st : Int, ∃ xs : List Fld, g = k ∧ sv = .int .i64 st ∧ kv = .int .i64 k ∧ 0 ≤ st ∧ st ≤ 99 ∧ Hd (xs.length = 0 → st ≤ 5) ∧ Hd (xs.length + k = k0 + 1) ∧ DrawnS xs ∧ Ow encFld 33 wr w.heap.size v xs ∧ (∀ b', v.ownBlock = some b' → b' ≠ c) ∧ Rd encStr wr (some ⟨c, 0, none⟩) nmsL ∧ c < wr.heap.size ∧ Src wr base b (n + 60 - 6 * k) ∧ Win b (b + 1) w wr)
  case atStart => exact ⟨k0 + 1, s, [], rfl, rfl, rfl, s0, by omega, hd (fun _ => by omega), hd (by simp), (fun f hf => by cases hf), hO3, fun b' h => by cases h; show w.heap.size ≠ c; omega, hN3, hc3, hS3.up (by omega) (by omega), hw3⟩
  case round =>
    obtain ⟨k, st, xs, hg, rfl, rfl, t0, t1, ht, hlen, hD, hO, hcn, hN, hcl, hSr, hw⟩ := hrel
    clear hS3 hO3 hN3 hw3 hc3 k00
    cases k with
    | zero =>
      go_wp2
      go_ret
      exact ⟨xs, _, rfl, hO, hD, by have := hlen.out; omega, by have := hlen.out; omega, hSr, hw⟩
    | succ k =>
      have hlen2 := hlen.out
      have hx5 : xs.length < 5 := by omega
      have i1 : ((0 : Int) < (k + 1 : Nat)) = True := eq_true (by omega)
      rw [show ((k + 1 : Nat) : Int) = (k : Int) + 1 from rfl] at *
      have hnm := nms_at xs.length (by omega)
      have hget := getElem!_pos nmsL xs.length (by rw [nms_len]; omega)
      have hsn : ∀ W, Rd encStr W (some ⟨c, 0, none⟩) nmsL → W.cell? ⟨c, xs.length, none⟩ = some (.string nmsL[xs.length]!) := fun W h => by
        have := h.str xs.length (by rw [nms_len]; omega)
        rw [Nat.zero_add] at this
        rw [hget]; exact this
      clear hget
      generalize nmsL[xs.length]! = nm at hnm hsn
      have i2 : (xs.length : Int) < 12 := by omega
      have lw := hw.size
      have hob := fun b' h => (hO.lt b' h)
      have w16 : IntKind.i16.wrap st = st := IntWalk.i16_in _ (by omega)
      obtain ⟨A, cap, rfl, hle, hR⟩ := hO.slice
      clear hlen2 hle hR
      go_wp2
      refine wp_region_held (S := fun W => W.cell? ⟨c, xs.length, none⟩ = some (.string nm) ∧ True) (by kernel_rfl) ?_
      change wpAnyH _ _ _ _ _ _ _ _ (World.drew _)
      refine intro_world (fun WD hWD => ?_)
      have eD : Ext wr WD := by rw [hWD]; exact (Ext.refl _).drew
      clear hWD
      have hND := hN.ext eD
      have hSD := hSr.ext eD
      have hwD := hw.ext eD
      have hOD := hO.ext eD
      have hcD := Nat.lt_of_lt_of_le hcl eD.size
      have lD := eD.size
      clear hN hSr hw hO
      refine wpAnyH_take (i := 0) (v := ?_) rfl (by kernel_rfl) (by kernel_rfl) (by kernel_rfl) (fun _ _ _ h => h) (Or.inl ⟨by rfl, ?_⟩) (⟨hsn _ hND, trivial⟩) ?_
      rotate_left
      · (intro W9 hW9; obtain ⟨z0, z1⟩ := hW9; go_simp; try with_reducible rfl)
      try simp only [Act.put, List.setIfInBounds_toArray, List.set_cons_zero, List.set_cons_succ]
      refine wpAnyH_take (i := 1) (v := ?_) rfl (by kernel_rfl) (by kernel_rfl) (by kernel_rfl) (fun _ _ _ h => h) (Or.inl ⟨by rfl, ?_⟩) (⟨hsn _ hND, trivial⟩) ?_
      rotate_left
      · (intro W9 hW9; obtain ⟨z0, z1⟩ := hW9; go_simp; try with_reducible rfl)
      try simp only [Act.put, List.setIfInBounds_toArray, List.set_cons_zero, List.set_cons_succ]
      refine wpAnyH_take (i := 2) (v := ?_) rfl (by kernel_rfl) (by kernel_rfl) (by kernel_rfl) (fun _ _ _ h => h) (Or.inl ⟨by rfl, ?_⟩) (⟨hsn _ hND, trivial⟩) ?_
      rotate_left
      · (intro W9 hW9; obtain ⟨z0, z1⟩ := hW9; go_simp; try with_reducible rfl)
      try simp only [Act.put, List.setIfInBounds_toArray, List.set_cons_zero, List.set_cons_succ]
      refine wpAnyH_take (i := 3) (v := ?_) rfl (by kernel_rfl) (by kernel_rfl) (by kernel_rfl) (fun _ _ _ h => h) (Or.inl ⟨by rfl, ?_⟩) (⟨hsn _ hND, trivial⟩) ?_
      rotate_left
      · (intro W9 hW9; obtain ⟨z0, z1⟩ := hW9; go_simp; try with_reducible rfl)
      try simp only [Act.put, List.setIfInBounds_toArray, List.set_cons_zero, List.set_cons_succ]
      refine wpAnyH_take (i := 4) (v := ?_) rfl (by kernel_rfl) (by kernel_rfl) (by kernel_rfl) (fun _ _ _ h => h) (Or.inl ⟨by rfl, ?_⟩) (⟨hsn _ hND, trivial⟩) ?_
      rotate_left
      · (intro W9 hW9; obtain ⟨z0, z1⟩ := hW9; go_simp; try with_reducible rfl)
      try simp only [Act.put, List.setIfInBounds_toArray, List.set_cons_zero, List.set_cons_succ]
      refine wpAnyH_take (i := 5) (v := ?_) rfl (by kernel_rfl) (by kernel_rfl) (by kernel_rfl) (fun _ _ _ h => h) (Or.inl ⟨by rfl, ?_⟩) (⟨hsn _ hND, trivial⟩) ?_
      rotate_left
      · (intro W9 hW9; obtain ⟨z0, z1⟩ := hW9; go_simp; try with_reducible rfl)
      try simp only [Act.put, List.setIfInBounds_toArray, List.set_cons_zero, List.set_cons_succ]
      refine wpAnyH_take (i := 8) (v := ?_) rfl (by kernel_rfl) (by kernel_rfl) (by kernel_rfl) (fun _ _ _ h => h) (Or.inl ⟨by rfl, ?_⟩) (⟨hsn _ hND, trivial⟩) ?_
      rotate_left
      · (intro W9 hW9; obtain ⟨z0, z1⟩ := hW9; go_simp; try with_reducible rfl)
      try simp only [Act.put, List.setIfInBounds_toArray, List.set_cons_zero, List.set_cons_succ]
      refine wpAnyH_take (i := 9) (v := ?_) rfl (by kernel_rfl) (by kernel_rfl) (by kernel_rfl) (fun _ _ _ h => h) (Or.inl ⟨by rfl, ?_⟩) (⟨hsn _ hND, trivial⟩) ?_
      rotate_left
      · (intro W9 hW9; obtain ⟨z0, z1⟩ := hW9; go_simp; try with_reducible rfl)
      try simp only [Act.put, List.setIfInBounds_toArray, List.set_cons_zero, List.set_cons_succ]
      apply Conv.convBR (C := fun bx r W => 0 ≤ r ∧ r ≤ 3 ∧ BoxAt W bx #[.string nm, .int .i8 r, .int .i16 st, .int .i16 0] 33 ∧ wr.heap.size ≤ bx ∧ Ow encFld 33 W w.heap.size (.slice A xs.length cap) xs ∧ Rd encStr W (some ⟨c, 0, none⟩) nmsL ∧ c < W.heap.size ∧ Src W base b (n + 60 - 6 * (k + 1) + 2) ∧ Win b (b + 1) w W)
      case h =>
        intro hk
        refine wpAnyH_ready (rs := [6, 11]) (by kernel_rfl) (by simp) ?_
        refine AllReadyH.cons rfl (fun K hK => ?_) (AllReadyH.cons rfl (fun K hK => ?_) (AllReadyH.nil))
        · go_simp
          go_wp2_with fail
          refine Calls.mono (src_pick base b _ 4 (by omega) _ hSD (by omega)) ?_
          rintro e W1 ⟨r, rfl, r0, r1, hS1, hW1⟩
          go_simp
          have hN1 := hND.win hW1 (fun p hp => by cases hp; exact .inr (by show b + 1 ≤ c; omega))
          have hO1 := hOD.win hW1 (fun b' h => .inr (by have := (hob b' h).1; omega))
          have hw1 := hwD.trans hW1
          have l1 := hW1.size
          refine hK.out _ _ ⟨hsn _ hN1, trivial⟩ (fun _ => ?_)
          clear hK K hW1
          have w8 : IntKind.i8.wrap r = r := IntWalk.i8_in _ (by omega)
          refine wpAnyH_take (i := 7) (v := ?_) rfl (by kernel_rfl) (by kernel_rfl) (by kernel_rfl) (fun _ _ _ h => h) (Or.inl ⟨by rfl, ?_⟩) (⟨hsn _ hN1, trivial⟩) ?_
          rotate_left
          · (intro W9 hW9; obtain ⟨z0, z1⟩ := hW9; go_simp; try with_reducible rfl)
          try simp only [Act.put, List.setIfInBounds_toArray, List.set_cons_zero, List.set_cons_succ]
          refine wpAnyH_take (i := 10) (v := ?_) rfl (by kernel_rfl) (by kernel_rfl) (by kernel_rfl) (fun _ _ _ h => h) (Or.inl ⟨by rfl, ?_⟩) (⟨hsn _ hN1, trivial⟩) ?_
          rotate_left
          · (intro W9 hW9; obtain ⟨z0, z1⟩ := hW9; go_simp; try with_reducible rfl)
          try simp only [Act.put, List.setIfInBounds_toArray, List.set_cons_zero, List.set_cons_succ]
          refine wpAnyH_ready (rs := [11]) (by kernel_rfl) (by simp) ?_
          refine AllReadyH.cons rfl (fun K hK => ?_) (AllReadyH.nil)
          go_simp
          refine hK.out _ _ ⟨hsn _ (hN1.ext ((Ext.refl _).alloc _)), trivial⟩ (fun _ => ?_)
          clear hK K
          refine intro_world (fun W2 hW2 => ?_)
          have hX2 : BoxAt W2 W1.heap.size #[.string ⟨#[]⟩, .int .i8 0, .int .i16 0, .int .i16 0] 33 := by rw [hW2]; exact BoxAt.new' rfl
          have e2 : Ext W1 W2 := by rw [hW2]; exact (Ext.refl _).alloc _
          clear hW2
          have hN2 := hN1.ext e2
          have hO2 := hO1.ext e2
          have hw2 := hw1.ext e2
          have hS2 := hS1.ext e2
          have l2 := e2.size
          clear hN1 hO1 hw1 hS1
          have hbx : wr.heap.size ≤ W1.heap.size := by omega
          have hne : (Value.slice A xs.length cap).ownBlock ≠ some W1.heap.size := fun h => by have := (hob _ h).2; omega
          clear e2
          generalize W1.heap.size = bx at hX2 hbx hne l1 l2 ⊢
          have y0 : W2.cell? ⟨bx, 0, none⟩ = some (.string ⟨#[]⟩) := hX2.cell 0
          have y1 : W2.cell? ⟨bx, 1, none⟩ = some (.int .i8 0) := hX2.cell 1
          have y2 : W2.cell? ⟨bx, 2, none⟩ = some (.int .i16 0) := hX2.cell 2
          have y3 : W2.cell? ⟨bx, 3, none⟩ = some (.int .i16 0) := hX2.cell 3
          have f0 := hX2.frozen 0
          have f1 := hX2.frozen 1
          have f2 := hX2.frozen 2
          have f3 := hX2.frozen 3
          have lX := hX2.lt
          have hX3 := (((hX2.set 0 (.string nm)).set 1 (.int .i8 r)).set 2 (.int .i16 st)).set 3 (.int .i16 0)
          have hN3 := hN2.win (lo := bx) (hi := bx + 1) (((((Win.refl _ _ W2).set1 (i := 0) (.string nm)).set1 (i := 1) (.int .i8 r)).set1 (i := 2) (.int .i16 st)).set1 (i := 3) (.int .i16 0)) (fun p hp => by cases hp; exact .inl (by show c < bx; omega))
          have hO3 := (((hO2.far (p := ⟨bx, 0, none⟩) hne (.string nm)).far (p := ⟨bx, 1, none⟩) hne (.int .i8 r)).far (p := ⟨bx, 2, none⟩) hne (.int .i16 st)).far (p := ⟨bx, 3, none⟩) hne (.int .i16 0)
          have hw3 := (((hw2.setOut (p := ⟨bx, 0, none⟩) (show w.heap.size ≤ bx by omega) (.string nm)).setOut (p := ⟨bx, 1, none⟩) (show w.heap.size ≤ bx by omega) (.int .i8 r)).setOut (p := ⟨bx, 2, none⟩) (show w.heap.size ≤ bx by omega) (.int .i16 st)).setOut (p := ⟨bx, 3, none⟩) (show w.heap.size ≤ bx by omega) (.int .i16 0)
          have hS3 := (((hS2.set (p := ⟨bx, 0, none⟩) (show base ≤ bx by omega) (show bx ≠ b by omega) (.string nm)).set (p := ⟨bx, 1, none⟩) (show base ≤ bx by omega) (show bx ≠ b by omega) (.int .i8 r)).set (p := ⟨bx, 2, none⟩) (show base ≤ bx by omega) (show bx ≠ b by omega) (.int .i16 st)).set (p := ⟨bx, 3, none⟩) (show base ≤ bx by omega) (show bx ≠ b by omega) (.int .i16 0)
          refine wpAnyH_ready (rs := [12]) (by kernel_rfl) (by simp) ?_
          refine AllReadyH.cons rfl (fun K hK => ?_) (AllReadyH.nil)
          go_simp
          refine hK.out _ _ ⟨hsn _ hN3, trivial⟩ (fun _ => ?_)
          clear hK K y0 y1 y2 y3 f0 f1 f2 f3 hX2 hN2 hO2 hw2 hS2
          refine wpAnyH_done (by kernel_rfl) ?_ _
          refine intro_world (fun WF hWF => ?_)
          rw [← hWF] at hX3 hN3 hO3 hw3 hS3
          have lF : W2.heap.size ≤ WF.heap.size := by rw [hWF]; simp
          clear hWF
          exact hk bx r WF ⟨r0, by omega, hX3, hbx, hO3, hN3, by omega, hS3, hw3⟩
        · go_simp
          refine hK.out _ _ ⟨hsn _ (hND.ext ((Ext.refl _).alloc _)), trivial⟩ (fun _ => ?_)
          clear hK K
          refine intro_world (fun W1 hW1 => ?_)
          have hX1 : BoxAt W1 WD.heap.size #[.string ⟨#[]⟩, .int .i8 0, .int .i16 0, .int .i16 0] 33 := by rw [hW1]; exact BoxAt.new' rfl
          have e1 : Ext WD W1 := by rw [hW1]; exact (Ext.refl _).alloc _
          clear hW1
          have hN1 := hND.ext e1
          have hO1 := hOD.ext e1
          have hw1 := hwD.ext e1
          have hS1 := hSD.ext e1
          have l1 := e1.size
          have hbx : wr.heap.size ≤ WD.heap.size := by omega
          have hne : (Value.slice A xs.length cap).ownBlock ≠ some WD.heap.size := fun h => by have := (hob _ h).2; omega
          generalize WD.heap.size = bx at hX1 hbx hne l1 hcD ⊢
          refine wpAnyH_ready (rs := [6]) (by kernel_rfl) (by simp) ?_
          refine AllReadyH.cons rfl (fun K hK => ?_) (AllReadyH.nil)
          go_simp
          go_wp2_with fail
          refine Calls.mono (src_pick base b _ 4 (by omega) _ hS1 (by omega)) ?_
          rintro e W2 ⟨r, rfl, r0, r1, hS2, hW2⟩
          go_simp
          have hN2 := hN1.win hW2 (fun p hp => by cases hp; exact .inr (by show b + 1 ≤ c; omega))
          have hO2 := hO1.win hW2 (fun b' h => .inr (by have := (hob b' h).1; omega))
          have hw2 := hw1.trans hW2
          have hX2 := hX1.win hW2 (.inr (by omega))
          have l2 := hW2.size
          refine hK.out _ _ ⟨hsn _ hN2, trivial⟩ (fun _ => ?_)
          clear hK K hW2 hN1 hO1 hw1 hS1 hX1
          have w8 : IntKind.i8.wrap r = r := IntWalk.i8_in _ (by omega)
          refine wpAnyH_take (i := 7) (v := ?_) rfl (by kernel_rfl) (by kernel_rfl) (by kernel_rfl) (fun _ _ _ h => h) (Or.inl ⟨by rfl, ?_⟩) (⟨hsn _ hN2, trivial⟩) ?_
          rotate_left
          · (intro W9 hW9; obtain ⟨z0, z1⟩ := hW9; go_simp; try with_reducible rfl)
          try simp only [Act.put, List.setIfInBounds_toArray, List.set_cons_zero, List.set_cons_succ]
          refine wpAnyH_take (i := 10) (v := ?_) rfl (by kernel_rfl) (by kernel_rfl) (by kernel_rfl) (fun _ _ _ h => h) (Or.inl ⟨by rfl, ?_⟩) (⟨hsn _ hN2, trivial⟩) ?_
          rotate_left
          · (intro W9 hW9; obtain ⟨z0, z1⟩ := hW9; go_simp; try with_reducible rfl)
          try simp only [Act.put, List.setIfInBounds_toArray, List.set_cons_zero, List.set_cons_succ]
          have y0 : W2.cell? ⟨bx, 0, none⟩ = some (.string ⟨#[]⟩) := hX2.cell 0
          have y1 : W2.cell? ⟨bx, 1, none⟩ = some (.int .i8 0) := hX2.cell 1
          have y2 : W2.cell? ⟨bx, 2, none⟩ = some (.int .i16 0) := hX2.cell 2
          have y3 : W2.cell? ⟨bx, 3, none⟩ = some (.int .i16 0) := hX2.cell 3
          have f0 := hX2.frozen 0
          have f1 := hX2.frozen 1
          have f2 := hX2.frozen 2
          have f3 := hX2.frozen 3
          have lX := hX2.lt
          have hX3 := (((hX2.set 0 (.string nm)).set 1 (.int .i8 r)).set 2 (.int .i16 st)).set 3 (.int .i16 0)
          have hN3 := hN2.win (lo := bx) (hi := bx + 1) (((((Win.refl _ _ W2).set1 (i := 0) (.string nm)).set1 (i := 1) (.int .i8 r)).set1 (i := 2) (.int .i16 st)).set1 (i := 3) (.int .i16 0)) (fun p hp => by cases hp; exact .inl (by show c < bx; omega))
          have hO3 := (((hO2.far (p := ⟨bx, 0, none⟩) hne (.string nm)).far (p := ⟨bx, 1, none⟩) hne (.int .i8 r)).far (p := ⟨bx, 2, none⟩) hne (.int .i16 st)).far (p := ⟨bx, 3, none⟩) hne (.int .i16 0)
          have hw3 := (((hw2.setOut (p := ⟨bx, 0, none⟩) (show w.heap.size ≤ bx by omega) (.string nm)).setOut (p := ⟨bx, 1, none⟩) (show w.heap.size ≤ bx by omega) (.int .i8 r)).setOut (p := ⟨bx, 2, none⟩) (show w.heap.size ≤ bx by omega) (.int .i16 st)).setOut (p := ⟨bx, 3, none⟩) (show w.heap.size ≤ bx by omega) (.int .i16 0)
          have hS3 := (((hS2.set (p := ⟨bx, 0, none⟩) (show base ≤ bx by omega) (show bx ≠ b by omega) (.string nm)).set (p := ⟨bx, 1, none⟩) (show base ≤ bx by omega) (show bx ≠ b by omega) (.int .i8 r)).set (p := ⟨bx, 2, none⟩) (show base ≤ bx by omega) (show bx ≠ b by omega) (.int .i16 st)).set (p := ⟨bx, 3, none⟩) (show base ≤ bx by omega) (show bx ≠ b by omega) (.int .i16 0)
          refine wpAnyH_ready (rs := [12]) (by kernel_rfl) (by simp) ?_
          refine AllReadyH.cons rfl (fun K hK => ?_) (AllReadyH.nil)
          go_simp
          refine hK.out _ _ ⟨hsn _ hN3, trivial⟩ (fun _ => ?_)
          clear hK K y0 y1 y2 y3 f0 f1 f2 f3 hX2 hN2 hO2 hw2 hS2
          refine wpAnyH_done (by kernel_rfl) ?_ _
          refine intro_world (fun WF hWF => ?_)
          rw [← hWF] at hX3 hN3 hO3 hw3 hS3
          have lF : W2.heap.size ≤ WF.heap.size := by rw [hWF]; simp
          clear hWF
          exact hk bx r WF ⟨r0, by omega, hX3, hbx, hO3, hN3, by omega, hS3, hw3⟩
      rintro bx kd W ⟨kd0, kd3, hX, hbx, hO, hN, hc, hS, hw⟩
      clear hND hSD hwD hOD eD
      have lX := hX.lt
      have x1 : W.cell? ⟨bx, 1, none⟩ = some (.int .i8 kd) := hX.cell 1
      go_wp2_with fail
      refine Calls.mono (spec_l01Sized base b _ kd kd0 kd3 W hS (by omega)) ?_
      rintro e W4 ⟨sz, rfl, hsh, hS4, hW4⟩
      have hX4 := hX.win hW4 (.inr (by omega))
      have hN4 := hN.win hW4 (fun p hp => by cases hp; exact .inr (by show b + 1 ≤ c; omega))
      have hO4 := hO.win hW4 (fun b' h => .inr (by have := (hob b' h).1; omega))
      have hw4 := hw.trans hW4
      have hc4 := Nat.lt_of_lt_of_le hc hW4.size
      clear hX hN hO hw hS hW4 hc x1 lX
      have hne : (Value.slice A xs.length cap).ownBlock ≠ some bx := fun h => by have := (hob _ h).2; omega
      have x3 : W4.cell? ⟨bx, 3, none⟩ = some (.int .i16 0) := hX4.cell 3
      have f3 := hX4.frozen 3
      have lX := hX4.lt
      go_wp2_with fail
      refine intro_world (R := fun W => Calls _ _ _ W _) (fun W5 hW5 => ?_)
      have hX5 : BoxAt W5 bx #[.string nm, .int .i8 kd, .int .i16 st, .int .i16 sz] 33 := by rw [hW5]; exact hX4.set 3 (.int .i16 sz)
      have hN5 : Rd encStr W5 (some ⟨c, 0, none⟩) nmsL := by rw [hW5]; exact hN4.win (lo := bx) (hi := bx + 1) ((Win.refl _ _ W4).set1 (i := 3) (.int .i16 sz)) (fun p hp => by cases hp; exact .inl (by show c < bx; omega))
      have hO5 : Ow encFld 33 W5 w.heap.size (.slice A xs.length cap) xs := by rw [hW5]; exact hO4.far (p := ⟨bx, 3, none⟩) hne (.int .i16 sz)
      have hw5 : Win b (b + 1) w W5 := by rw [hW5]; exact hw4.setOut (p := ⟨bx, 3, none⟩) (show w.heap.size ≤ bx by omega) (.int .i16 sz)
      have hS5 : Src W5 base b (n + 60 - 6 * (k + 1) + 2 + 2) := by rw [hW5]; exact hS4.set (p := ⟨bx, 3, none⟩) (show base ≤ bx by omega) (show bx ≠ b by omega) (.int .i16 sz)
      have hc5 : c < W5.heap.size := by rw [hW5]; simpa using hc4
      clear hW5 x3 f3 lX hX4 hN4 hO4 hw4 hS4 hc4
      obtain ⟨hk4, z1, zm, z12, m1, m12⟩ := shape_wide hsh
      have hF5 : FldAt W5 bx 0 ⟨nm, kd, st, sz⟩ := ⟨hX5.cell 0, hX5.cell 1, hX5.cell 2, hX5.cell 3⟩
      have hwd := fun W hF => spec_l01Width bx 0 ⟨nm, kd, st, sz⟩ (by dsimp only; omega) (by dsimp only; omega) W hF
      have hgood := fun h => drawn_fld (st := st) hnm hsh t0 h
      dsimp only at hwd
      generalize manyF kd sz = m at m1 m12 hwd hgood
      clear hk4 zm
      refine Calls.mono (hwd W5 hF5) ?_
      rintro e W6 ⟨rfl, hb6⟩
      have e1 : IntKind.i64.wrap (st + m) = st + m := IntWalk.i64_in _ (by omega)
      have hX6 := hX5.ext hb6
      have hN6 := hN5.ext hb6
      have hO6 := hO5.ext hb6
      have hw6 := hw5.ext hb6
      have hS6 := hS5.ext hb6
      have hc6 := Nat.lt_of_lt_of_le hc5 hb6.size
      clear hX5 hN5 hO5 hw5 hS5 hc5 hF5 hb6
      by_cases hfit : 96 < st + m
      · have hl0 : xs.length ≠ 0 := fun h => by have := ht.out h; omega
        go_wp2
        go_ret
        exact ⟨xs, _, rfl, hO6, hD, by omega, by have := hlen.out; omega, hS6.up (by omega) (by omega), hw6⟩
      · have i5 : (96 < st + m) = False := eq_false hfit
        replace hgood := hgood (by omega)
        have x0 : W6.cell? ⟨bx, 0, none⟩ = some (.string nm) := hX6.cell 0
        have x1 : W6.cell? ⟨bx, 1, none⟩ = some (.int .i8 kd) := hX6.cell 1
        have x2 : W6.cell? ⟨bx, 2, none⟩ = some (.int .i16 st) := hX6.cell 2
        have x3 : W6.cell? ⟨bx, 3, none⟩ = some (.int .i16 sz) := hX6.cell 3
        have lX := hX6.lt
        have kz := hw6.size
        have kl := hlen.out
        go_wp2_with (at_builtin; refine wpList_pushW (base := w.heap.size) (xs := xs) encFld (by rfl) _ _ 45 (.agg #[.string ⟨#[]⟩, .int .i8 0, .int .i16 0, .int .i16 0]) 24 (by rfl) Tryd.underlying45 info_Fld (by rfl) (⟨nm, kd, st, sz⟩ : Fld) (by rfl) (by rfl) (by simp) hO6 (by simpa using kz) (by omega) (by omega) ?_)
        intro v7 W7 hO7 hg7 ho7
        have hN7 := hN6.grown hg7 (fun p hp h => by cases hp; exact hcn _ h rfl)
        have hS7 := hS6.grown hg7 (fun j hj => by have := (hO6.lt j hj).1; omega)
        have hw7 := hw6.grownOut hg7 (fun j hj => (hO6.lt j hj).1)
        have hc7 := Nat.lt_of_lt_of_le hc6 hg7.size
        have hX7 := hX6.grown hg7 hne
        have hcn7 : ∀ b', v7.ownBlock = some b' → b' ≠ c := fun b' h => by rcases ho7 with h1 | ⟨b'', h1, h2⟩; (exact hcn b' (h1.symm.trans h)); (rw [h1] at h; cases h; exact fun h3 => by subst h3; omega)
        clear hN6 hS6 hw6 hX6 x0 x1 x2 x3 lX hO6 hc6 hg7 ho7
        have hF7 : FldAt W7 bx 0 ⟨nm, kd, st, sz⟩ := ⟨hX7.cell 0, hX7.cell 1, hX7.cell 2, hX7.cell 3⟩
        go_wp2_with fail
        refine Calls.mono (hwd W7 hF7) ?_
        rintro e W8 ⟨rfl, hb8⟩
        have hO8 := hO7.ext hb8
        have hN8 := hN7.ext hb8
        have hS8 := hS7.ext hb8
        have hw8 := hw7.ext hb8
        have hc8 := Nat.lt_of_lt_of_le hc7 hb8.size
        clear hO7 hN7 hS7 hw7 hc7 hF7 hX7 hb8
        go_wp2_with fail
        refine Calls.mono (src_pick base b _ 4 (by omega) W8 hS8 (by omega)) ?_
        rintro e W9 ⟨q, rfl, q0, q1, hS9, hW9⟩
        have hO9 := hO8.win hW9 (fun b' h => .inr (by have := (hO8.lt b' h).1; omega))
        have hN9 := hN8.win hW9 (fun p hp => by cases hp; exact .inr (by show b + 1 ≤ c; omega))
        have hw9 := hw8.trans hW9
        have hc9 := Nat.lt_of_lt_of_le hc8 hW9.size
        clear hO8 hN8 hw8 hc8 hS8 hW9 e1
        have e2 : IntKind.i64.wrap (m + q) = m + q := IntWalk.i64_in _ (by omega)
        have e3 : IntKind.i64.wrap (st + (m + q)) = st + (m + q) := IntWalk.i64_in _ (by omega)
        have hlen9 : Hd ((xs ++ [(⟨nm, kd, st, sz⟩ : Fld)]).length + k = k0 + 1) := hd (by rw [List.length_append, List.length_singleton]; omega)
        have hne9 : Hd ((xs ++ [(⟨nm, kd, st, sz⟩ : Fld)]).length = 0 → st + (m + q) ≤ 5) := hd (fun h => by rw [List.length_append, List.length_singleton] at h; omega)
        have hD9 : DrawnS (xs ++ [⟨nm, kd, st, sz⟩]) := fun f hf => (List.mem_append.1 hf).elim (hD f) (fun h => by rw [List.mem_singleton.1 h]; exact hgood)
        go_wp2
        go_roundg k
        case rel => exact ⟨k, st + (m + q), _, rfl, rfl, rfl, by omega, by omega, hne9, hlen9, hD9, hO9, hcn7, hN9, hc9, hS9.up (by omega) (by omega), hw9⟩
        case measure => omega
theorem spec_A2Scheme (cs : List UInt8) (A : Option Addr) (cap : Nat) (w : World) (hR : Rd encU8 w A cs) (hn : cs.length ≤ 1099511627776) :
    Calls Tryd.prog 21 #[.slice A cs.length cap] w fun e w' => ∃ xs v, e = .returned v ∧ Ow encFld 33 w' w.heap.size v xs ∧ DrawnS xs ∧ 1 ≤ xs.length ∧ xs.length ≤ 5 ∧ Ext w w' := by
  have hf := spec_l00From cs A cap w w hR hn (Ext.refl w)
  go_enter Tryd.func21, Tryd.ntmps21
  go_wp2_with fail
  refine Calls.mono hf ?_
  rintro e w1 ⟨b, rfl, hS, hb, hE1⟩
  have hc := spec_l01Drawn _ b 0 w1 hS (by omega)
  clear hf
  go_wp2_with fail
  refine Calls.mono hc ?_
  rintro e w2 ⟨xs, v, rfl, hO, hD, l1, l9, hS2, hW2⟩
  clear hc
  go_wp2
  go_ret
  exact ⟨xs, v, rfl, hO.lower hE1.size, hD, l1, l9, hE1.win hW2 hb⟩
end Go.Proofs.YtdlpifgkponnmaaDoor
set_option linter.unusedVariables false
set_option linter.unusedSimpArgs false
set_option maxRecDepth 100000
namespace Go.Proofs.YtdlpifgkponnmaaDoor
open Go.RowKit
theorem eqA_Card (d : Nat) (a a' : ByteArray) (c f c' f' : Int) (w : World) :
    (Op.equalIn (d + 3) 60 (.agg #[.string a, .int .u64 c, .int .u64 f]) (.agg #[.string a', .int .u64 c', .int .u64 f'])).run Tryd.prog w = .ok ((a.toList == a'.toList) && (c == c' && f == f')) w := by
  have e := eqA_Mask d
  rw [Op.equalIn]
  simp only [Sem.run_bind, run_underlying Tryd.underlying60, Result.andThen_ok, Std.Legacy.Range.forIn_eq_forIn_range', Std.Legacy.Range.size]
  go_simp
  by_cases h1 : a.toList = a'.toList <;> by_cases h3 : c = c' <;> by_cases h4 : f = f' <;> simp [h1, h3, h4]
end Go.Proofs.YtdlpifgkponnmaaDoor
set_option linter.unusedVariables false
set_option linter.unusedSimpArgs false
set_option maxRecDepth 100000
namespace Go.Proofs.YtdlpifgkponnmaaDoor
open Go.RowKit
theorem sort_in96 {f : Fld} (h : fldB f = true) : ∀ z ∈ sortF f, isHoleB z = true := by
  obtain ⟨h1, h2, h3, h4⟩ := wide_bd h
  have hn : sortN f ≤ wideF f := by unfold sortN; split <;> omega
  intro z hz
  have hr : 0 ≤ z ∧ z < 96 := by
    unfold sortF at hz
    split at hz
    · obtain ⟨j, hj, rfl⟩ := List.mem_map.1 hz
      have := List.mem_range.1 hj
      omega
    · obtain ⟨j, hj, rfl⟩ := List.mem_map.1 hz
      have := List.mem_range.1 hj
      omega
  unfold isHoleB
  simp [hr.1, hr.2]
theorem sort_holes {f : Fld} (h : fldB f = true) : ((sortF f).any fun z => !(isHoleB z)) = false := by
  rw [List.any_eq_false]
  intro z hz
  rw [sort_in96 h z hz]
  decide
theorem Rd.i64q {w : World} {b off : Nat} {xs : List Int} (h : Rd encI64 w (some ⟨b, off, none⟩) xs) (k : Nat) (hk : k < xs.length) :
    w.cell? ⟨b, off + k, none⟩ = some (.int .i64 xs[k]) ∧ b < w.heap.size := by
  obtain ⟨b', off', e1, hlt, hc⟩ := id h k hk
  simp only [Option.some.injEq, Addr.mk.injEq, and_true] at e1
  obtain ⟨rfl, rfl⟩ := e1
  exact ⟨h.i64 k hk, hlt⟩
set_option maxHeartbeats 400000 in
theorem impl_HolesToSort (f : Fld) (hf : fldB f = true) (hin : FldIn f) (w : World) :
    Calls Tryd.prog 24 #[.agg #[.string f.nm, .int .i8 f.kd, .int .i16 f.st, .int .i16 f.sz]] w fun e w' => ∃ A cap, e = .returned (.tuple #[.slice A (sortF f).length cap, .int .i64 0]) ∧ Rd encI64 w' A (sortF f) ∧ Ext w w' := by
  have h1 := fun W => isField_in f hin W
  have h2 := fun W => impl_sorting f hf W
  rw [hf] at h1
  have hX : BoxAt (w.alloc (.cells #[.string f.nm, .int .i8 f.kd, .int .i16 f.st, .int .i16 f.sz] 33)) w.heap.size #[.string f.nm, .int .i8 f.kd, .int .i16 f.st, .int .i16 f.sz] 33 := BoxAt.new' rfl
  go_enter Tryd.func24, Tryd.ntmps24
  go_wp2_with fail
  refine Calls.mono (h1 _) ?_
  rintro e w1 ⟨rfl, hb1⟩
  replace hX := hX.ext hb1
  have x0 : w1.cell? ⟨w.heap.size, 0, none⟩ = some (.string f.nm) := hX.cell 0
  have x1 : w1.cell? ⟨w.heap.size, 1, none⟩ = some (.int .i8 f.kd) := hX.cell 1
  have x2 : w1.cell? ⟨w.heap.size, 2, none⟩ = some (.int .i16 f.st) := hX.cell 2
  have x3 : w1.cell? ⟨w.heap.size, 3, none⟩ = some (.int .i16 f.sz) := hX.cell 3
  have lx := hX.lt
  go_wp2_with fail
  refine Calls.mono (h2 _) ?_
  rintro e w2 ⟨A, c, rfl, hRA, hb2⟩
  go_wp2
  go_ret2
  exact ⟨A, c, rfl, hRA, (((Ext.refl w).alloc _).trans hb1).trans hb2⟩
theorem impl_PassMany1 (h : Int) (w : World) :
    Calls Tryd.prog 50 #[.int .i64 h] w fun e w' => e = .returned (.bool (!(isHoleB h))) ∧ Ext w w' := by
  have h1 := fun W => impl_isHole h W
  go_enter Tryd.func50, Tryd.ntmps50
  go_wp2_with fail
  refine Calls.mono (h1 _) ?_
  rintro e w1 ⟨rfl, hb1⟩
  go_wp2
  go_ret
  exact ⟨rfl, hb1⟩
set_option maxHeartbeats 400000 in
theorem slices_IndexFunc_holes (xs : List Int) (A : Option Addr) (n cap : Nat) (w : World) (hnx : n = xs.length) (hR : Rd encI64 w A xs) (hn : n ≤ 1048576)  :
    Calls Tryd.prog 84 #[.slice A n cap, .func (.func 50) #[] #[]] w fun e w' => e = .returned (.int .i64 (fidx (fun h : Int => !(isHoleB h)) xs)) ∧ Ext w w' := by
  subst hnx
  go_enter Tryd.func84, Tryd.ntmps84
  go_wp2
  go_loopg [8] xs.length (fun g i wr => ∃ k : Nat, g = xs.length - k ∧ k ≤ xs.length ∧ i = .int .i64 k ∧ Ext w wr ∧ (xs.take k).any (fun h : Int => !(isHoleB h)) = false)
  case atStart => exact ⟨0, by omega, by omega, rfl, Ext.refl _, by rw [List.take_zero]; rfl⟩
  case round =>
    obtain ⟨k, hg, hk, rfl, hw, hQ⟩ := hrel
    by_cases hkl : k < xs.length
    · obtain ⟨b, off, hA, hlt, _⟩ := hR k hkl
      subst hA
      obtain ⟨m0, m9⟩ := (hR.ext hw).i64q k hkl
      have hs := any_take (fun h : Int => !(isHoleB h)) xs k hkl
      rw [hQ, Bool.false_or] at hs
      cases hq : (fun h : Int => !(isHoleB h)) xs[k] with
      | true =>
        have hM := fidx_hit (fun h : Int => !(isHoleB h)) xs k hkl hq hQ
        try dsimp only at hq
        clear hs hQ
        go_wp2_with fail
        refine Calls.mono (impl_PassMany1 xs[k] _) ?_
        rintro e w1 ⟨rfl, hb1⟩
        simp only [hq]
        go_wp2
        go_ret
        exact ⟨by rw [hM]; rfl, by ((repeat (first | with_reducible exact Ext.refl _ | with_reducible exact hw | with_reducible exact hb9 | with_reducible exact hb8 | with_reducible exact hb7 | with_reducible exact hb6 | with_reducible exact hb5 | with_reducible exact hb4 | with_reducible exact hb3 | with_reducible exact hb2 | with_reducible exact hb1 | with_reducible refine Ext.alloc ?_ _ | with_reducible refine Ext.drew ?_ | ((with_reducible refine Ext.set ?_ ?_ _); focus (dsimp only; omega)) | with_reducible refine Ext.trans ?_ hb9 | with_reducible refine Ext.trans ?_ hb8 | with_reducible refine Ext.trans ?_ hb7 | with_reducible refine Ext.trans ?_ hb6 | with_reducible refine Ext.trans ?_ hb5 | with_reducible refine Ext.trans ?_ hb4 | with_reducible refine Ext.trans ?_ hb3 | with_reducible refine Ext.trans ?_ hb2 | with_reducible refine Ext.trans ?_ hb1 | with_reducible refine Ext.trans ?_ hw)))⟩
      | false =>
        have hs2 := hd (hs.trans hq)
        try dsimp only at hq
        clear hs hQ
        go_wp2_with fail
        refine Calls.mono (impl_PassMany1 xs[k] _) ?_
        rintro e w1 ⟨rfl, hb1⟩
        simp only [hq]
        go_wp2
        go_roundg (xs.length - (k + 1))
        case rel => exact ⟨k + 1, rfl, hkl, rfl, by ((repeat (first | with_reducible exact Ext.refl _ | with_reducible exact hw | with_reducible exact hb9 | with_reducible exact hb8 | with_reducible exact hb7 | with_reducible exact hb6 | with_reducible exact hb5 | with_reducible exact hb4 | with_reducible exact hb3 | with_reducible exact hb2 | with_reducible exact hb1 | with_reducible refine Ext.alloc ?_ _ | with_reducible refine Ext.drew ?_ | ((with_reducible refine Ext.set ?_ ?_ _); focus (dsimp only; omega)) | with_reducible refine Ext.trans ?_ hb9 | with_reducible refine Ext.trans ?_ hb8 | with_reducible refine Ext.trans ?_ hb7 | with_reducible refine Ext.trans ?_ hb6 | with_reducible refine Ext.trans ?_ hb5 | with_reducible refine Ext.trans ?_ hb4 | with_reducible refine Ext.trans ?_ hb3 | with_reducible refine Ext.trans ?_ hb2 | with_reducible refine Ext.trans ?_ hb1 | with_reducible refine Ext.trans ?_ hw))), hs2.out⟩
        case measure => omega
    · obtain rfl : k = xs.length := by omega
      rw [List.take_length] at hQ
      have hM := fidx_none (fun h : Int => !(isHoleB h)) xs hQ
      go_wp2
      go_ret
      exact ⟨by rw [hM]; rfl, hw⟩

theorem slices_ContainsFunc_holes (xs : List Int) (A : Option Addr) (n cap : Nat) (w : World) (hnx : n = xs.length) (hR : Rd encI64 w A xs) (hn : n ≤ 1048576) :
    Calls Tryd.prog 49 #[.slice A n cap, .func (.func 50) #[] #[]] w fun e w' => e = .returned (.bool (xs.any fun h => !(isHoleB h))) ∧ Ext w w' := by
  subst hnx
  have hI := slices_IndexFunc_holes xs A _ cap w rfl hR hn
  have hm : (xs.any fun h => !(isHoleB h)) = decide (fidx (fun h : Int => !(isHoleB h)) xs ≥ 0) := by
    rw [Bool.eq_iff_iff, decide_eq_true_iff]
    exact (fidx_ge _ xs).symm
  generalize fidx (fun h : Int => !(isHoleB h)) xs = q at hm hI
  rw [hm]
  clear hm
  go_enter Tryd.func49, Tryd.ntmps49
  go_wp2_with fail
  refine Calls.mono (hI) ?_
  rintro e w1 ⟨rfl, hb1⟩
  go_wp2
  go_ret
  exact ⟨rfl, by ((repeat (first | with_reducible exact Ext.refl _ | with_reducible exact hw | with_reducible exact hb9 | with_reducible exact hb8 | with_reducible exact hb7 | with_reducible exact hb6 | with_reducible exact hb5 | with_reducible exact hb4 | with_reducible exact hb3 | with_reducible exact hb2 | with_reducible exact hb1 | with_reducible refine Ext.alloc ?_ _ | with_reducible refine Ext.drew ?_ | ((with_reducible refine Ext.set ?_ ?_ _); focus (dsimp only; omega)) | with_reducible refine Ext.trans ?_ hb9 | with_reducible refine Ext.trans ?_ hb8 | with_reducible refine Ext.trans ?_ hb7 | with_reducible refine Ext.trans ?_ hb6 | with_reducible refine Ext.trans ?_ hb5 | with_reducible refine Ext.trans ?_ hb4 | with_reducible refine Ext.trans ?_ hb3 | with_reducible refine Ext.trans ?_ hb2 | with_reducible refine Ext.trans ?_ hb1 | with_reducible refine Ext.trans ?_ hw)))⟩
theorem impl_PassManyS (ds : List Crd) (A : Option Addr) (cap : Nat) (f : Fld) (hf : fldB f = true) (hd0 : deckB ds = true) (B : Option Addr) (cap' : Nat) (w : World) (hR : Rd encCrd w A ds) (hcap : ds.length ≤ cap) (hn : ds.length ≤ 1048576) (hok : ∀ c ∈ ds, CrdIn c) (hS : Rd encI64 w B (sortF f)) :
    Calls Tryd.prog 25 #[.slice A ds.length cap, .slice B (sortF f).length cap'] w fun e w' => ∃ v, e = .returned (.tuple #[v, .int .i64 0]) ∧ Ow encCrd 60 w' w.heap.size v (passesF ds (sortF f)) ∧ Ext w w' := by
  have h1 := fun (W : World) (hE : Ext w W) => impl_isDeck ds A cap W (hR.ext hE) hcap hn hok
  rw [hd0] at h1
  have hl := sort_len hf
  have h2 := fun (W : World) (hE : Ext w W) => slices_ContainsFunc_holes (sortF f) B _ cap' W rfl (hS.ext hE) (by omega)
  rw [sort_holes hf] at h2
  have h4 := fun (W : World) (hE : Ext w W) => impl_passMany ds A cap (sortF f) B cap' W (hR.ext hE) hn (hS.ext hE) (by omega) (sort_in hf)
  generalize passesF ds (sortF f) = out at h4 ⊢
  generalize (sortF f).length = n at *
  go_enter Tryd.func25, Tryd.ntmps25
  go_wp2_with fail
  refine Calls.mono (h1 _ (Ext.refl _)) ?_
  rintro e w1 ⟨rfl, hb1⟩
  go_wp2_with fail
  refine Calls.mono (h2 _ hb1) ?_
  rintro e w2 ⟨rfl, hb2⟩
  have hw2 := hb1.trans hb2
  go_wp2_with fail
  refine Calls.mono (h4 _ hw2) ?_
  rintro e w3 ⟨v, rfl, hO, hb3⟩
  have hs := hw2.size
  go_wp2
  go_ret2
  exact ⟨v, rfl, hO.lower hs, hw2.trans hb3⟩
set_option maxHeartbeats 400000 in
theorem impl_IsSortedS (ds : List Crd) (A : Option Addr) (cap : Nat) (f : Fld) (hf : fldB f = true) (hin : FldIn f) (hd0 : deckB ds = true) (w : World) (hR : Rd encCrd w A ds) (hcap : ds.length ≤ cap) (hn : ds.length ≤ 1048576) (hok : ∀ c ∈ ds, CrdIn c) :
    Calls Tryd.prog 26 #[.slice A ds.length cap, .agg #[.string f.nm, .int .i8 f.kd, .int .i16 f.st, .int .i16 f.sz]] w fun e w' => e = .returned (.tuple #[.bool (sortedB f ds), .int .i64 0]) ∧ Ext w w' := by
  have h1 := fun (W : World) (hE : Ext w W) => impl_isDeck ds A cap W (hR.ext hE) hcap hn hok
  rw [hd0] at h1
  have h2 := fun W => isField_in f hin W
  rw [hf] at h2
  have h3 := fun (W : World) (hE : Ext w W) => impl_isSorted f hf ds A cap W (hR.ext hE) hn
  generalize sortedB f ds = so at h3 ⊢
  have hX : BoxAt (w.alloc (.cells #[.string f.nm, .int .i8 f.kd, .int .i16 f.st, .int .i16 f.sz] 33)) w.heap.size #[.string f.nm, .int .i8 f.kd, .int .i16 f.st, .int .i16 f.sz] 33 := BoxAt.new' rfl
  have hE0 : Ext w (w.alloc (.cells #[.string f.nm, .int .i8 f.kd, .int .i16 f.st, .int .i16 f.sz] 33)) := (Ext.refl _).alloc _
  go_enter Tryd.func26, Tryd.ntmps26
  go_wp2_with fail
  refine Calls.mono (h1 _ hE0) ?_
  rintro e w1 ⟨rfl, hb1⟩
  replace hX := hX.ext hb1
  have x0 : w1.cell? ⟨w.heap.size, 0, none⟩ = some (.string f.nm) := hX.cell 0
  have x1 : w1.cell? ⟨w.heap.size, 1, none⟩ = some (.int .i8 f.kd) := hX.cell 1
  have x2 : w1.cell? ⟨w.heap.size, 2, none⟩ = some (.int .i16 f.st) := hX.cell 2
  have x3 : w1.cell? ⟨w.heap.size, 3, none⟩ = some (.int .i16 f.sz) := hX.cell 3
  have lx := hX.lt
  go_wp2_with fail
  refine Calls.mono (h2 _) ?_
  rintro e w2 ⟨rfl, hb2⟩
  have hw2 := (hE0.trans hb1).trans hb2
  replace hX := hX.ext hb2
  clear x0 x1 x2 x3 lx
  have x0 : w2.cell? ⟨w.heap.size, 0, none⟩ = some (.string f.nm) := hX.cell 0
  have x1 : w2.cell? ⟨w.heap.size, 1, none⟩ = some (.int .i8 f.kd) := hX.cell 1
  have x2 : w2.cell? ⟨w.heap.size, 2, none⟩ = some (.int .i16 f.st) := hX.cell 2
  have x3 : w2.cell? ⟨w.heap.size, 3, none⟩ = some (.int .i16 f.sz) := hX.cell 3
  have lx := hX.lt
  go_wp2_with fail
  refine Calls.mono (h3 _ hw2) ?_
  rintro e w3 ⟨rfl, hb3⟩
  go_wp2
  go_ret2
  exact ⟨rfl, hw2.trans hb3⟩
set_option maxHeartbeats 400000 in
theorem impl_KeyOf (f : Fld) (hf : fldB f = true) (hin : FldIn f) (m : Mask) (hm : isMaskB m = true) (w : World) :
    Calls Tryd.prog 28 #[.agg #[.string f.nm, .int .i8 f.kd, .int .i16 f.st, .int .i16 f.sz], .agg #[.int .u64 (lo m), .int .u64 (hi m)]] w fun e w' => e = .returned (.tuple #[.int .i64 (keyF f m), .int .i64 0]) ∧ Ext w w' := by
  have h2 := fun W => isField_in f hin W
  rw [hf] at h2
  have h3 := fun W => impl_isMask m W
  rw [hm] at h3
  have h4 := fun W => impl_key f hf m W
  generalize keyF f m = ke at h4 ⊢
  have hX : BoxAt ((w.alloc (.cells #[.string f.nm, .int .i8 f.kd, .int .i16 f.st, .int .i16 f.sz] 33)).alloc (.cells #[.int .u64 (lo m), .int .u64 (hi m)] 58)) w.heap.size #[.string f.nm, .int .i8 f.kd, .int .i16 f.st, .int .i16 f.sz] 33 := (BoxAt.new' rfl).alloc _
  have hY : BoxAt ((w.alloc (.cells #[.string f.nm, .int .i8 f.kd, .int .i16 f.st, .int .i16 f.sz] 33)).alloc (.cells #[.int .u64 (lo m), .int .u64 (hi m)] 58)) (w.heap.size + 1) #[.int .u64 (lo m), .int .u64 (hi m)] 58 := BoxAt.new' (by simp)
  have hE0 : Ext w ((w.alloc (.cells #[.string f.nm, .int .i8 f.kd, .int .i16 f.st, .int .i16 f.sz] 33)).alloc (.cells #[.int .u64 (lo m), .int .u64 (hi m)] 58)) := ((Ext.refl _).alloc _).alloc _
  go_enter Tryd.func28, Tryd.ntmps28
  go_wp2_with fail
  refine Calls.mono (h2 _) ?_
  rintro e w1 ⟨rfl, hb1⟩
  replace hX := hX.ext hb1
  replace hY := hY.ext hb1
  replace hE0 := hE0.trans hb1
  have y0 : w1.cell? ⟨w.heap.size + 1, 0, none⟩ = some (.int .u64 (lo m)) := hY.cell 0
  have y1 : w1.cell? ⟨w.heap.size + 1, 1, none⟩ = some (.int .u64 (hi m)) := hY.cell 1
  have ly := hY.lt
  go_wp2_with fail
  refine Calls.mono (h3 _) ?_
  rintro e w2 ⟨rfl, hb2⟩
  replace hX := hX.ext hb2
  replace hY := hY.ext hb2
  replace hE0 := hE0.trans hb2
  clear y0 y1 ly
  have x0 : w2.cell? ⟨w.heap.size, 0, none⟩ = some (.string f.nm) := hX.cell 0
  have x1 : w2.cell? ⟨w.heap.size, 1, none⟩ = some (.int .i8 f.kd) := hX.cell 1
  have x2 : w2.cell? ⟨w.heap.size, 2, none⟩ = some (.int .i16 f.st) := hX.cell 2
  have x3 : w2.cell? ⟨w.heap.size, 3, none⟩ = some (.int .i16 f.sz) := hX.cell 3
  have lx := hX.lt
  have y0 : w2.cell? ⟨w.heap.size + 1, 0, none⟩ = some (.int .u64 (lo m)) := hY.cell 0
  have y1 : w2.cell? ⟨w.heap.size + 1, 1, none⟩ = some (.int .u64 (hi m)) := hY.cell 1
  have ly := hY.lt
  go_wp2_with fail
  refine Calls.mono (h4 _) ?_
  rintro e w3 ⟨rfl, hb3⟩
  go_wp2
  go_ret2
  exact ⟨rfl, hE0.trans hb3⟩
set_option maxHeartbeats 400000 in
theorem spec_l02SameS (ds : List Crd) (A B : Option Addr) (cap cap' : Nat) (w : World) (hR : Rd encCrd w A ds) (hS : Rd encCrd w B ds) (hn : ds.length ≤ 1048576) :
    Calls Tryd.prog 52 #[.slice A ds.length cap, .slice B ds.length cap'] w fun e w' => e = .returned (.bool true) ∧ Ext w w' := by
  have hx := @ExtOf.cell
  have eqc := eqA_Card
  go_enter Tryd.func52, Tryd.ntmps52
  go_wp2
  go_loopg [5] ds.length (fun g i wr => ∃ k : Nat, g = ds.length - k ∧ k ≤ ds.length ∧ i = .int .i64 k ∧ Ext w wr)
  case atStart => exact ⟨0, by omega, by omega, rfl, Ext.refl _⟩
  case round =>
    obtain ⟨k, hg, hk, rfl, hw⟩ := hrel
    by_cases hkl : k < ds.length
    · obtain ⟨b, off, hA, hlt, hr1⟩ := hR k hkl
      obtain ⟨c, off', hB, hlt', hr2⟩ := hS k hkl
      subst hA hB
      clear hr1 hr2
      obtain ⟨m0, m1, m2, m3⟩ := (hR.ext hw).crd k hkl
      obtain ⟨n0, n1, n2, n3⟩ := (hS.ext hw).crd k hkl
      generalize ds[k] = x at m0 m1 m2 n0 n1 n2
      have q1 : (k : Int) < ds.length := by omega
      go_wp2
      refine wp_region_ext (by kernel_rfl) (by kernel_rfl) ?_
      repeat (first | go_big_quiet_step (fail) | quiet_step (fail))
      refine wpQuiet_nil ?_
      intro w3 hq3
      have hb3 := ext_of_class hq3
      clear hq3
      obtain ⟨hc3, hf3, hz3⟩ := bcell3 hb3
      try simp at hz3
      go_wp2
      go_roundg (ds.length - (k + 1))
      case rel => exact ⟨k + 1, rfl, hkl, by first | rfl | simp, hw.trans hb3⟩
      case measure => omega
    · obtain rfl : k = ds.length := by omega
      go_wp2
      go_ret
      exact ⟨rfl, hw⟩
theorem spec_SameDeck (ds : List Crd) (A B : Option Addr) (cap cap' : Nat) (w : World) (hR : Rd encCrd w A ds) (hS : Rd encCrd w B ds) (hn : ds.length ≤ 1048576) :
    Calls Tryd.prog 27 #[.slice A ds.length cap, .slice B ds.length cap'] w fun e w' => e = .returned (.bool true) ∧ Ext w w' := by
  go_enter Tryd.func27, Tryd.ntmps27
  go_wp2_with fail
  refine Calls.mono (spec_l02SameS ds A B cap cap' _ hR hS hn) ?_
  rintro e w1 ⟨rfl, hb1⟩
  go_wp2
  go_ret
  exact ⟨rfl, hb1⟩
set_option maxHeartbeats 1000000 in
theorem impl_FindCard (ds : List Crd) (A : Option Addr) (cap : Nat) (hd0 : deckB ds = true) (nm : ByteArray) (hin : (ds.any fun y : Crd => y.nm.toList == nm.toList) = true) (w : World) (hR : Rd encCrd w A ds) (hcap : ds.length ≤ cap) (hn : ds.length ≤ 1048576) (hok : ∀ c ∈ ds, CrdIn c) :
    Calls Tryd.prog 29 #[.slice A ds.length cap, .string nm] w fun e w' => e = .returned (.tuple #[.int .i64 (fidx (fun y : Crd => y.nm.toList == nm.toList) ds), .int .i64 0]) ∧ Ext w w' := by
  have h1 := fun (W : World) (hE : Ext w W) => impl_isDeck ds A cap W (hR.ext hE) hcap hn hok
  rw [hd0] at h1
  go_enter Tryd.func29, Tryd.ntmps29
  go_wp2_with fail
  refine Calls.mono (h1 _ (Ext.refl _)) ?_
  rintro e w1 ⟨rfl, hb1⟩
  clear h1
  go_wp2
  go_loopg [13] ds.length (fun g i wr => ∃ k : Nat, g = ds.length - k ∧ k ≤ ds.length ∧ i = .int .i64 k ∧ Ext w wr ∧ (ds.take k).any (fun y : Crd => y.nm.toList == nm.toList) = false)
  case atStart => exact ⟨0, by omega, by omega, rfl, hb1, by rw [List.take_zero]; rfl⟩
  case round =>
    obtain ⟨k, hg, hk, rfl, hw, hQ⟩ := hrel
    by_cases hkl : k < ds.length
    · obtain ⟨b, off, hA, hlt, _⟩ := hR k hkl
      subst hA
      obtain ⟨m0, m1, m2, m3⟩ := (hR.ext hw).crd k hkl
      have hs := any_take (fun y : Crd => y.nm.toList == nm.toList) ds k hkl
      rw [hQ, Bool.false_or] at hs
      have hwE := fun W (h : Ext wr W) => hw.trans h
      cases hq : (ds[k].nm.toList == nm.toList) with
      | true =>
        have hM := fidx_hit (fun y : Crd => y.nm.toList == nm.toList) ds k hkl hq hQ
        have hM2 := hd hM
        clear hs hQ hM hin
        go_wp2
        go_ret2
        exact ⟨by rw [hM2.out]; rfl, by ((repeat (first | with_reducible exact Ext.refl _ | with_reducible exact hw | with_reducible exact hb9 | with_reducible exact hb8 | with_reducible exact hb7 | with_reducible exact hb6 | with_reducible exact hb5 | with_reducible exact hb4 | with_reducible exact hb3 | with_reducible exact hb2 | with_reducible exact hb1 | with_reducible refine Ext.alloc ?_ _ | with_reducible refine Ext.drew ?_ | ((with_reducible refine Ext.set ?_ ?_ _); focus (dsimp only; omega)) | with_reducible refine Ext.trans ?_ hb9 | with_reducible refine Ext.trans ?_ hb8 | with_reducible refine Ext.trans ?_ hb7 | with_reducible refine Ext.trans ?_ hb6 | with_reducible refine Ext.trans ?_ hb5 | with_reducible refine Ext.trans ?_ hb4 | with_reducible refine Ext.trans ?_ hb3 | with_reducible refine Ext.trans ?_ hb2 | with_reducible refine Ext.trans ?_ hb1 | with_reducible refine Ext.trans ?_ hw)))⟩
      | false =>
        have hs2 := hd (hs.trans hq)
        clear hs hQ hin
        go_wp2
        go_roundg (ds.length - (k + 1))
        case rel => exact ⟨k + 1, rfl, hkl, by first | rfl | simp, by ((repeat (first | with_reducible exact Ext.refl _ | with_reducible exact hw | with_reducible exact hb9 | with_reducible exact hb8 | with_reducible exact hb7 | with_reducible exact hb6 | with_reducible exact hb5 | with_reducible exact hb4 | with_reducible exact hb3 | with_reducible exact hb2 | with_reducible exact hb1 | with_reducible refine Ext.alloc ?_ _ | with_reducible refine Ext.drew ?_ | ((with_reducible refine Ext.set ?_ ?_ _); focus (dsimp only; omega)) | with_reducible refine Ext.trans ?_ hb9 | with_reducible refine Ext.trans ?_ hb8 | with_reducible refine Ext.trans ?_ hb7 | with_reducible refine Ext.trans ?_ hb6 | with_reducible refine Ext.trans ?_ hb5 | with_reducible refine Ext.trans ?_ hb4 | with_reducible refine Ext.trans ?_ hb3 | with_reducible refine Ext.trans ?_ hb2 | with_reducible refine Ext.trans ?_ hb1 | with_reducible refine Ext.trans ?_ hw))), hs2.out⟩
        case measure => omega
    · obtain rfl : k = ds.length := by omega
      rw [List.take_length, hin] at hQ
      cases hQ
end Go.Proofs.YtdlpifgkponnmaaDoor
set_option linter.unusedVariables false
set_option linter.unusedSimpArgs false
set_option maxRecDepth 100000
namespace Go.Proofs.YtdlpifgkponnmaaDoor
open Go.RowKit
end Go.Proofs.YtdlpifgkponnmaaDoor
set_option linter.unusedVariables false
set_option linter.unusedSimpArgs false
set_option maxRecDepth 100000
namespace Go.Proofs.YtdlpifgkponnmaaDoor
open Go.RowKit
theorem sm_zeroD : isMaskB 0 = true := by decide
theorem sm_bitD {h : Int} (h0 : 0 ≤ h) (h1 : h < 96) : isMaskB (mbit h) = true := by
  unfold isMaskB
  rw [decide_eq_true_eq, mbit_toNat h h0 (by omega)]
  exact Nat.pow_lt_pow_right (by decide) (by omega : h.toNat < 96)
theorem nms_nodup : nmsL.Nodup := by decide +kernel
/-- A deck as it is drawn. -/
structure DrawnD (ds : List Crd) : Prop where
  masks : ∀ c ∈ ds, isMaskB c.m = true
  len : ds.length ≤ 8
  names : ds.map Crd.nm = nmsL.take ds.length
theorem DrawnD.good {ds : List Crd} (h : DrawnD ds) : ∀ c ∈ ds, isCardB c = true := by
  intro c hc
  unfold isCardB
  rw [h.masks c hc, Bool.and_true]
  have hm : c.nm ∈ ds.map Crd.nm := List.mem_map_of_mem hc
  rw [h.names] at hm
  exact List.all_eq_true.1 nms_good _ (List.mem_of_mem_take hm)
theorem DrawnD.deck {ds : List Crd} (h : DrawnD ds) : deckB ds = true := by
  have hl := h.len
  have hn : (ds.map Crd.nm).Nodup := by rw [h.names]; exact nms_nodup.sublist (List.take_sublist _ _)
  unfold deckB okD
  rw [decide_eq_true (by omega), List.all_eq_true.2 h.good, decide_eq_true hn]
  rfl
theorem DrawnD.small {ds : List Crd} (h : DrawnD ds) : ∀ c ∈ ds, c.nm.size ≤ 9223372036854775807 := fun c hc => by
  have := h.good c hc
  unfold isCardB at this
  rw [Bool.and_eq_true] at this
  exact nm_small this.1
theorem DrawnD.push {ds : List Crd} (h : DrawnD ds) (hl : ds.length < 8) (m : Mask) (hm : isMaskB m = true) : DrawnD (ds ++ [⟨nmsL[ds.length]!, m⟩]) := by
  have hin : nmsL[ds.length]! = nmsL[ds.length]'(by rw [nms_len]; omega) := getElem!_pos nmsL _ _
  refine ⟨fun c hc => ?_, by rw [List.length_append, List.length_singleton]; omega, ?_⟩
  · rcases List.mem_append.1 hc with h1 | h1
    · exact h.masks c h1
    · rw [List.mem_singleton.1 h1]; exact hm
  · rw [List.map_append, h.names, List.length_append, List.length_singleton, List.take_succ_eq_append_getElem (by rw [nms_len]; omega), List.map_singleton, hin]
theorem DrawnD.nil : DrawnD [] := ⟨(fun c hc => by cases hc), (by simp), rfl⟩
theorem info_CrdK : (Tryd.prog.info? 60).map (fun i => (i.zero, i.size, i.bytes)) = some (some (.agg #[.string ⟨#[]⟩, .int .u64 0, .int .u64 0]), encCrd.sz, 32) := by kernel_rfl
theorem spec_l02Named (i : Nat) (hi12 : i < 12) (w : World) :
    Calls Tryd.prog 78 #[.int .i64 i] w fun e w' => e = .returned (.string nmsL[i]!) ∧ Ext w w' := by
  have e1 : IntKind.i64.wrap ((i : Int).tmod 12) = i := by rw [Int.tmod_eq_emod_of_nonneg (by omega)]; exact (IntWalk.i64_in _ (by omega)).trans (by omega)
  have e2 : (i : Int) % 12 = i := by omega
  have e3 : (i : Int) / 12 = 0 := by omega
  have e4 : (i : Int).tdiv 12 = 0 := by rw [Int.tdiv_eq_ediv_of_nonneg (by omega)]; omega
  have e5 : IntKind.i64.wrap (i : Int) = i := IntWalk.i64_in _ (by omega)
  have i2 : (i : Int) < 12 := by omega
  have hget := getElem!_pos nmsL i (by rw [nms_len]; omega)
  have hsn : ∀ (W : World) (b : Nat), Rd encStr W (some ⟨b, 0, none⟩) nmsL → W.cell? ⟨b, i, none⟩ = some (.string nmsL[i]!) := fun W b h => by
    have := h.str i (by rw [nms_len]; omega)
    rw [Nat.zero_add] at this
    rw [hget]; exact this
  clear hget
  generalize nmsL[i]! = nm at hsn ⊢
  go_enter Tryd.func78, Tryd.ntmps78
  go_wp2_with fail
  refine Calls.mono (spec_l01Names _) ?_
  rintro e w1 ⟨b, rfl, hN, hb0, hb1, hE1⟩
  have m0 := hsn _ _ hN
  clear hsn
  go_wp2
  go_loopg [5, 6] 0 (fun g v kv wr => g = 0 ∧ v = .string nm ∧ kv = .int .i64 0 ∧ Ext w wr)
  case atStart => exact ⟨rfl, rfl, rfl, hE1⟩
  case round =>
    obtain ⟨hg, rfl, rfl, hw⟩ := hrel
    go_wp2
    go_ret
    exact ⟨rfl, hw⟩
set_option maxHeartbeats 8000000 in
theorem spec_l02Drawn (base b n : Nat) (xs : List Fld) (L : Option Addr) (lcap : Nat) (w : World) (hS : Src w base b n) (hn : n + 300 ≤ 1099511627776) (hL : Rd encFld w L xs) (hLb : ∀ p, L = some p → p.block < b) (hx5 : xs.length ≤ 5) (hDs : DrawnS xs) :
    Calls Tryd.prog 48 #[.pointer (some ⟨b, 0, none⟩), .slice L xs.length lcap] w fun e w' => ∃ ds v, e = .returned v ∧ Ow encCrd 60 w' w.heap.size v ds ∧ DrawnD ds ∧ Src w' base b (n + 300) ∧ Win b (b + 1) w w' := by
  have lS := hS.lt
  have hbs := hS.base
  go_enter Tryd.func48, Tryd.ntmps48
  have hE1 := (Ext.refl w).alloc (.cells #[] 60)
  have hO1 : Ow encCrd 60 (w.alloc (.cells #[] 60)) w.heap.size (.slice (some ⟨w.heap.size, 0, none⟩) 0 0) [] := Ow.made0 (T := 60) (W := w) rfl (Nat.le_refl _)
  go_wp2_with fail
  refine Calls.mono (src_pick base b n 9 (by omega) _ (hS.ext hE1) (by omega)) ?_
  rintro e w2 ⟨k0, rfl, k00, k01, hS2, hW2⟩
  have hO2 := hO1.win hW2 (fun b' h => .inr (by have := (hO1.lt b' h).1; omega))
  have hL2 := (hL.ext hE1).winN hW2 (fun _ p hp => .inl (hLb p hp))
  have hw2 := (Win.of (lo := b) (hi := b + 1) hE1).trans hW2
  clear hO1 hE1 hW2 hS
  obtain ⟨k0, rfl⟩ := Int.eq_ofNat_of_zero_le k00
  go_wp2
  go_loopg [5, 6] k0 (fun g v kv wr => ∃ k : Nat, ∃ ds : List Crd, g = k ∧ kv = .int .i64 k ∧ Hd (ds.length + k = k0) ∧ DrawnD ds ∧ Ow encCrd 60 wr w.heap.size v ds ∧ Rd encFld wr L xs ∧ Src wr base b (n + 300 - 30 * k) ∧ Win b (b + 1) w wr)
  case atStart => exact ⟨k0, [], rfl, rfl, hd (by simp), DrawnD.nil, hO2, hL2, hS2.up (by omega) (by omega), hw2⟩
  case round =>
    obtain ⟨k, ds, hg, rfl, hlen, hD, hO, hLr, hSr, hw⟩ := hrel
    obtain ⟨wo, hwo⟩ : ∃ x, x = wr := ⟨_, rfl⟩
    subst hwo
    clear hS2 hO2 hL2 hw2 k00
    cases k with
    | zero =>
      go_wp2
      go_ret
      exact ⟨ds, _, rfl, hO, hD, hSr, hw⟩
    | succ k =>
      have hlen2 := hlen.out
      have hd8 : ds.length < 8 := by omega
      have i1 : ((0 : Int) < (k + 1 : Nat)) = True := eq_true (by omega)
      rw [show ((k + 1 : Nat) : Int) = (k : Int) + 1 from rfl] at *
      have hpush := fun m hm => hD.push hd8 m hm
      have hnmd := fun W => spec_l02Named ds.length (by omega) W
      generalize nmsL[ds.length]! = nm at hpush hnmd
      have lw := hw.size
      obtain ⟨A, cap, rfl, hle, hR⟩ := hO.slice
      clear hlen2 hle hR
      go_wp2_with fail
      refine Calls.mono (hnmd wo) ?_
      rintro e w3 ⟨rfl, hb3⟩
      clear hnmd
      have kE := hb3.alloc (.cells #[.string nm, .int .u64 0, .int .u64 0] 60)
      have hX3 : BoxAt (w3.alloc (.cells #[.string nm, .int .u64 0, .int .u64 0] 60)) w3.heap.size #[.string nm, .int .u64 (lo 0), .int .u64 (hi 0)] 60 := BoxAt.new' rfl
      have hO3 := hO.ext kE
      have hL3 := hLr.ext kE
      have hS3 := hSr.ext kE
      have hw3 := hw.ext kE
      have l3 := hb3.size
      have hob := fun b' h => (hO.lt b' h)
      clear hO hLr hSr hw hb3 kE
      generalize hbx : w3.heap.size = bx at hX3 l3
      have hne : (Value.slice A ds.length cap).ownBlock ≠ some bx := fun h => by have := (hob _ h).2; omega
      go_wp2
      clear hbx
      go_loopg [8] xs.length (fun g iv wi => ∃ i : Nat, ∃ m : Mask, g = xs.length - i ∧ i ≤ xs.length ∧ iv = .int .i64 i ∧ isMaskB m = true ∧ BoxAt wi bx #[.string nm, .int .u64 (lo m), .int .u64 (hi m)] 60 ∧ Ow encCrd 60 wi w.heap.size (.slice A ds.length cap) ds ∧ Rd encFld wi L xs ∧ Src wi base b (n + 300 - 30 * (k + 1) + 4 * i) ∧ Win b (b + 1) w wi)
      case atStart => exact ⟨0, 0, by omega, by omega, rfl, sm_zeroD, hX3, hO3, hL3, hS3, hw3⟩
      case round =>
        obtain ⟨i, m, hgi, hil, rfl, hm, hX, hO, hLi, hS, hw⟩ := hrel
        clear hX3 hO3 hL3 hS3 hw3
        by_cases hi5 : i < xs.length
        · obtain ⟨bL, oL, hAL, hltL, hrL⟩ := hLi i hi5
          subst hAL
          clear hrL hltL
          have hfd := hDs _ (List.getElem_mem hi5)
          have hbL : bL < b := hLb _ rfl
          have hFa := fun W (h : Rd encFld W (some ⟨bL, oL, none⟩) xs) => h.fldAt i hi5
          generalize xs[i] = f at hFa hfd
          have q1 : (i : Int) < xs.length := by omega
          go_wp2_with fail
          refine Calls.mono (src_one base b _ 8 (by omega) wr hS (by omega)) ?_
          rintro e w4 ⟨one, rfl, hSw4, hWw4⟩
          have hXw4 := hX.win hWw4 (.inr (by omega))
          have hOw4 := hO.win hWw4 (fun b' h => .inr (by have := (hob b' h).1; omega))
          have hLw4 := hLi.winN hWw4 (fun _ p hp => .inl (hLb p hp))
          have hww4 := hw.trans hWw4
          clear hX hO hLi hS hw hWw4
          cases one with
          | true =>
            go_wp2
            go_roundg (xs.length - (i + 1))
            case rel => exact ⟨i + 1, m, rfl, by omega, by first | rfl | simp, hm, hXw4, hOw4, hLw4, hSw4.up (by omega) (by omega), hww4⟩
            case measure => omega
          | false =>
            have hf := hfd.1
            have hL0 := code_law hf hfd.2
            have hmo := mostF_le f hf
            have j1 : IntKind.i64.wrap (mostF f + 1) = mostF f + 1 := IntWalk.i64_in _ (by omega)
            go_wp2
            refine wp_region_any (by kernel_rfl) ?_
            change wpAny _ _ _ _ _ _ _ (World.drew _)
            refine intro_world (fun WD hWD => ?_)
            have eD : Ext w4 WD := by rw [hWD]; exact (Ext.refl _).drew
            clear hWD
            have hXWD := hXw4.ext eD
            have hOWD := hOw4.ext eD
            have hLWD := hLw4.ext eD
            have hSWD := hSw4.ext eD
            have hwWD := hww4.ext eD
            clear hXw4 hOw4 hLw4 hSw4 hww4 eD
            refine wpAny_take (i := 0) (v := ?_) rfl (by kernel_rfl) (by kernel_rfl) (by kernel_rfl) (fun _ _ _ h => h) (Or.inl ⟨by rfl, ?_⟩) ?_
            rotate_left
            · (intro W9; go_simp; try with_reducible rfl)
            refine wpAny_take (i := 2) (v := ?_) rfl (by kernel_rfl) (by kernel_rfl) (by kernel_rfl) (fun _ _ _ h => h) (Or.inl ⟨by rfl, ?_⟩) ?_
            rotate_left
            · (intro W9; go_simp; try with_reducible rfl)
            refine wpAny_take (i := 3) (v := ?_) rfl (by kernel_rfl) (by kernel_rfl) (by kernel_rfl) (fun _ _ _ h => h) (Or.inl ⟨by rfl, ?_⟩) ?_
            rotate_left
            · (intro W9; go_simp; try with_reducible rfl)
            refine wpAny_take (i := 4) (v := ?_) rfl (by kernel_rfl) (by kernel_rfl) (by kernel_rfl) (fun _ _ _ h => h) (Or.inl ⟨by rfl, ?_⟩) ?_
            rotate_left
            · (intro W9; go_simp; try with_reducible rfl)
            refine wpAny_take (i := 5) (v := ?_) rfl (by kernel_rfl) (by kernel_rfl) (by kernel_rfl) (fun _ _ _ h => h) (Or.inl ⟨by rfl, ?_⟩) ?_
            rotate_left
            · (intro W9; go_simp; try with_reducible rfl)
            refine wpAny_take (i := 6) (v := ?_) rfl (by kernel_rfl) (by kernel_rfl) (by kernel_rfl) (fun _ _ _ h => h) (Or.inl ⟨by rfl, ?_⟩) ?_
            rotate_left
            · (intro W9; go_simp; try with_reducible rfl)
            refine wpAny_take (i := 7) (v := ?_) rfl (by kernel_rfl) (by kernel_rfl) (by kernel_rfl) (fun _ _ _ h => h) (Or.inl ⟨by rfl, ?_⟩) ?_
            rotate_left
            · (intro W9; go_simp; try with_reducible rfl)
            refine wpAny_take (i := 8) (v := ?_) rfl (by kernel_rfl) (by kernel_rfl) (by kernel_rfl) (fun _ _ _ h => h) (Or.inl ⟨by rfl, ?_⟩) ?_
            rotate_left
            · (intro W9; go_simp; try with_reducible rfl)
            apply Conv.convR (C := fun v W => 0 ≤ v ∧ v ≤ mostF f ∧ BoxAt W bx #[.string nm, .int .u64 (lo m), .int .u64 (hi m)] 60 ∧ Ow encCrd 60 W w.heap.size (.slice A ds.length cap) ds ∧ Rd encFld W (some ⟨bL, oL, none⟩) xs ∧ Src W base b (n + 300 - 30 * (k + 1) + 4 * i + 2 + 2) ∧ Win b (b + 1) w W)
            case h =>
              intro hk
              refine wpAny_ready (rs := [1, 9]) (by kernel_rfl) (by simp) ?_
              refine AllReady.cons rfl (fun K hK => ?_) (AllReady.cons rfl (fun K hK => ?_) AllReady.nil)
              · have y0 : WD.cell? ⟨bx, 0, none⟩ = some (.string nm) := hXWD.cell 0
                have y1 : WD.cell? ⟨bx, 1, none⟩ = some (.int .u64 (lo m)) := hXWD.cell 1
                have y2 : WD.cell? ⟨bx, 2, none⟩ = some (.int .u64 (hi m)) := hXWD.cell 2
                have ly := hXWD.lt
                go_simp
                refine hK _ _ ?_
                clear hK K
                clear ly y0 y1 y2
                refine wpAny_ready (rs := [9]) (by kernel_rfl) (by simp) ?_
                refine AllReady.cons rfl (fun K hK => ?_) ?_
                rotate_left
                · exact AllReady.nil
                go_simp
                go_wp2_with fail
                refine Calls.mono (spec_l01Most f hf bL (oL + i * 4) WD (hFa _ hLWD)) ?_
                rintro e w5 ⟨rfl, hbw5⟩
                have hXw5 := hXWD.ext hbw5
                have hOw5 := hOWD.ext hbw5
                have hLw5 := hLWD.ext hbw5
                have hSw5 := hSWD.ext hbw5
                have hww5 := hwWD.ext hbw5
                go_wp2_with fail
                refine wpAny_take (i := 10) (v := ?_) rfl (by kernel_rfl) (by kernel_rfl) (by kernel_rfl) (fun _ _ _ h => h) (Or.inl ⟨by rfl, ?_⟩) ?_
                rotate_left
                · (intro W9; go_simp; try with_reducible rfl)
                refine wpAny_ready (rs := [11]) (by kernel_rfl) (by simp) ?_
                refine AllReady.cons rfl (fun K hK => ?_) ?_
                rotate_left
                · exact AllReady.nil
                go_simp
                go_wp2_with fail
                refine Calls.mono (src_pick base b _ (mostF f + 1) (by omega) w5 hSw5 (by omega)) ?_
                rintro e w6 ⟨v, rfl, v0, v1, hSw6, hWw6⟩
                have hXw6 := hXw5.win hWw6 (.inr (by omega))
                have hOw6 := hOw5.win hWw6 (fun b' h => .inr (by have := (hob b' h).1; omega))
                have hLw6 := hLw5.winN hWw6 (fun _ p hp => .inl (hLb p hp))
                have hww6 := hww5.trans hWw6
                go_wp2_with fail
                refine wpAny_ready (rs := [12]) (by kernel_rfl) (by simp) ?_
                refine AllReady.cons rfl (fun K hK => ?_) ?_
                rotate_left
                · exact AllReady.nil
                go_simp
                go_wp2_with fail
                refine Calls.mono (spec_l01Code f hf v v0 (by omega) bL (oL + i * 4) w6 (hFa _ hLw6)) ?_
                rintro e w7 ⟨rfl, hbw7⟩
                have hXw7 := hXw6.ext hbw7
                have hOw7 := hOw6.ext hbw7
                have hLw7 := hLw6.ext hbw7
                have hSw7 := hSw6.ext hbw7
                have hww7 := hww6.ext hbw7
                go_wp2_with fail
                exact hk v w7 ⟨v0, by omega, hXw7, hOw7, hLw7, hSw7, hww7⟩
              · go_simp
                go_wp2_with fail
                refine Calls.mono (spec_l01Most f hf bL (oL + i * 4) WD (hFa _ hLWD)) ?_
                rintro e w5 ⟨rfl, hbw5⟩
                have hXw5 := hXWD.ext hbw5
                have hOw5 := hOWD.ext hbw5
                have hLw5 := hLWD.ext hbw5
                have hSw5 := hSWD.ext hbw5
                have hww5 := hwWD.ext hbw5
                go_wp2_with fail
                refine wpAny_take (i := 10) (v := ?_) rfl (by kernel_rfl) (by kernel_rfl) (by kernel_rfl) (fun _ _ _ h => h) (Or.inl ⟨by rfl, ?_⟩) ?_
                rotate_left
                · (intro W9; go_simp; try with_reducible rfl)
                refine wpAny_ready (rs := [1, 11]) (by kernel_rfl) (by simp) ?_
                refine AllReady.cons rfl (fun K hK => ?_) (AllReady.cons rfl (fun K hK => ?_) AllReady.nil)
                · have y0 : w5.cell? ⟨bx, 0, none⟩ = some (.string nm) := hXw5.cell 0
                  have y1 : w5.cell? ⟨bx, 1, none⟩ = some (.int .u64 (lo m)) := hXw5.cell 1
                  have y2 : w5.cell? ⟨bx, 2, none⟩ = some (.int .u64 (hi m)) := hXw5.cell 2
                  have ly := hXw5.lt
                  go_simp
                  refine hK _ _ ?_
                  clear hK K
                  clear ly y0 y1 y2
                  refine wpAny_ready (rs := [11]) (by kernel_rfl) (by simp) ?_
                  refine AllReady.cons rfl (fun K hK => ?_) ?_
                  rotate_left
                  · exact AllReady.nil
                  go_simp
                  go_wp2_with fail
                  refine Calls.mono (src_pick base b _ (mostF f + 1) (by omega) w5 hSw5 (by omega)) ?_
                  rintro e w6 ⟨v, rfl, v0, v1, hSw6, hWw6⟩
                  have hXw6 := hXw5.win hWw6 (.inr (by omega))
                  have hOw6 := hOw5.win hWw6 (fun b' h => .inr (by have := (hob b' h).1; omega))
                  have hLw6 := hLw5.winN hWw6 (fun _ p hp => .inl (hLb p hp))
                  have hww6 := hww5.trans hWw6
                  go_wp2_with fail
                  refine wpAny_ready (rs := [12]) (by kernel_rfl) (by simp) ?_
                  refine AllReady.cons rfl (fun K hK => ?_) ?_
                  rotate_left
                  · exact AllReady.nil
                  go_simp
                  go_wp2_with fail
                  refine Calls.mono (spec_l01Code f hf v v0 (by omega) bL (oL + i * 4) w6 (hFa _ hLw6)) ?_
                  rintro e w7 ⟨rfl, hbw7⟩
                  have hXw7 := hXw6.ext hbw7
                  have hOw7 := hOw6.ext hbw7
                  have hLw7 := hLw6.ext hbw7
                  have hSw7 := hSw6.ext hbw7
                  have hww7 := hww6.ext hbw7
                  go_wp2_with fail
                  exact hk v w7 ⟨v0, by omega, hXw7, hOw7, hLw7, hSw7, hww7⟩
                · go_simp
                  go_wp2_with fail
                  refine Calls.mono (src_pick base b _ (mostF f + 1) (by omega) w5 hSw5 (by omega)) ?_
                  rintro e w6 ⟨v, rfl, v0, v1, hSw6, hWw6⟩
                  have hXw6 := hXw5.win hWw6 (.inr (by omega))
                  have hOw6 := hOw5.win hWw6 (fun b' h => .inr (by have := (hob b' h).1; omega))
                  have hLw6 := hLw5.winN hWw6 (fun _ p hp => .inl (hLb p hp))
                  have hww6 := hww5.trans hWw6
                  go_wp2_with fail
                  refine wpAny_ready (rs := [1, 12]) (by kernel_rfl) (by simp) ?_
                  refine AllReady.cons rfl (fun K hK => ?_) (AllReady.cons rfl (fun K hK => ?_) AllReady.nil)
                  · have y0 : w6.cell? ⟨bx, 0, none⟩ = some (.string nm) := hXw6.cell 0
                    have y1 : w6.cell? ⟨bx, 1, none⟩ = some (.int .u64 (lo m)) := hXw6.cell 1
                    have y2 : w6.cell? ⟨bx, 2, none⟩ = some (.int .u64 (hi m)) := hXw6.cell 2
                    have ly := hXw6.lt
                    go_simp
                    refine hK _ _ ?_
                    clear hK K
                    clear ly y0 y1 y2
                    refine wpAny_ready (rs := [12]) (by kernel_rfl) (by simp) ?_
                    refine AllReady.cons rfl (fun K hK => ?_) ?_
                    rotate_left
                    · exact AllReady.nil
                    go_simp
                    go_wp2_with fail
                    refine Calls.mono (spec_l01Code f hf v v0 (by omega) bL (oL + i * 4) w6 (hFa _ hLw6)) ?_
                    rintro e w7 ⟨rfl, hbw7⟩
                    have hXw7 := hXw6.ext hbw7
                    have hOw7 := hOw6.ext hbw7
                    have hLw7 := hLw6.ext hbw7
                    have hSw7 := hSw6.ext hbw7
                    have hww7 := hww6.ext hbw7
                    go_wp2_with fail
                    exact hk v w7 ⟨v0, by omega, hXw7, hOw7, hLw7, hSw7, hww7⟩
                  · go_simp
                    go_wp2_with fail
                    refine Calls.mono (spec_l01Code f hf v v0 (by omega) bL (oL + i * 4) w6 (hFa _ hLw6)) ?_
                    rintro e w7 ⟨rfl, hbw7⟩
                    have hXw7 := hXw6.ext hbw7
                    have hOw7 := hOw6.ext hbw7
                    have hLw7 := hLw6.ext hbw7
                    have hSw7 := hSw6.ext hbw7
                    have hww7 := hww6.ext hbw7
                    go_wp2_with fail
                    have y0 : w7.cell? ⟨bx, 0, none⟩ = some (.string nm) := hXw7.cell 0
                    have y1 : w7.cell? ⟨bx, 1, none⟩ = some (.int .u64 (lo m)) := hXw7.cell 1
                    have y2 : w7.cell? ⟨bx, 2, none⟩ = some (.int .u64 (hi m)) := hXw7.cell 2
                    have ly := hXw7.lt
                    refine wpAny_ready (rs := [1]) (by kernel_rfl) (by simp) ?_
                    refine AllReady.cons rfl (fun K hK => ?_) ?_
                    rotate_left
                    · exact AllReady.nil
                    go_simp
                    refine hK _ _ ?_
                    clear hK K
                    clear ly y0 y1 y2
                    exact hk v w7 ⟨v0, by omega, hXw7, hOw7, hLw7, hSw7, hww7⟩
            rintro v W ⟨v0, v1, hX5, hO5, hL5, hS5, hw5⟩
            have hcm := code_mask hf hL0 v0 v1
            have hjn := fun W => spec_l01Join m (codeF f v) W
            have hm2 := sm_joinV hm hcm
            generalize codeF f v = cv at hjn hm2 ⊢
            generalize mjoin m cv = m2 at hjn hm2
            clear hcm j1
            refine wpAny_ready (rs := [13]) (by kernel_rfl) (by simp) ?_
            refine AllReady.cons rfl (fun K hK => ?_) ?_
            rotate_left
            · exact AllReady.nil
            go_simp
            go_wp2_with fail
            refine Calls.mono (hjn W) ?_
            rintro e w8 ⟨rfl, hb8⟩
            have hX8 := hX5.ext hb8
            have hO8 := hO5.ext hb8
            have hL8 := hL5.ext hb8
            have hS8 := hS5.ext hb8
            have hw8 := hw5.ext hb8
            clear hX5 hO5 hL5 hS5 hw5 hb8 hjn
            have y0 : w8.cell? ⟨bx, 0, none⟩ = some (.string nm) := hX8.cell 0
            have y1 : w8.cell? ⟨bx, 1, none⟩ = some (.int .u64 (lo m)) := hX8.cell 1
            have y2 : w8.cell? ⟨bx, 2, none⟩ = some (.int .u64 (hi m)) := hX8.cell 2
            have ly := hX8.lt
            have f1 := hX8.frozen 1
            have f2 := hX8.frozen 2
            go_wp2_with fail
            refine wpAny_take (i := 14) (v := ?_) rfl (by kernel_rfl) (by kernel_rfl) (by kernel_rfl) (fun _ _ _ h => h) (Or.inl ⟨by rfl, ?_⟩) ?_
            rotate_left
            · (intro W9; go_simp; try with_reducible rfl)
            refine wpAny_ready (rs := [15]) (by kernel_rfl) (by simp) ?_
            refine AllReady.cons rfl (fun K hK => ?_) ?_
            rotate_left
            · exact AllReady.nil
            go_simp
            refine hK _ _ ?_
            clear hK K
            refine wpAny_done (by kernel_rfl) ?_ _
            have hX9 := (hX8.set 1 (.int .u64 (lo m2))).set 2 (.int .u64 (hi m2))
            have hO9 := (hO8.far (p := ⟨bx, 1, none⟩) hne (.int .u64 (lo m2))).far (p := ⟨bx, 2, none⟩) hne (.int .u64 (hi m2))
            have hL9 := hL8.win (lo := bx) (hi := bx + 1) (((Win.refl _ _ w8).set1 (i := 1) (.int .u64 (lo m2))).set1 (i := 2) (.int .u64 (hi m2))) (fun p hp => by cases hp; exact .inl (by show bL < bx; omega))
            have hS9 := (hS8.set (p := ⟨bx, 1, none⟩) (show base ≤ bx by omega) (show bx ≠ b by omega) (.int .u64 (lo m2))).set (p := ⟨bx, 2, none⟩) (show base ≤ bx by omega) (show bx ≠ b by omega) (.int .u64 (hi m2))
            have hw9 := (hw8.setOut (p := ⟨bx, 1, none⟩) (show w.heap.size ≤ bx by omega) (.int .u64 (lo m2))).setOut (p := ⟨bx, 2, none⟩) (show w.heap.size ≤ bx by omega) (.int .u64 (hi m2))
            clear y0 y1 y2 ly f1 f2 hX8 hO8 hL8 hS8 hw8
            go_wp2
            go_roundg (xs.length - (i + 1))
            case rel => exact ⟨i + 1, m2, rfl, by omega, by first | rfl | simp, hm2, hX9, hO9, hL9, hS9.up (by omega) (by omega), hw9⟩
            case measure => omega
        · obtain rfl : i = xs.length := by omega
          go_wp2_with fail
          refine Calls.mono (src_one base b _ 8 (by omega) wr hS (by omega)) ?_
          rintro e w4 ⟨one, rfl, hSw4, hWw4⟩
          have hXw4 := hX.win hWw4 (.inr (by omega))
          have hOw4 := hO.win hWw4 (fun b' h => .inr (by have := (hob b' h).1; omega))
          have hLw4 := hLi.winN hWw4 (fun _ p hp => .inl (hLb p hp))
          have hww4 := hw.trans hWw4
          clear hX hO hLi hS hw hWw4
          cases one with
          | false =>
            have kX := hXw4
            have kO := hOw4
            have kL := hLw4
            have kS := hSw4
            have kw := hww4
            clear hXw4 hOw4 hLw4 hSw4 hww4
            have x0 : w4.cell? ⟨bx, 0, none⟩ = some (.string nm) := kX.cell 0
            have x1 : w4.cell? ⟨bx, 1, none⟩ = some (.int .u64 (lo m)) := kX.cell 1
            have x2 : w4.cell? ⟨bx, 2, none⟩ = some (.int .u64 (hi m)) := kX.cell 2
            have lx := kX.lt
            have kz := kw.size
            have kl := hlen.out
            go_wp2_with (at_builtin; refine wpList_pushW (base := w.heap.size) (xs := ds) encCrd (by rfl) _ _ 29 (.agg #[.string ⟨#[]⟩, .int .u64 0, .int .u64 0]) 32 (by rfl) Tryd.underlying29 info_CrdK (by rfl) (⟨nm, m⟩ : Crd) (by rfl) (by rfl) (by simp) kO (by simpa using kz) (by omega) (by omega) ?_)
            intro v7 W7 hO7 hg7 ho7
            have hL7 := kL.grown hg7 (fun p hp h => by have h1 := (kO.lt _ h).1; have h2 := hLb p hp; omega)
            have hS7 := kS.grown hg7 (fun j hj => by have := (kO.lt j hj).1; omega)
            have hw7 := kw.grownOut hg7 (fun j hj => (kO.lt j hj).1)
            have hD7 := hpush (m) hm
            have hlen7 : Hd ((ds ++ [(⟨nm, m⟩ : Crd)]).length + k = k0) := hd (by rw [List.length_append, List.length_singleton]; omega)
            clear x0 x1 x2 lx
            go_wp2
            go_roundg k
            case rel => exact ⟨k, _, rfl, rfl, hlen7, hD7, hO7, hL7, hS7.up (by omega) (by omega), hw7⟩
            case measure => omega
          | true =>
            go_wp2
            refine wp_region_any (by kernel_rfl) ?_
            change wpAny _ _ _ _ _ _ _ (World.drew _)
            refine intro_world (fun WD hWD => ?_)
            have eD : Ext w4 WD := by rw [hWD]; exact (Ext.refl _).drew
            clear hWD
            have hXWD := hXw4.ext eD
            have hOWD := hOw4.ext eD
            have hLWD := hLw4.ext eD
            have hSWD := hSw4.ext eD
            have hwWD := hww4.ext eD
            clear hXw4 hOw4 hLw4 hSw4 hww4 eD
            refine wpAny_take (i := 0) (v := ?_) rfl (by kernel_rfl) (by kernel_rfl) (by kernel_rfl) (fun _ _ _ h => h) (Or.inl ⟨by rfl, ?_⟩) ?_
            rotate_left
            · (intro W9; go_simp; try with_reducible rfl)
            refine wpAny_take (i := 2) (v := ?_) rfl (by kernel_rfl) (by kernel_rfl) (by kernel_rfl) (fun _ _ _ h => h) (Or.inl ⟨by rfl, ?_⟩) ?_
            rotate_left
            · (intro W9; go_simp; try with_reducible rfl)
            apply Conv.convR (C := fun v W => 0 ≤ v ∧ v < 96 ∧ BoxAt W bx #[.string nm, .int .u64 (lo m), .int .u64 (hi m)] 60 ∧ Ow encCrd 60 W w.heap.size (.slice A ds.length cap) ds ∧ Rd encFld W L xs ∧ Src W base b (n + 300 - 30 * (k + 1) + 4 * xs.length + 2 + 2) ∧ Win b (b + 1) w W)
            case h =>
              intro hk
              refine wpAny_ready (rs := [1, 3]) (by kernel_rfl) (by simp) ?_
              refine AllReady.cons rfl (fun K hK => ?_) (AllReady.cons rfl (fun K hK => ?_) AllReady.nil)
              · have y0 : WD.cell? ⟨bx, 0, none⟩ = some (.string nm) := hXWD.cell 0
                have y1 : WD.cell? ⟨bx, 1, none⟩ = some (.int .u64 (lo m)) := hXWD.cell 1
                have y2 : WD.cell? ⟨bx, 2, none⟩ = some (.int .u64 (hi m)) := hXWD.cell 2
                have ly := hXWD.lt
                go_simp
                refine hK _ _ ?_
                clear hK K
                clear ly y0 y1 y2
                refine wpAny_ready (rs := [3]) (by kernel_rfl) (by simp) ?_
                refine AllReady.cons rfl (fun K hK => ?_) ?_
                rotate_left
                · exact AllReady.nil
                go_simp
                go_wp2_with fail
                refine Calls.mono (src_pick base b _ 96 (by omega) WD hSWD (by omega)) ?_
                rintro e w6 ⟨v, rfl, v0, v1, hSw6, hWw6⟩
                have hXw6 := hXWD.win hWw6 (.inr (by omega))
                have hOw6 := hOWD.win hWw6 (fun b' h => .inr (by have := (hob b' h).1; omega))
                have hLw6 := hLWD.winN hWw6 (fun _ p hp => .inl (hLb p hp))
                have hww6 := hwWD.trans hWw6
                go_wp2_with fail
                refine wpAny_ready (rs := [4]) (by kernel_rfl) (by simp) ?_
                refine AllReady.cons rfl (fun K hK => ?_) ?_
                rotate_left
                · exact AllReady.nil
                go_simp
                go_wp2_with fail
                refine Calls.mono (spec_l01Bit v (by omega) (by omega) w6) ?_
                rintro e w7 ⟨rfl, hbw7⟩
                have hXw7 := hXw6.ext hbw7
                have hOw7 := hOw6.ext hbw7
                have hLw7 := hLw6.ext hbw7
                have hSw7 := hSw6.ext hbw7
                have hww7 := hww6.ext hbw7
                go_wp2_with fail
                exact hk v w7 ⟨v0, by omega, hXw7, hOw7, hLw7, hSw7, hww7⟩
              · go_simp
                go_wp2_with fail
                refine Calls.mono (src_pick base b _ 96 (by omega) WD hSWD (by omega)) ?_
                rintro e w6 ⟨v, rfl, v0, v1, hSw6, hWw6⟩
                have hXw6 := hXWD.win hWw6 (.inr (by omega))
                have hOw6 := hOWD.win hWw6 (fun b' h => .inr (by have := (hob b' h).1; omega))
                have hLw6 := hLWD.winN hWw6 (fun _ p hp => .inl (hLb p hp))
                have hww6 := hwWD.trans hWw6
                go_wp2_with fail
                refine wpAny_ready (rs := [1, 4]) (by kernel_rfl) (by simp) ?_
                refine AllReady.cons rfl (fun K hK => ?_) (AllReady.cons rfl (fun K hK => ?_) AllReady.nil)
                · have y0 : w6.cell? ⟨bx, 0, none⟩ = some (.string nm) := hXw6.cell 0
                  have y1 : w6.cell? ⟨bx, 1, none⟩ = some (.int .u64 (lo m)) := hXw6.cell 1
                  have y2 : w6.cell? ⟨bx, 2, none⟩ = some (.int .u64 (hi m)) := hXw6.cell 2
                  have ly := hXw6.lt
                  go_simp
                  refine hK _ _ ?_
                  clear hK K
                  clear ly y0 y1 y2
                  refine wpAny_ready (rs := [4]) (by kernel_rfl) (by simp) ?_
                  refine AllReady.cons rfl (fun K hK => ?_) ?_
                  rotate_left
                  · exact AllReady.nil
                  go_simp
                  go_wp2_with fail
                  refine Calls.mono (spec_l01Bit v (by omega) (by omega) w6) ?_
                  rintro e w7 ⟨rfl, hbw7⟩
                  have hXw7 := hXw6.ext hbw7
                  have hOw7 := hOw6.ext hbw7
                  have hLw7 := hLw6.ext hbw7
                  have hSw7 := hSw6.ext hbw7
                  have hww7 := hww6.ext hbw7
                  go_wp2_with fail
                  exact hk v w7 ⟨v0, by omega, hXw7, hOw7, hLw7, hSw7, hww7⟩
                · go_simp
                  go_wp2_with fail
                  refine Calls.mono (spec_l01Bit v (by omega) (by omega) w6) ?_
                  rintro e w7 ⟨rfl, hbw7⟩
                  have hXw7 := hXw6.ext hbw7
                  have hOw7 := hOw6.ext hbw7
                  have hLw7 := hLw6.ext hbw7
                  have hSw7 := hSw6.ext hbw7
                  have hww7 := hww6.ext hbw7
                  go_wp2_with fail
                  have y0 : w7.cell? ⟨bx, 0, none⟩ = some (.string nm) := hXw7.cell 0
                  have y1 : w7.cell? ⟨bx, 1, none⟩ = some (.int .u64 (lo m)) := hXw7.cell 1
                  have y2 : w7.cell? ⟨bx, 2, none⟩ = some (.int .u64 (hi m)) := hXw7.cell 2
                  have ly := hXw7.lt
                  refine wpAny_ready (rs := [1]) (by kernel_rfl) (by simp) ?_
                  refine AllReady.cons rfl (fun K hK => ?_) ?_
                  rotate_left
                  · exact AllReady.nil
                  go_simp
                  refine hK _ _ ?_
                  clear hK K
                  clear ly y0 y1 y2
                  exact hk v w7 ⟨v0, by omega, hXw7, hOw7, hLw7, hSw7, hww7⟩
            rintro v W ⟨v0, v1, hX5, hO5, hL5, hS5, hw5⟩
            have hcm := sm_bitD v0 v1
            have hjn := fun W => spec_l01Join m (mbit v) W
            have hm2 := sm_joinV hm hcm
            generalize mbit v = cv at hjn hm2 ⊢
            generalize mjoin m cv = m2 at hjn hm2
            clear hcm
            refine wpAny_ready (rs := [5]) (by kernel_rfl) (by simp) ?_
            refine AllReady.cons rfl (fun K hK => ?_) ?_
            rotate_left
            · exact AllReady.nil
            go_simp
            go_wp2_with fail
            refine Calls.mono (hjn W) ?_
            rintro e w8 ⟨rfl, hb8⟩
            have hX8 := hX5.ext hb8
            have hO8 := hO5.ext hb8
            have hL8 := hL5.ext hb8
            have hS8 := hS5.ext hb8
            have hw8 := hw5.ext hb8
            clear hX5 hO5 hL5 hS5 hw5 hb8 hjn
            have y0 : w8.cell? ⟨bx, 0, none⟩ = some (.string nm) := hX8.cell 0
            have y1 : w8.cell? ⟨bx, 1, none⟩ = some (.int .u64 (lo m)) := hX8.cell 1
            have y2 : w8.cell? ⟨bx, 2, none⟩ = some (.int .u64 (hi m)) := hX8.cell 2
            have ly := hX8.lt
            have f1 := hX8.frozen 1
            have f2 := hX8.frozen 2
            go_wp2_with fail
            refine wpAny_take (i := 6) (v := ?_) rfl (by kernel_rfl) (by kernel_rfl) (by kernel_rfl) (fun _ _ _ h => h) (Or.inl ⟨by rfl, ?_⟩) ?_
            rotate_left
            · (intro W9; go_simp; try with_reducible rfl)
            refine wpAny_ready (rs := [7]) (by kernel_rfl) (by simp) ?_
            refine AllReady.cons rfl (fun K hK => ?_) ?_
            rotate_left
            · exact AllReady.nil
            go_simp
            refine hK _ _ ?_
            clear hK K
            refine wpAny_done (by kernel_rfl) ?_ _
            have kX := (hX8.set 1 (.int .u64 (lo m2))).set 2 (.int .u64 (hi m2))
            have kO := (hO8.far (p := ⟨bx, 1, none⟩) hne (.int .u64 (lo m2))).far (p := ⟨bx, 2, none⟩) hne (.int .u64 (hi m2))
            have kL := hL8.win (lo := bx) (hi := bx + 1) (((Win.refl _ _ w8).set1 (i := 1) (.int .u64 (lo m2))).set1 (i := 2) (.int .u64 (hi m2))) (fun p hp => .inl (by have := hLb p hp; omega))
            have kS := (hS8.set (p := ⟨bx, 1, none⟩) (show base ≤ bx by omega) (show bx ≠ b by omega) (.int .u64 (lo m2))).set (p := ⟨bx, 2, none⟩) (show base ≤ bx by omega) (show bx ≠ b by omega) (.int .u64 (hi m2))
            have kw := (hw8.setOut (p := ⟨bx, 1, none⟩) (show w.heap.size ≤ bx by omega) (.int .u64 (lo m2))).setOut (p := ⟨bx, 2, none⟩) (show w.heap.size ≤ bx by omega) (.int .u64 (hi m2))
            clear y0 y1 y2 ly f1 f2 hX8 hO8 hL8 hS8 hw8
            refine intro_world (fun WF hWF => ?_)
            rw [← hWF] at kX kO kL kS kw
            clear hWF
            replace kX : BoxAt WF bx #[.string nm, .int .u64 (lo m2), .int .u64 (hi m2)] 60 := kX
            have x0 : WF.cell? ⟨bx, 0, none⟩ = some (.string nm) := kX.cell 0
            have x1 : WF.cell? ⟨bx, 1, none⟩ = some (.int .u64 (lo m2)) := kX.cell 1
            have x2 : WF.cell? ⟨bx, 2, none⟩ = some (.int .u64 (hi m2)) := kX.cell 2
            have lx := kX.lt
            have kz := kw.size
            have kl := hlen.out
            go_wp2_with (at_builtin; refine wpList_pushW (base := w.heap.size) (xs := ds) encCrd (by rfl) _ _ 29 (.agg #[.string ⟨#[]⟩, .int .u64 0, .int .u64 0]) 32 (by rfl) Tryd.underlying29 info_CrdK (by rfl) (⟨nm, m2⟩ : Crd) (by rfl) (by rfl) (by simp) kO (by simpa using kz) (by omega) (by omega) ?_)
            intro v7 W7 hO7 hg7 ho7
            have hL7 := kL.grown hg7 (fun p hp h => by have h1 := (kO.lt _ h).1; have h2 := hLb p hp; omega)
            have hS7 := kS.grown hg7 (fun j hj => by have := (kO.lt j hj).1; omega)
            have hw7 := kw.grownOut hg7 (fun j hj => (kO.lt j hj).1)
            have hD7 := hpush (m2) hm2
            have hlen7 : Hd ((ds ++ [(⟨nm, m2⟩ : Crd)]).length + k = k0) := hd (by rw [List.length_append, List.length_singleton]; omega)
            clear x0 x1 x2 lx
            go_wp2
            go_roundg k
            case rel => exact ⟨k, _, rfl, rfl, hlen7, hD7, hO7, hL7, hS7.up (by omega) (by omega), hw7⟩
            case measure => omega
theorem spec_A2Deck (cs : List UInt8) (A : Option Addr) (cap : Nat) (xs : List Fld) (L : Option Addr) (lcap : Nat) (w : World) (hR : Rd encU8 w A cs) (hn : cs.length ≤ 1099511627776) (hL : Rd encFld w L xs) (h1 : 1 ≤ xs.length) (hx5 : xs.length ≤ 5) (hDs : DrawnS xs) :
    Calls Tryd.prog 22 #[.slice A cs.length cap, .slice L xs.length lcap] w fun e w' => ∃ ds v, e = .returned v ∧ Ow encCrd 60 w' w.heap.size v ds ∧ DrawnD ds ∧ Ext w w' := by
  have hf := spec_l00From cs A cap w w hR hn (Ext.refl w)
  go_enter Tryd.func22, Tryd.ntmps22
  go_wp2_with fail
  refine Calls.mono hf ?_
  rintro e w1 ⟨b, rfl, hS, hb, hE1⟩
  have hc := spec_l02Drawn _ b 0 xs L lcap w1 hS (by omega) (hL.ext hE1) (fun p hp => by have := hL.blk (List.length_pos_iff.1 h1) p hp; omega) hx5 hDs
  clear hf
  go_wp2_with fail
  refine Calls.mono hc ?_
  rintro e w2 ⟨ds, v, rfl, hO, hD, hS2, hW2⟩
  clear hc
  go_wp2
  go_ret
  exact ⟨ds, v, rfl, hO.lower hE1.size, hD, hE1.win hW2 hb⟩
end Go.Proofs.YtdlpifgkponnmaaDoor
