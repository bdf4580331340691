/-
  Contract of the program's readNumber.
-/
import Derived.Test.YthkphhacmneeiaaGreatDoorJ3
set_option linter.unusedVariables false
set_option linter.unusedSimpArgs false
set_option maxRecDepth 100000
namespace Go.Proofs.YthkphhacmneeiaaGreatDoor
open Go.RowKit
/-- The library's tables and errors lie in their places. -/
structure Env (w : World) : Prop where
  tab : Lib.TabIs Tryz.prog w "internal/strconv.uint64pow10" .u64 Lib.pow10Tab
  syn : ∃ tp p, w.var? Tryz.prog "strconv.ErrSyntax" = some #[.iface tp p]
  ran : ∃ tp p, w.var? Tryz.prog "strconv.ErrRange" = some #[.iface tp p]
theorem gTab : Tryz.prog.globalNamed "internal/strconv.uint64pow10" = some 3 := by kernel_rfl
theorem gSyn : Tryz.prog.globalNamed "strconv.ErrSyntax" = some 1 := by kernel_rfl
theorem gRan : Tryz.prog.globalNamed "strconv.ErrRange" = some 2 := by kernel_rfl
theorem Env.ext {w w' : World} (h : Env w) (hE : Ext w w') : Env w' :=
  ⟨Joins.var_stays gTab h.tab hE (Nat.le_refl _), by obtain ⟨tp, p, e⟩ := h.syn; exact ⟨tp, p, Joins.var_stays gSyn e hE (Nat.le_refl _)⟩, by obtain ⟨tp, p, e⟩ := h.ran; exact ⟨tp, p, Joins.var_stays gRan e hE (Nat.le_refl _)⟩⟩
theorem grow_ext (w : World) (k : Nat) (os : Array Obj) : Ext w (Go.Sort.grow (w.drewN k) os) :=
  ⟨rfl, rfl, rfl, by simp [Go.Sort.grow, World.drewN], fun b hb => by
    show (w.heap ++ os)[b]? = w.heap[b]?
    rw [Array.getElem?_append_left hb]⟩
theorem FormatInt_any (n : Int) (h0 : -9223372036854775808 ≤ n) (h1 : n ≤ 9223372036854775807) (w : World) (hG : Env w) : Calls Tryz.prog 54 #[.int .i64 n, .int .i64 10] w fun e w' => e = .returned (.string ⟨(Lib.itoa n).toArray⟩) ∧ Ext w w' :=
  (Tryz.strconv_FormatInt_10 n h0 h1 w hG.tab).mono fun e w' h => ⟨h.1, by obtain ⟨_, k, os, rfl⟩ := h; exact grow_ext w k os⟩
theorem eqS_eqJ {a b : ByteArray} (h : (a.toList == b.toList) = true) : a = b := by
  rw [beq_iff_eq, Lib.toList_data, Lib.toList_data] at h
  exact ByteArray.ext (Array.toList_inj.1 h)
theorem parse_dec {s : ByteArray} {v : Int} (h : Lib.parseIntB 64 s.data.toList = .ok v) (k : Nat) (hk : k < 96) (e : s = decT k) : v = k := by
  have h2 := parse_small k (by omega)
  rw [e] at h
  unfold decT at h
  rw [List.toList_toArray, h2] at h
  cases h
  rfl
theorem parse_dec2 {k : Nat} (hk : k < 96) : Lib.parseIntB 64 (decT k).data.toList = .ok (k : Int) := by
  unfold decT
  rw [List.toList_toArray]
  exact parse_small k (by omega)
theorem itoa_dec {v : Int} (h : 0 ≤ v) : (⟨(Lib.itoa v).toArray⟩ : ByteArray) = decT v.toNat := by
  unfold decT Lib.itoa
  rw [if_neg (by omega)]
set_option maxHeartbeats 1000000 in
theorem impl_readNumber (s : ByteArray) (hs : s.size ≤ 1048576) (w : World) (hG : Env w) :
    Calls Tryz.prog 34 #[.string s] w fun e w' => ∃ (n : Int) (ok : Bool), e = .returned (.tuple #[.int .i64 n, .bool ok]) ∧ (ok = true → ∃ k : Nat, n = k ∧ s = decT k) ∧ (∀ k : Nat, k < 96 → s = decT k → ok = true ∧ n = k) ∧ Ext w w' := by
  rcases hp : Lib.parseIntB 64 s.data.toList with v | _ | _
  rotate_left
  · obtain ⟨tp, p, hv⟩ := hG.syn
    have hno : ∀ k : Nat, k < 96 → s = decT k → False := fun k hk e => by rw [e, parse_dec2 hk] at hp; cases hp
    have hc := Tryz.strconv_ParseInt_10_at64_syntax_var s (by omega) hp tp p w hv
    clear hp hv
    go_enter Tryz.func34, Tryz.ntmps34
    go_wp2_with fail
    refine Calls.mono hc ?_
    rintro e w1 ⟨N, rfl, hN1, hN2, hb1⟩
    clear hc hN2
    go_wp2
    refine bodyPost_ret (v := .tuple #[.int .i64 0, .bool false]) (by simp [results, Tryz.results34, go_sem]) rfl ⟨0, false, rfl, fun h => (by cases h), fun k hk e => (hno k hk e).elim, hb1⟩
  · obtain ⟨tp, p, hv⟩ := hG.ran
    have hno : ∀ k : Nat, k < 96 → s = decT k → False := fun k hk e => by rw [e, parse_dec2 hk] at hp; cases hp
    have hc := Tryz.strconv_ParseInt_10_at64_range_var s (by omega) hp tp p w hv
    generalize Lib.intSat 64 s.data.toList = z at hc
    clear hp hv
    go_enter Tryz.func34, Tryz.ntmps34
    go_wp2_with fail
    refine Calls.mono hc ?_
    rintro e w1 ⟨N, rfl, hN1, hN2, hb1⟩
    clear hc hN2
    go_wp2
    refine bodyPost_ret (v := .tuple #[.int .i64 z, .bool false]) (by simp [results, Tryz.results34, go_sem]) rfl ⟨z, false, rfl, fun h => (by cases h), fun k hk e => (hno k hk e).elim, hb1⟩
  · have hb := Lib.parseIntB_bounds hp
    have hpd := fun k hk e => parse_dec hp k hk e
    have hc := Tryz.strconv_ParseInt_10_at64_ok s (by omega) v hp w
    clear hp
    by_cases h0 : 0 ≤ v
    · have hit := itoa_dec h0
      have hf := fun W hW => FormatInt_any v (by omega) (by omega) W hW
      rw [hit] at hf
      have i1 : (0 ≤ v) = True := eq_true h0
      cases q : ((decT v.toNat).toList == s.toList) with
      | true =>
        have q' : decT v.toNat = s := eqS_eqJ q
        go_enter Tryz.func34, Tryz.ntmps34
        go_wp2_with fail
        refine Calls.mono hc ?_
        rintro e w1 ⟨rfl, hw1⟩
        have hb1 : Ext w w1 := by
          rcases hw1 with rfl | ⟨t, rfl⟩
          · exact Ext.refl _
          · exact Lib.bytesWorld_below _ _ _
        clear hw1 hc
        go_wp2_with fail
        refine Calls.mono (hf _ (hG.ext hb1)) ?_
        rintro e w2 ⟨rfl, hb2⟩
        clear hf
        go_wp2
        refine bodyPost_ret (v := .tuple #[.int .i64 v, .bool true]) (by simp [results, Tryz.results34, go_sem]) rfl ⟨v, true, rfl, fun _ => ⟨v.toNat, by omega, q'.symm⟩, fun k hk e => ⟨rfl, hpd k hk e⟩, hb1.trans hb2⟩
      | false =>
        have hno : ∀ k : Nat, k < 96 → s = decT k → False := fun k hk e => by
          have := hpd k hk e
          rw [this, Int.toNat_natCast, e] at q
          simp at q
        go_enter Tryz.func34, Tryz.ntmps34
        go_wp2_with fail
        refine Calls.mono hc ?_
        rintro e w1 ⟨rfl, hw1⟩
        have hb1 : Ext w w1 := by
          rcases hw1 with rfl | ⟨t, rfl⟩
          · exact Ext.refl _
          · exact Lib.bytesWorld_below _ _ _
        clear hw1 hc
        go_wp2_with fail
        refine Calls.mono (hf _ (hG.ext hb1)) ?_
        rintro e w2 ⟨rfl, hb2⟩
        clear hf
        go_wp2
        refine bodyPost_ret (v := .tuple #[.int .i64 v, .bool false]) (by simp [results, Tryz.results34, go_sem]) rfl ⟨v, false, rfl, fun h => (by cases h), fun k hk e => (hno k hk e).elim, hb1.trans hb2⟩
    · have hno : ∀ k : Nat, k < 96 → s = decT k → False := fun k hk e => h0 (by rw [hpd k hk e]; omega)
      have i1 : (0 ≤ v) = False := eq_false h0
      go_enter Tryz.func34, Tryz.ntmps34
      go_wp2_with fail
      refine Calls.mono hc ?_
      rintro e w1 ⟨rfl, hw1⟩
      have hb1 : Ext w w1 := by
        rcases hw1 with rfl | ⟨t, rfl⟩
        · exact Ext.refl _
        · exact Lib.bytesWorld_below _ _ _
      clear hw1 hc
      go_wp2
      refine bodyPost_ret (v := .tuple #[.int .i64 v, .bool false]) (by simp [results, Tryz.results34, go_sem]) rfl ⟨v, false, rfl, fun h => (by cases h), fun k hk e => (hno k hk e).elim, hb1⟩
end Go.Proofs.YthkphhacmneeiaaGreatDoor
