/-
  Contracts of SureWords, program's and reference's.
-/
import Derived.Test.YtbmompanhigmnaaDoorX7
import Derived.Test.YtbmompanhigmnaaDoorX6
import Derived.Test.YtbmompanhigmnaaDoorL9
set_option linter.unusedVariables false
set_option linter.unusedSimpArgs false
set_option maxRecDepth 100000
namespace Go.Proofs.YtbmompanhigmnaaDoor
open Go.RowKit
def sureTo (hs : List Mask) (T : Mask) (mb : List Int) : Nat → List Int
  | 0 => []
  | n + 1 => if meqB (joinL (hs.eraseIdx n)) T = true then sureTo hs T mb n else sureTo hs T mb n ++ [mb.getD n 0]
theorem sureTo_zero (hs : List Mask) (T : Mask) (mb : List Int) : sureTo hs T mb 0 = [] := rfl
theorem sureTo_hit {hs : List Mask} {T : Mask} {mb : List Int} {k : Nat} (hk : k < mb.length) (h : meqB (joinL (hs.eraseIdx k)) T = false) : sureTo hs T mb (k + 1) = sureTo hs T mb k ++ [mb[k]] := by
  rw [sureTo, if_neg (by rw [h]; decide), List.getD, List.getElem?_eq_getElem hk]; rfl
theorem sureTo_miss {hs : List Mask} {T : Mask} {mb : List Int} {k : Nat} (h : meqB (joinL (hs.eraseIdx k)) T = true) : sureTo hs T mb (k + 1) = sureTo hs T mb k := by rw [sureTo, if_pos h]
theorem sureTo_len (hs : List Mask) (T : Mask) (mb : List Int) : ∀ n, (sureTo hs T mb n).length ≤ n
  | 0 => Nat.le_refl _
  | n + 1 => by
    have := sureTo_len hs T mb n
    rw [sureTo]
    split
    · omega
    · rw [List.length_append, List.length_singleton]; omega
attribute [irreducible] sureTo
/-- What has to be covered. -/
def wantX (x : Mx) (m : Mask) : Mask := mmeet m (partX x)
noncomputable def mbX (x : Mx) (m : Mask) (vs : List ByteArray) : List Int := maybeTo x m vs vs.length
noncomputable def sureF (x : Mx) (m : Mask) (vs : List ByteArray) : List Int × Int :=
  if askF x [m] vs 40 = 0 then (if meqB (joinL (hsL x vs (mbX x m vs))) (wantX x m) = true then (sureTo (hsL x vs (mbX x m vs)) (wantX x m) (mbX x m vs) (mbX x m vs).length, 0) else ([], 6)) else ([], askF x [m] vs 40)
theorem sure_no {x : Mx} {m : Mask} {vs : List ByteArray} (h : ¬ askF x [m] vs 40 = 0) : sureF x m vs = ([], askF x [m] vs 40) := by unfold sureF; rw [if_neg h]
theorem sure_none {x : Mx} {m : Mask} {vs : List ByteArray} (h : askF x [m] vs 40 = 0) (h2 : meqB (joinL (hsL x vs (mbX x m vs))) (wantX x m) = false) : sureF x m vs = ([], 6) := by unfold sureF; rw [if_pos h, h2]; rfl
theorem sure_ok {x : Mx} {m : Mask} {vs : List ByteArray} (h : askF x [m] vs 40 = 0) (h2 : meqB (joinL (hsL x vs (mbX x m vs))) (wantX x m) = true) :
    sureF x m vs = (sureTo (hsL x vs (mbX x m vs)) (wantX x m) (mbX x m vs) (mbX x m vs).length, 0) := by unfold sureF; rw [if_pos h, if_pos h2]
theorem mbX_len (x : Mx) (m : Mask) (vs : List ByteArray) : (mbX x m vs).length ≤ vs.length := maybeTo_len _ _ _ _
theorem sure_len (x : Mx) (m : Mask) (vs : List ByteArray) (h : vs.length ≤ 1048576) : (sureF x m vs).1.length ≤ 1048576 := by
  unfold sureF
  split
  · split
    · exact Nat.le_trans (sureTo_len _ _ _ _) (Nat.le_trans (mbX_len x m vs) h)
    · simp
  · simp
theorem sure_inv (hs : List Mask) : ∀ {n}, n ∈ hs → True := fun _ => trivial
set_option maxHeartbeats 2000000 in
theorem impl_SureWords (x : Mx) (hxi : MxIn x) (m : Mask) (vs : List ByteArray) (A : Option Addr) (cap : Nat) (w : World) (hR : Rd encStr w A vs) (hn : vs.length ≤ 1048576) (hok : ∀ x ∈ vs, StrIn x) :
    Calls Tryd.prog 33 #[.agg #[.int .i16 x.st, .int .i16 x.sz, .int .i16 x.per], .agg #[.int .u64 (lo m), .int .u64 (hi m)], .slice A vs.length cap] w fun e w' => ∃ v, e = .returned (.tuple #[v, .int .i64 (sureF x m vs).2]) ∧ Ow encI64 2 w' w.heap.size v (sureF x m vs).1 ∧ Ext w w' := by
  have hcv := fun (W : World) (hE : Ext w W) => impl_checkVocabulary x hxi m vs A cap W (hR.ext hE) hn hok
  have hmb := fun (hq : mixB x = true) (W : World) (hE : Ext w W) => impl_maybe x hq m vs A cap W (hR.ext hE) hn hok
  have hpa := fun (hq : mixB x = true) (W : World) => impl_part x hq W
  have hha := fun (hq : mixB x = true) (ls : List Int) (B : Option Addr) (cap' : Nat) (W : World) (hE : Ext w W) (hS : Rd encI64 W B ls) (hm : ls.length ≤ 1048576) (hin : ∀ k ∈ ls, 0 ≤ k ∧ k < vs.length) => impl_holesAt x hq vs A cap ls B cap' W (hR.ext hE) hn hok hS hm hin
  have hno := sure_no (x := x) (m := m) (vs := vs)
  have hnone := sure_none (x := x) (m := m) (vs := vs)
  have hok1 := sure_ok (x := x) (m := m) (vs := vs)
  have hz := ask_zero (x := x) (ms := [m]) (ws := vs) (most := 40)
  have hmbl := mbX_len x m vs
  have hmbi : ∀ k ∈ mbX x m vs, 0 ≤ k ∧ k < vs.length := maybeTo_in x m vs vs.length
  rw [show maybeTo x m vs vs.length = mbX x m vs from rfl] at hmb
  have hT : wantX x m = mmeet m (partX x) := rfl
  have her := fun i => hsL_erase x vs (mbX x m vs) i
  generalize mbX x m vs = mb at hmb hmbl hmbi hnone hok1 her
  generalize askF x [m] vs 40 = c at hcv hno hnone hok1 hz
  obtain ⟨st, sz, per⟩ := x
  dsimp only at hcv hmb hpa hha
  have e2 := eqA_Mask
  have hx := @ExtOf.cell
  by_cases hc : c = 0
  · subst hc
    have hmx := (hz rfl).1
    replace hmb := hmb hmx
    replace hpa := hpa hmx
    replace hha := hha hmx
    replace hnone := hnone rfl
    replace hok1 := hok1 rfl
    clear hno hz
    generalize partX ⟨st, sz, per⟩ = pm at hpa hT
    generalize wantX ⟨st, sz, per⟩ m = T at hT hnone hok1
    generalize hhs : hsL ⟨st, sz, per⟩ vs mb = hs at hnone hok1 her
    go_enter Tryd.func33, Tryd.ntmps33
    go_wp2_with fail
    refine Calls.mono (hcv _ (by ((repeat (first | with_reducible exact Ext.refl _ | with_reducible exact hw | with_reducible exact hb9 | with_reducible exact hb8 | with_reducible exact hb7 | with_reducible exact hb6 | with_reducible exact hb5 | with_reducible exact hb4 | with_reducible exact hb3 | with_reducible exact hb2 | with_reducible exact hb1 | with_reducible refine Ext.alloc ?_ _ | with_reducible refine Ext.drew ?_ | ((with_reducible refine Ext.set ?_ ?_ _); focus (dsimp only; omega)) | with_reducible refine Ext.trans ?_ hb9 | with_reducible refine Ext.trans ?_ hb8 | with_reducible refine Ext.trans ?_ hb7 | with_reducible refine Ext.trans ?_ hb6 | with_reducible refine Ext.trans ?_ hb5 | with_reducible refine Ext.trans ?_ hb4 | with_reducible refine Ext.trans ?_ hb3 | with_reducible refine Ext.trans ?_ hb2 | with_reducible refine Ext.trans ?_ hb1 | with_reducible refine Ext.trans ?_ hw))))) ?_
    rintro e w1 ⟨rfl, hb1⟩
    have hX : BoxAt w1 w.heap.size #[.int .i16 st, .int .i16 sz, .int .i16 per] 30 := ((BoxAt.new' rfl).alloc _).ext hb1
    have hM : BoxAt w1 (w.heap.size + 1) #[.int .u64 (lo m), .int .u64 (hi m)] 53 := (BoxAt.new' (by simp)).ext hb1
    have hw1 : Ext w w1 := (((Ext.refl _).alloc _).alloc _).trans hb1
    clear hb1
    have x0 : w1.cell? ⟨w.heap.size, 0, none⟩ = some (.int .i16 st) := hX.cell 0
    have x1 : w1.cell? ⟨w.heap.size, 1, none⟩ = some (.int .i16 sz) := hX.cell 1
    have x2 : w1.cell? ⟨w.heap.size, 2, none⟩ = some (.int .i16 per) := hX.cell 2
    have y0 : w1.cell? ⟨w.heap.size + 1, 0, none⟩ = some (.int .u64 (lo m)) := hM.cell 0
    have y1 : w1.cell? ⟨w.heap.size + 1, 1, none⟩ = some (.int .u64 (hi m)) := hM.cell 1
    have lX := hX.lt
    have lM := hM.lt
    go_wp2_with fail
    refine Calls.mono (hmb _ hw1) ?_
    rintro e w2 ⟨v2, rfl, hO2, hb2⟩
    obtain ⟨B, capB, rfl, hleB, hRB⟩ := hO2.slice
    have hw2 := hw1.trans hb2
    have hX := hX.ext hb2
    have hM := hM.ext hb2
    clear x0 x1 x2 y0 y1 lX lM hb2 hO2
    have x0 : w2.cell? ⟨w.heap.size, 0, none⟩ = some (.int .i16 st) := hX.cell 0
    have x1 : w2.cell? ⟨w.heap.size, 1, none⟩ = some (.int .i16 sz) := hX.cell 1
    have x2 : w2.cell? ⟨w.heap.size, 2, none⟩ = some (.int .i16 per) := hX.cell 2
    have y0 : w2.cell? ⟨w.heap.size + 1, 0, none⟩ = some (.int .u64 (lo m)) := hM.cell 0
    have y1 : w2.cell? ⟨w.heap.size + 1, 1, none⟩ = some (.int .u64 (hi m)) := hM.cell 1
    have lX := hX.lt
    have lM := hM.lt
    have hme := fun W => impl_MeetMasks m pm W
    rw [← hT] at hme
    clear hT
    go_wp2
    refine wp_region_float 4 4 10 _ #[.int .u64 0, .int .u64 0] 53 (by kernel_rfl) (by kernel_rfl) rfl rfl rfl rfl (fun _ _ => by go_simp) (by intro d _ _ _ _ h; cases d <;> exact h) ?_
    simp only [List.take_succ_cons, List.take_zero, List.drop_succ_cons, List.drop_zero]
    repeat (refine wpX_step (fun K hK => ?_); go_simp; first | (refine hK _ ?_; clear hK K) | (apply Exists.intro; refine ⟨fun x => ?_, hK _ ?_⟩; ((first | (go_at_call 64; with_reducible exact hpa _) | (go_at_call 63; with_reducible exact hme _))); clear hK K))
    refine wpX_nil ?_
    intro b5 w5 hb5 hbb5 hcb5
    obtain ⟨hc5, hf5, hz5⟩ := bcell3 hb5
    try simp at hz5
    try simp at hbb5
    have hz5_0 : w.heap.size < w5.heap.size := by omega
    have hn5_0 : ¬ (b5 = w.heap.size) := by omega
    have hz5_1 : w.heap.size + 1 < w5.heap.size := by omega
    have hn5_1 : ¬ (b5 = w.heap.size + 1) := by omega
    have hbl5 := blk_lt hcb5
    have hbf5 := blk_free hcb5
    have hbc5_0 : w5.cell? ⟨b5, 0, none⟩ = some (.int .u64 0) := blk_cell hcb5 0 rfl
    have hbc5_1 : w5.cell? ⟨b5, 1, none⟩ = some (.int .u64 0) := blk_cell hcb5 1 rfl
    have hX5 : BoxAt w5 b5 #[.int .u64 0, .int .u64 0] 53 := hcb5
    clear hcb5
    go_wp2
    refine intro_world (R := fun W => Code.wp _ _ _ _ W) (fun W6 hW6 => ?_)
    have hE6 : Ext w2 W6 := by rw [hW6]; exact Ext.set hbb5 (Ext.set hbb5 hb5 _) _
    have hT6 : BoxAt W6 b5 #[.int .u64 (lo T), .int .u64 (hi T)] 53 := by rw [hW6]; exact (hX5.set 0 _).set 1 _
    clear hW6 hb5 hc5 hf5 hz5 hz5_0 hn5_0 hz5_1 hn5_1 hbl5 hbf5 hbc5_0 hbc5_1 hX5 hM
    have hX := hX.ext hE6
    have hRB := hRB.ext hE6
    have hw6 := hw2.trans hE6
    clear x0 x1 x2 y0 y1 lX lM hE6
    have x0 : W6.cell? ⟨w.heap.size, 0, none⟩ = some (.int .i16 st) := hX.cell 0
    have x1 : W6.cell? ⟨w.heap.size, 1, none⟩ = some (.int .i16 sz) := hX.cell 1
    have x2 : W6.cell? ⟨w.heap.size, 2, none⟩ = some (.int .i16 per) := hX.cell 2
    have y0 : W6.cell? ⟨b5, 0, none⟩ = some (.int .u64 (lo T)) := hT6.cell 0
    have y1 : W6.cell? ⟨b5, 1, none⟩ = some (.int .u64 (hi T)) := hT6.cell 1
    have lX := hX.lt
    have lM := hT6.lt
    have hha6 := fun (W : World) (hE : Ext W6 W) => hha mb B capB W (hw6.trans hE) (hRB.ext hE) (by omega) hmbi
    rw [hhs] at hha6
    have e1 := lohi_meq (joinL hs) T
    cases hq : meqB (joinL hs) T with
    | false =>
      have hv := hd (hnone hq)
      rw [hq] at e1
      clear hnone hok1 hq
      refine wp_region_ext (by kernel_rfl) (by kernel_rfl) ?_
      repeat (first | go_big_quiet_step (((go_at_call 65; with_reducible exact Calls.ext_all (fun W hE => hha6 W hE)))) | quiet_step (((go_at_call 65; with_reducible exact Calls.ext_all (fun W hE => hha6 W hE)))))
      refine wpQuiet_nil ?_
      intro w7 hq7
      have hb7 := ext_of_class hq7
      clear hq7
      obtain ⟨hc7, hf7, hz7⟩ := bcell3 hb7
      try simp at hz7
      go_wp2
      refine bodyPost_ret (v := .tuple #[.slice none 0 0, .int .i64 6]) (by simp [results, Tryd.results33, go_sem]) rfl ⟨_, by rw [hv.out], by rw [hv.out]; exact Ow.nil _ _ _ _, hw6.trans hb7⟩
    | true =>
      have hv := hd (hok1 hq)
      rw [hq] at e1
      have hzero := sureTo_zero hs T mb
      have hhit0 := fun k (h : k < mb.length) => sureTo_hit (hs := hs) (T := T) h
      have hmiss0 := fun k => sureTo_miss (hs := hs) (T := T) (mb := mb) (k := k)
      have hlen := sureTo_len hs T mb
      clear hnone hok1 hq
      refine wp_region_ext (by kernel_rfl) (by kernel_rfl) ?_
      repeat (first | go_big_quiet_step (((go_at_call 65; with_reducible exact Calls.ext_all (fun W hE => hha6 W hE)))) | quiet_step (((go_at_call 65; with_reducible exact Calls.ext_all (fun W hE => hha6 W hE)))))
      refine wpQuiet_nil ?_
      intro w7 hq7
      have hb7 := ext_of_class hq7
      clear hq7
      obtain ⟨hc7, hf7, hz7⟩ := bcell3 hb7
      try simp at hz7
      have hX := hX.ext hb7
      have hT7 := hT6.ext hb7
      have hRB := hRB.ext hb7
      have hw7 := hw6.trans hb7
      clear hc7 hf7 hz7 hb7 x0 x1 x2 y0 y1 lX lM hT6 hw6 hha6 e1
      go_wp2
      go_loopg [11, 39] mb.length (fun g v i wr => ∃ k : Nat, g = mb.length - k ∧ k ≤ mb.length ∧ i = .int .i64 k ∧ Ext w7 wr ∧ Ow encI64 2 wr w7.heap.size v (sureTo hs T mb k))
      case atStart => exact ⟨0, by omega, by omega, rfl, (Ext.refl _).alloc _, by rw [hzero]; exact Ow.made0 rfl (Nat.le_refl _)⟩
      case round =>
        obtain ⟨k, hg, hk, rfl, hw, hO⟩ := hrel
        by_cases hkl : k < mb.length
        · obtain ⟨bB, oB, hB, hltB, _⟩ := hRB k hkl
          subst hB
          have l0 := (hRB.ext hw).i64 k hkl
          have lS := World.block_lt_of_cell? _ _ l0
          dsimp only at lS
          have hl := hlen k
          have hwr := hw7.trans hw
          have hhit := fun q => hd (hhit0 k hkl q)
          have hmiss := fun q => hd (hmiss0 k q)
          go_wp2_with (at_builtin; refine wpList_addAll (w0 := wr) (base := wr.heap.size) (xs := []) encI64 (by rfl) _ _ 41 (.int .i64 0) 8 (by rfl) Tryd.underlying41 info_i64 (by rfl) mb ⟨bB, oB, none⟩ capB (by rfl) (by rfl) ((hRB.ext hw).ext ((Ext.refl _).alloc _)) (Ow.made0 rfl (Nat.le_refl _)) (by simp) (Nat.le_refl _) ((Ext.refl _).alloc _) (by simp; omega) (by simp; omega) ?_)
          intro v3 w3 hO3 hb3 hg3
          go_wp2_with fail
          refine Calls.mono (slices_Delete1 mb k hkl (by omega) v3 wr.heap.size _ hO3) ?_
          rintro e w4 ⟨A4, cap4, rfl, hR4, hE4⟩
          have hb4 := hE4 wr hb3 (Nat.le_refl _)
          clear hE4 hO3 hb3 hg3 l0 lS
          have hW4 := hw.trans hb4
          have hO4 := hO.ext hb4
          have hX4 := hX.ext hW4
          have hT4 := hT7.ext hW4
          have x0 : w4.cell? ⟨w.heap.size, 0, none⟩ = some (.int .i16 st) := hX4.cell 0
          have x1 : w4.cell? ⟨w.heap.size, 1, none⟩ = some (.int .i16 sz) := hX4.cell 1
          have x2 : w4.cell? ⟨w.heap.size, 2, none⟩ = some (.int .i16 per) := hX4.cell 2
          have y0 : w4.cell? ⟨b5, 0, none⟩ = some (.int .u64 (lo T)) := hT4.cell 0
          have y1 : w4.cell? ⟨b5, 1, none⟩ = some (.int .u64 (hi T)) := hT4.cell 1
          have lX := hX4.lt
          have lM := hT4.lt
          have hha4 := fun (W : World) (hE : Ext w4 W) => hha (mb.eraseIdx k) A4 cap4 W ((hw7.trans hW4).trans hE) (hR4.ext hE) (by rw [List.length_eraseIdx_of_lt hkl]; omega) (fun z hz => hmbi z (List.mem_of_mem_eraseIdx hz))
          rw [her k] at hha4
          have e1 := lohi_meq (joinL (hs.eraseIdx k)) T
          have l1 := (hRB.ext hW4).i64 k hkl
          clear hO
          cases hq : meqB (joinL (hs.eraseIdx k)) T with
          | false =>
            have hv1 := hhit hq
            rw [hq] at e1
            clear hhit hmiss hq
            generalize joinL (hs.eraseIdx k) = js at e1 hha4
            go_wp2
            refine wp_region_ext (by kernel_rfl) (by kernel_rfl) ?_
            repeat (first | go_big_quiet_step (((go_at_call 65; with_reducible exact Calls.ext_all (fun W hE => hha4 W hE)))) | quiet_step (((go_at_call 65; with_reducible exact Calls.ext_all (fun W hE => hha4 W hE)))))
            refine wpQuiet_nil ?_
            intro w9 hq9
            have hb9 := ext_of_class hq9
            clear hq9
            obtain ⟨hc9, hf9, hz9⟩ := bcell3 hb9
            try simp at hz9
            have hO9 := hO4.ext hb9
            have hW9 := hW4.trans hb9
            clear hc9 hf9 hz9 hb9 x0 x1 x2 y0 y1 lX lM
            go_wp2_with (at_builtin; refine wpList_push2 (w0 := w7) (base := w7.heap.size) (xs := sureTo hs T mb k) encI64 (by rfl) _ _ 41 (.int .i64 0) 8 (by rfl) Tryd.underlying41 info_i64 (by rfl) (mb[k]) (by rfl) (by rfl) (by simp) (hO9) ((hW9 : Ext w7 _).size) (Nat.le_refl _) (hW9) (by omega) (by omega) ?_)
            intro v10 w10 hO10 hb10 hg10 _
            go_wp2
            go_roundg (mb.length - (k + 1))
            case rel => exact ⟨k + 1, rfl, hkl, by simp, hb10, by rw [hv1.out]; exact hO10⟩
            case measure => omega
          | true =>
            have hv1 := hmiss hq
            rw [hq] at e1
            clear hhit hmiss hq
            generalize joinL (hs.eraseIdx k) = js at e1 hha4
            go_wp2
            refine wp_region_ext (by kernel_rfl) (by kernel_rfl) ?_
            repeat (first | go_big_quiet_step (((go_at_call 65; with_reducible exact Calls.ext_all (fun W hE => hha4 W hE)))) | quiet_step (((go_at_call 65; with_reducible exact Calls.ext_all (fun W hE => hha4 W hE)))))
            refine wpQuiet_nil ?_
            intro w9 hq9
            have hb9 := ext_of_class hq9
            clear hq9
            obtain ⟨hc9, hf9, hz9⟩ := bcell3 hb9
            try simp at hz9
            go_wp2
            go_roundg (mb.length - (k + 1))
            case rel => exact ⟨k + 1, rfl, hkl, by simp, hW4.trans hb9, by rw [hv1.out]; exact hO4.ext hb9⟩
            case measure => omega
        · obtain rfl : k = mb.length := by omega
          go_wp2
          refine bodyPost_ret (v := .tuple #[_, .int .i64 0]) (by simp [results, Tryd.results33, go_sem]; rfl) rfl ⟨_, by rw [hv.out], by rw [hv.out]; exact hO.lower hw7.size, hw7.trans hw⟩
  · have hv := hd (hno hc)
    have hcb : (c != 0) = true := by simp [hc]
    clear hno hz hnone hok1
    go_enter Tryd.func33, Tryd.ntmps33
    go_wp2_with fail
    refine Calls.mono (hcv _ (by ((repeat (first | with_reducible exact Ext.refl _ | with_reducible exact hw | with_reducible exact hb9 | with_reducible exact hb8 | with_reducible exact hb7 | with_reducible exact hb6 | with_reducible exact hb5 | with_reducible exact hb4 | with_reducible exact hb3 | with_reducible exact hb2 | with_reducible exact hb1 | with_reducible refine Ext.alloc ?_ _ | with_reducible refine Ext.drew ?_ | ((with_reducible refine Ext.set ?_ ?_ _); focus (dsimp only; omega)) | with_reducible refine Ext.trans ?_ hb9 | with_reducible refine Ext.trans ?_ hb8 | with_reducible refine Ext.trans ?_ hb7 | with_reducible refine Ext.trans ?_ hb6 | with_reducible refine Ext.trans ?_ hb5 | with_reducible refine Ext.trans ?_ hb4 | with_reducible refine Ext.trans ?_ hb3 | with_reducible refine Ext.trans ?_ hb2 | with_reducible refine Ext.trans ?_ hb1 | with_reducible refine Ext.trans ?_ hw))))) ?_
    rintro e w1 ⟨rfl, hb1⟩
    have hw1 : Ext w w1 := (((Ext.refl _).alloc _).alloc _).trans hb1
    go_wp2
    refine bodyPost_ret (v := .tuple #[.slice none 0 0, .int .i64 c]) (by simp [results, Tryd.results33, go_sem]) rfl ⟨_, by rw [hv.out], by rw [hv.out]; exact Ow.nil _ _ _ _, hw1⟩
end Go.Proofs.YtbmompanhigmnaaDoor
