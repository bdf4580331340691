/-
  The walk of the law FnVotes.
-/
import Derived.Test.YthkphhacmneeiaaV0
import Derived.Test.YthkphhacmneeiaaAN
import Derived.Test.YthkphhacmneeiaaC8
set_option linter.unusedVariables false
set_option linter.unusedSimpArgs false
set_option maxRecDepth 100000
namespace Go.Proofs.Ythkphhacmneeiaa
open Go.RowKit
theorem laws_f6big (cs : List UInt8) (A : Option Addr) (cap : Nat) (w : World) :
    Calls Try.prog 4 #[.slice A cs.length cap] w fun e w' => e = .returned (.bool (decide (4096 < cs.length))) ∧ Ext w w' := by
  have e : decide ((4096 : Int) < (cs.length : Int)) = decide (4096 < cs.length) := by rw [decide_eq_decide]; omega
  by_cases h : 4096 < cs.length
  · have h' : (4096 : Int) < (cs.length : Int) := by omega
    rw [decide_eq_true h]
    go_enter Try.func4, Try.ntmps4
    go_wp2
    go_ret
    exact ⟨by simp [h'], Ext.refl _⟩
  · have h' : ((4096 : Int) < (cs.length : Int)) = False := eq_false (by omega)
    rw [decide_eq_false h]
    go_enter Try.func4, Try.ntmps4
    go_wp2
    go_ret
    exact ⟨by simp [h'], Ext.refl _⟩
theorem info_Mask3 : (Try.prog.info? 26).map (fun i => (i.zero, i.size, i.bytes)) = some (some (.agg #[.int .u64 0, .int .u64 0]), encMask.sz, 16) := info_Mask
theorem info_u8 : (Try.prog.info? 5).map (fun i => (i.zero, i.size, i.bytes)) = some (some (.int .u8 0), encU8.sz, 1) := by kernel_rfl
set_option maxHeartbeats 1500000 in
theorem laws_FnVotes (cs ds : List UInt8) (A B : Option Addr) (cap cap' : Nat) (w : World) (hn : cs.length ≤ 9223372036854775807) (hR : Rd encU8 w A cs) (hm : ds.length ≤ 9223372036854775807) (hS : Rd encU8 w B ds) :
    Calls Try.prog 3 #[.slice A cs.length cap, .slice B ds.length cap'] w fun e w' => e = .returned (.bool true) ∧ Ext w w' := by
  have hx := @ExtOf.cell
  have b1 := fun W => laws_f6big cs A cap W
  have b2 := fun W => laws_f6big ds B cap' W
  by_cases h1 : 4096 < cs.length
  · rw [decide_eq_true h1] at b1
    go_enter Try.func3, Try.ntmps3
    go_wp2_with fail
    refine Calls.mono (b1 _) ?_
    rintro e w1 ⟨rfl, hb1⟩
    go_wp2
    go_ret
    exact ⟨rfl, hb1⟩
  rw [decide_eq_false h1] at b1
  by_cases h2 : 4096 < ds.length
  · rw [decide_eq_true h2] at b2
    go_enter Try.func3, Try.ntmps3
    go_wp2_with fail
    refine Calls.mono (b1 _) ?_
    rintro e w1 ⟨rfl, hb1⟩
    go_wp2_with fail
    refine Calls.mono (b2 _) ?_
    rintro e w2 ⟨rfl, hb2⟩
    go_wp2
    go_ret
    exact ⟨rfl, hb1.trans hb2⟩
  rw [decide_eq_false h2] at b2
  go_enter Try.func3, Try.ntmps3
  go_wp2_with fail
  refine Calls.mono (b1 _) ?_
  rintro e w1 ⟨rfl, hb1⟩
  go_wp2_with fail
  refine Calls.mono (b2 _) ?_
  rintro e w2 ⟨rfl, hb2⟩
  have hw2 := hb1.trans hb2
  clear hb1 hb2 b1 b2
  go_wp2_with fail
  refine Calls.mono (spec_P6Mask cs A cap _ (hR.ext hw2) (by omega)) ?_
  rintro e w3 ⟨a, rfl, ha, hb3⟩
  have hw3 := hw2.trans hb3
  have z3 := hw3.size
  clear hb3 hw2
  go_wp2_with fail
  refine intro_world (R := fun W => Calls _ _ _ W _) (fun W3 hN => ?_)
  have eW3 : Ext w W3 := by rw [hN]; exact hw3.alloc _
  have hA : BoxAt W3 w3.heap.size #[.int .u64 (lo a), .int .u64 (hi a)] 26 := by rw [hN]; exact BoxAt.new' rfl
  clear hN
  refine Calls.mono (spec_P6Mask ds B cap' _ (hS.ext eW3) (by omega)) ?_
  rintro e w4 ⟨b, rfl, hb, hb4⟩
  have hw4 := eW3.trans hb4
  have z4 := hw4.size
  replace hA := hA.ext hb4
  have lA := hA.lt
  clear hb4 eW3 hw3
  have y0 : w4.cell? ⟨w3.heap.size, 0, none⟩ = some (.int .u64 (lo a)) := hA.cell 0
  have y1 : w4.cell? ⟨w3.heap.size, 1, none⟩ = some (.int .u64 (hi a)) := hA.cell 1
  have hL : Rd encMask ((w4.alloc (.cells #[.int .u64 (lo b), .int .u64 (hi b)] 26)).alloc (.cells #[.int .u64 (lo a), .int .u64 (hi a), .int .u64 (lo b), .int .u64 (hi b), .int .u64 (lo a), .int .u64 (hi a)] 26)) (some ⟨w4.heap.size + 1, 0, none⟩) [a, b, a] := by
    rw [show w4.heap.size + 1 = (w4.alloc (.cells #[.int .u64 (lo b), .int .u64 (hi b)] 26)).heap.size by simp]
    exact Rd.lit encMask _ [a, b, a] _ _ (by simp) rfl
  have hmj := impl_MajorityOf [a, b, a] (some ⟨w4.heap.size + 1, 0, none⟩) 3 _ hL (by simp)
  rw [maj3 ha hb] at hmj
  clear hL
  go_wp2_with fail
  refine Calls.mono hmj ?_
  rintro e w5 ⟨rfl, hb5⟩
  clear hmj
  have hBa : BoxAt w5 w3.heap.size #[.int .u64 (lo a), .int .u64 (hi a)] 26 := ((hA.alloc _).alloc _).ext hb5
  have hBb : BoxAt w5 w4.heap.size #[.int .u64 (lo b), .int .u64 (hi b)] 26 := ((BoxAt.new' rfl).alloc _).ext hb5
  have hw5 := ((hw4.alloc _).alloc _).trans hb5
  have z5 := hb5.size
  simp only [World.size_alloc] at z5
  clear hA hb5 y0 y1 lA
  have y0 : w5.cell? ⟨w3.heap.size, 0, none⟩ = some (.int .u64 (lo a)) := hBa.cell 0
  have y1 : w5.cell? ⟨w3.heap.size, 1, none⟩ = some (.int .u64 (hi a)) := hBa.cell 1
  have y2 : w5.cell? ⟨w4.heap.size, 0, none⟩ = some (.int .u64 (lo b)) := hBb.cell 0
  have y3 : w5.cell? ⟨w4.heap.size, 1, none⟩ = some (.int .u64 (hi b)) := hBb.cell 1
  have lA := hBa.lt
  have lB := hBb.lt
  have hL : Rd encMask ((w5.alloc (.cells #[.int .u64 (lo a), .int .u64 (hi a)] 26)).alloc (.cells #[.int .u64 (lo a), .int .u64 (hi a), .int .u64 (lo b), .int .u64 (hi b), .int .u64 (lo a), .int .u64 (hi a)] 26)) (some ⟨w5.heap.size + 1, 0, none⟩) [a, b, a] := by
    rw [show w5.heap.size + 1 = (w5.alloc (.cells #[.int .u64 (lo a), .int .u64 (hi a)] 26)).heap.size by simp]
    exact Rd.lit encMask _ [a, b, a] _ _ (by simp) rfl
  have hlo := impl_LonelyHoles [a, b, a] (some ⟨w5.heap.size + 1, 0, none⟩) 3 _ hL (by simp)
  rw [lon3 ha hb] at hlo
  dsimp only at hlo
  clear hL
  go_wp2_with fail
  refine Calls.mono hlo ?_
  rintro e w6 ⟨rfl, hb6⟩
  clear hlo y0 y1 y2 y3 lA lB
  have hCa : BoxAt w6 w3.heap.size #[.int .u64 (lo a), .int .u64 (hi a)] 26 := ((hBa.alloc _).alloc _).ext hb6
  have hCb : BoxAt w6 w4.heap.size #[.int .u64 (lo b), .int .u64 (hi b)] 26 := ((hBb.alloc _).alloc _).ext hb6
  have hCm : BoxAt w6 w5.heap.size #[.int .u64 (lo a), .int .u64 (hi a)] 26 := ((BoxAt.new' rfl).alloc _).ext hb6
  have hw6 := ((hw5.alloc _).alloc _).trans hb6
  have z6 := hb6.size
  simp only [World.size_alloc] at z6
  clear hBa hBb hb6
  have k1 := fun W => spec_LessMask a b W
  have k2 := fun W => spec_LessMask b a W
  have k3 := fun W => spec_JoinMasks (mless a b) (mless b a) W
  generalize hj : mjoin (mless a b) (mless b a) = jn at k3 ⊢
  clear hj
  go_wp2
  refine intro_world (R := fun W => Code.wp _ _ _ _ W) (fun W6 hN => ?_)
  have eW6 : Ext w W6 := by rw [hN]; exact hw6.alloc _
  have hDa : BoxAt W6 w3.heap.size #[.int .u64 (lo a), .int .u64 (hi a)] 26 := by rw [hN]; exact hCa.alloc _
  have hDb : BoxAt W6 w4.heap.size #[.int .u64 (lo b), .int .u64 (hi b)] 26 := by rw [hN]; exact hCb.alloc _
  have hDm : BoxAt W6 w5.heap.size #[.int .u64 (lo a), .int .u64 (hi a)] 26 := by rw [hN]; exact hCm.alloc _
  have hDl : BoxAt W6 w6.heap.size #[.int .u64 (lo jn), .int .u64 (hi jn)] 26 := by rw [hN]; exact BoxAt.new' rfl
  clear hN
  clear hCa hCb hCm hw6 hw5
  have y0 : W6.cell? ⟨w3.heap.size, 0, none⟩ = some (.int .u64 (lo a)) := hDa.cell 0
  have y1 : W6.cell? ⟨w3.heap.size, 1, none⟩ = some (.int .u64 (hi a)) := hDa.cell 1
  have y2 : W6.cell? ⟨w4.heap.size, 0, none⟩ = some (.int .u64 (lo b)) := hDb.cell 0
  have y3 : W6.cell? ⟨w4.heap.size, 1, none⟩ = some (.int .u64 (hi b)) := hDb.cell 1
  have y4 : W6.cell? ⟨w5.heap.size, 0, none⟩ = some (.int .u64 (lo a)) := hDm.cell 0
  have y5 : W6.cell? ⟨w5.heap.size, 1, none⟩ = some (.int .u64 (hi a)) := hDm.cell 1
  have y6 : W6.cell? ⟨w6.heap.size, 0, none⟩ = some (.int .u64 (lo jn)) := hDl.cell 0
  have y7 : W6.cell? ⟨w6.heap.size, 1, none⟩ = some (.int .u64 (hi jn)) := hDl.cell 1
  have l0 := hDa.lt
  have l1 := hDb.lt
  have l2 := hDm.lt
  have l3 := hDl.lt
  have e2 := eqA_Mask
  refine wp_region_ext (by kernel_rfl) (by kernel_rfl) ?_
  repeat (first | go_big_quiet_step ((first | (go_at_call 9; with_reducible exact Calls.ext_of (k1 _)) | (go_at_call 9; with_reducible exact Calls.ext_of (k2 _)) | (go_at_call 8; with_reducible exact Calls.ext_of (k3 _)))) | quiet_step ((first | (go_at_call 9; with_reducible exact Calls.ext_of (k1 _)) | (go_at_call 9; with_reducible exact Calls.ext_of (k2 _)) | (go_at_call 8; with_reducible exact Calls.ext_of (k3 _)))))
  refine wpQuiet_nil ?_
  intro w7 hq7
  have hb7 := ext_of_class hq7
  clear hq7
  obtain ⟨hc7, hf7, hz7⟩ := bcell3 hb7
  try simp at hz7
  have hw7 := eW6.trans hb7
  clear k1 k2 k3 y0 y1 y2 y3 y4 y5 y6 y7 l0 l1 l2 l3 hDa hDb hDm hDl hc7 hf7 hb7 eW6
  clear e2
  go_wp2
  go_loopg [11, 12] 8 (fun g v kv wr => ∃ k : Nat, ∃ ms : List Mask, g = 8 - k ∧ k ≤ 7 ∧ kv = .int .i64 k ∧ Hd (ms.length = k) ∧ Hd (∀ m ∈ ms, isMaskB m = true) ∧ Ext w7 wr ∧ Ow encMask 26 wr w7.heap.size v ms)
  case atStart => exact ⟨0, [], rfl, by omega, rfl, hd rfl, hd (fun m hm => by cases hm), (Ext.refl _).alloc _, Ow.made0 rfl (Nat.le_refl _)⟩
  case round =>
    obtain ⟨k, ms, hg, hk, rfl, hml, hmo, hw, hO⟩ := hrel
    have hwr := hw7.trans hw
    go_wp2_with fail
    refine Calls.mono (spec_P6Pick cs A cap 7 (by omega) _ (hR.ext hwr) (by omega)) ?_
    rintro e w8 ⟨r, rfl, r0, r1, hb8⟩
    have e1 : IntKind.i64.wrap (1 + r) = 1 + r := IntWalk.i64_in _ (by omega)
    by_cases hkr : (k : Int) < 1 + r
    · have hc : ((k : Int) < 1 + r) = True := eq_true hkr
      obtain ⟨x8, hx8⟩ : ∃ x : UInt8, IntKind.u8.wrap (k : Int) = (x.toNat : Int) := ⟨UInt8.ofNat k, by rw [IntKind.wrap_u8, UInt8.toNat_ofNat']; omega⟩
      have hE8 : Ext w8 (w8.alloc (.cells #[.int .u8 (x8.toNat : Int)] 5)) := (Ext.refl w8).alloc _
      have hO8 : Ow encU8 5 (w8.alloc (.cells #[.int .u8 (x8.toNat : Int)] 5)) w8.heap.size (.slice (some ⟨w8.heap.size, 0, none⟩) 1 1) [x8] := Ow.made encU8 _ _ [x8] _ (Nat.le_refl _) (by simp) rfl
      have hS8 := hS.ext ((hwr.trans hb8).trans hE8)
      go_wp2_with (at_builtin; refine wpList_addAny (w0 := w8) (base := w8.heap.size) (xs := [x8]) encU8 (by rfl) _ _ 22 (.int .u8 0) 1 (by rfl) Try.underlying22 info_u8 (by rfl) ds B cap' (by rfl) (by rfl) hS8 hO8 hE8.size (Nat.le_refl _) hE8 (by simp only [List.length_singleton]; omega) (by simp only [List.length_singleton]; omega) ?_)
      intro v9 w9 hO9 hb9
      replace hO9 : Ow encU8 5 w9 w8.heap.size v9 (x8 :: ds) := hO9
      have hl9 : (x8 :: ds).length ≤ 1099511627776 := by rw [List.length_cons]; omega
      generalize x8 :: ds = zs at hO9 hl9
      obtain ⟨A9, c9, rfl, hle9, hR9⟩ := hO9.slice
      have hmk := spec_P6Mask zs A9 c9 w9 hR9 hl9
      clear hE8 hO8 hS8 hO9 hR9 hle9 hl9
      go_wp2_with fail
      refine Calls.mono hmk ?_
      rintro e w10 ⟨m, rfl, hm1, hb10⟩
      have hO10 := hO.ext ((hb8.trans hb9).trans hb10)
      have hw10 : Ext w7 w10 := hw.trans ((hb8.trans hb9).trans hb10)
      have hl7 : ms.length ≤ 7 := by rw [hml.out]; exact hk
      clear hmk hb8 hb9 hb10 hO hw hwr
      go_wp2_with (at_builtin; refine wpList_push2 (w0 := w7) (base := w7.heap.size) (xs := ms) encMask (by rfl) _ _ 30 (.agg #[.int .u64 0, .int .u64 0]) 16 (by rfl) Try.underlying30 info_Mask3 (by rfl) (m) (by rfl) (by rfl) (by simp) (hO10) (by have := (hw10 : Ext w7 _).size; simp at this ⊢; omega) (by omega) (hw10) (by omega) (by omega) ?_)
      intro v11 w11 hO11 hb11 hg11 ho11
      go_wp2
      go_roundg (8 - (k + 1))
      case rel => exact ⟨k + 1, ms ++ [m], rfl, by omega, by simp, hd (by rw [List.length_append, hml.out]; rfl), hd (fun x hx => by rcases List.mem_append.1 hx with h | h; exact hmo.out x h; rw [List.mem_singleton.1 h]; exact hm1), hb11, hO11⟩
      case measure => omega
    · have hc : ((k : Int) < 1 + r) = False := eq_false hkr
      have hl1 : 1 ≤ ms.length := by rw [hml.out]; omega
      have hl7 : ms.length ≤ 7 := by rw [hml.out]; exact hk
      have hmaj := maj_ok hmo.out hl1 (by omega)
      have hMm := maj_mask (majP ms)
      have hMh := hd (fun i h => maj_has ms i h)
      have hlc := lon_code hmo.out (by omega)
      have hvt := hd (fun i h => votes_ok hmo.out (by omega) i h)
      obtain ⟨A12, c12, rfl, hle12, hR12⟩ := (hO.ext hb8).slice
      have q1 := fun (W : World) (h : Ext w8 W) => spec_MajorityOf ms A12 c12 W (hR12.ext h) (by omega)
      have q2 := fun (W : World) (h : Ext w8 W) => impl_MajorityOf ms A12 c12 W (hR12.ext h) (by omega)
      have q3 := fun (W : World) (h : Ext w8 W) => impl_LonelyHoles ms A12 c12 W (hR12.ext h) (by omega)
      have q4 := fun (W : World) (h : Ext w8 W) => spec_LonelyHoles ms A12 c12 W (hR12.ext h) (by omega)
      have q5 := fun (i : Nat) (W : World) (h : Ext w8 W) => impl_VotesFor ms A12 c12 i W (hR12.ext h) (by omega)
      have hvn := hd (fun (i : Nat) => votesN_le i ms)
      have hv0 := hd (fun (i : Nat) => votesN_ge i ms)
      clear hR hS hn hm h1 h2 hx
      rw [hmaj] at q1 q2
      generalize pickTo (majP ms) 96 = M at q1 q2 hMm hMh
      dsimp only at q1 q2
      generalize lonF ms = q at q3 q4 hlc
      obtain ⟨L, lc⟩ := q
      dsimp only at q3 q4 hlc
      have hw8 := hwr.trans hb8
      clear hmaj hO hw hwr hb8
      have hcc : (lc = 6 ∧ ms.length < 3) ∨ (lc = 0 ∧ ¬ ms.length < 3) := by
        by_cases h : ms.length < 3
        · rw [if_pos h] at hlc; exact .inl ⟨hlc, h⟩
        · rw [if_neg h] at hlc; exact .inr ⟨hlc, h⟩
      clear hlc
      rcases hcc with ⟨rfl, h3⟩ | ⟨rfl, h3⟩
      · have i3 : (ms.length : Int) < 3 := by omega
        clear h3
        go_wp2_with fail
        refine Calls.mono (q1 _ (Ext.refl _)) ?_
        rintro e w9 ⟨rfl, hb9⟩
        go_wp2_with fail
        refine Calls.mono (q2 _ (hb9.alloc _)) ?_
        rintro e w10 ⟨rfl, hb10⟩
        have hD10 : BoxAt w10 w9.heap.size #[.int .u64 (lo M), .int .u64 (hi M)] 26 := (BoxAt.new' rfl).ext hb10
        have hw10 := (hb9.alloc _).trans hb10
        have z10 := hb10.size
        simp only [World.size_alloc] at z10
        clear hb10
        go_wp2_with fail
        refine Calls.mono (q3 _ (hw10.alloc _)) ?_
        rintro e w11 ⟨rfl, hb11⟩
        have hD11 : BoxAt w11 w9.heap.size #[.int .u64 (lo M), .int .u64 (hi M)] 26 := (hD10.alloc _).ext hb11
        have hF11 : BoxAt w11 w10.heap.size #[.int .u64 (lo M), .int .u64 (hi M)] 26 := (BoxAt.new' rfl).ext hb11
        have hw11 := (hw10.alloc _).trans hb11
        have z11 := hb11.size
        simp only [World.size_alloc] at z11
        clear hb11 hD10
        go_wp2_with fail
        refine Calls.mono (q4 _ (hw11.alloc _)) ?_
        rintro e w12 ⟨rfl, hb12⟩
        have hD12 : BoxAt w12 w9.heap.size #[.int .u64 (lo M), .int .u64 (hi M)] 26 := (hD11.alloc _).ext hb12
        have hF12 : BoxAt w12 w10.heap.size #[.int .u64 (lo M), .int .u64 (hi M)] 26 := (hF11.alloc _).ext hb12
        have hL12 : BoxAt w12 w11.heap.size #[.int .u64 (lo L), .int .u64 (hi L)] 26 := (BoxAt.new' rfl).ext hb12
        have hw12 := (hw11.alloc _).trans hb12
        have z12 := hb12.size
        simp only [World.size_alloc] at z12
        clear hb12 hD11 hF11 hw11 hw10 hb9
        have y0 : w12.cell? ⟨w9.heap.size, 0, none⟩ = some (.int .u64 (lo M)) := hD12.cell 0
        have y1 : w12.cell? ⟨w9.heap.size, 1, none⟩ = some (.int .u64 (hi M)) := hD12.cell 1
        have y2 : w12.cell? ⟨w10.heap.size, 0, none⟩ = some (.int .u64 (lo M)) := hF12.cell 0
        have y3 : w12.cell? ⟨w10.heap.size, 1, none⟩ = some (.int .u64 (hi M)) := hF12.cell 1
        have y4 : w12.cell? ⟨w11.heap.size, 0, none⟩ = some (.int .u64 (lo L)) := hL12.cell 0
        have y5 : w12.cell? ⟨w11.heap.size, 1, none⟩ = some (.int .u64 (hi L)) := hL12.cell 1
        have l0 := hD12.lt
        have l1 := hF12.lt
        have l2 := hL12.lt
        have e2 := eqA_Mask
        have hD13 := hD12.alloc (.cells #[.int .u64 (lo L), .int .u64 (hi L)] 26)
        have hw13 := hw12.alloc (.cells #[.int .u64 (lo L), .int .u64 (hi L)] 26)
        clear q1 q2 q3 q4
        go_wp2
        refine intro_world (R := fun W => Code.wp _ _ _ _ W) (fun wz hN => ?_)
        have eZ : Ext w8 wz := by rw [hN]; exact hw13
        have hD : BoxAt wz w9.heap.size #[.int .u64 (lo M), .int .u64 (hi M)] 26 := by rw [hN]; exact hD13
        clear hN y0 y1 y2 y3 y4 y5 l0 l1 l2 e2 hD13 hw13 hD12 hF12 hL12 i3
        have hwz := hw8.trans eZ
        go_loopg [22] 96 (fun g hv wr => ∃ h : Nat, g = 96 - h ∧ h ≤ 96 ∧ hv = .int .i64 h ∧ Ext wz wr)
        case atStart => exact ⟨0, rfl, by omega, rfl, Ext.refl _⟩
        case round =>
          obtain ⟨h, hg, hh, rfl, hw⟩ := hrel
          by_cases hh2 : h < 96
          · have q6 := q5 h wr (eZ.trans hw)
            rw [hvt.out h hh2] at q6
            have hvn := hvn.out h
            have hv0 := hv0.out h
            have hMh := hd (hMh.out h hh2)
            have i1 : (h : Int) < 96 := by omega
            have hst := fun i hi => votesN_take h ms i hi
            have hmo2 := hmo.out
            clear q5 hvt
            go_wp2_with fail
            refine Calls.mono q6 ?_
            rintro e w20 ⟨rfl, hb20⟩
            have hw20 := hw.trans hb20
            clear q6 hw hb20
            have hv00 : votesN h (ms.take 0) = 0 := rfl
            go_wp2
            go_loopg [25, 26] ms.length (fun g cv iv wr => ∃ i : Nat, ∃ c : Int, g = ms.length - i ∧ i ≤ ms.length ∧ cv = .int .i64 c ∧ Hd (c = votesN h (ms.take i)) ∧ iv = .int .i64 i ∧ Ext wz wr)
            case atStart => exact ⟨0, 0, by omega, by omega, rfl, hd hv00.symm, rfl, hw20⟩
            case round =>
              obtain ⟨i, c, hg2, hi9, rfl, hc, rfl, hwi⟩ := hrel
              clear hv00
              by_cases hil : i < ms.length
              · obtain ⟨b9, o9, hA9, hlt9, _⟩ := hR12 i hil
                subst hA9
                obtain ⟨m0, m1, m2⟩ := (hR12.ext (eZ.trans hwi)).mask i hil
                have hh9 := spec_HasHole ms[i] (hmo2 _ (List.getElem_mem hil)) h (by omega) (by omega)
                have hst := hst i hil
                have hle9 : c ≤ 7 := by rw [hc.out]; have := votesN_le h (ms.take i); rw [List.length_take] at this; omega
                have hge9 : 0 ≤ c := by rw [hc.out]; exact votesN_ge h (ms.take i)
                rw [← hc.out] at hst
                clear hc
                have i2 : (i : Int) < ms.length := by omega
                have e1 : IntKind.i64.wrap (c + 1) = c + 1 := IntWalk.i64_in _ (by omega)
                generalize ms[i] = x at m0 m1 hh9 hst
                generalize hc9 : votesN h (ms.take (i + 1)) = c' at hst
                replace hc9 := hd hc9.symm
                cases hx : mhas x h with
                | true =>
                  rw [hx] at hst hh9
                  obtain rfl : c' = c + 1 := by rw [hst]; rfl
                  go_wp2_with fail
                  refine Calls.mono (hh9 _) ?_
                  rintro e w21 ⟨rfl, hb21⟩
                  have hw21 := hwi.trans hb21
                  have hst2 := hc9
                  clear hst hc9 hh9 hx m0 m1 hmo2 hMh
                  go_wp2
                  go_roundg (ms.length - (i + 1))
                  case rel => exact ⟨i + 1, c + 1, rfl, hil, rfl, hst2, by simp, hw21⟩
                  case measure => omega
                | false =>
                  rw [hx] at hst hh9
                  obtain rfl : c' = c := by rw [hst]; simp
                  go_wp2_with fail
                  refine Calls.mono (hh9 _) ?_
                  rintro e w21 ⟨rfl, hb21⟩
                  have hw21 := hwi.trans hb21
                  have hst2 := hc9
                  clear hst hc9 hh9 hx m0 m1 hmo2 hMh
                  go_wp2
                  go_roundg (ms.length - (i + 1))
                  case rel => exact ⟨i + 1, c', rfl, hil, rfl, hst2, by simp, hw21⟩
                  case measure => omega
              · obtain rfl : i = ms.length := by omega
                have hc := hc.out
                rw [List.take_length] at hc
                have d0 : wr.cell? ⟨w9.heap.size, 0, none⟩ = some (.int .u64 (lo M)) := (hD.ext hwi).cell 0
                have d1 : wr.cell? ⟨w9.heap.size, 1, none⟩ = some (.int .u64 (hi M)) := (hD.ext hwi).cell 1
                have hh9 := spec_HasHole M hMm h (by omega) (by omega) wr
                rw [hMh.out] at hh9
                rw [← hc] at hh9 hvn hv0
                have hvc : votesN h ms = c := hc.symm
                have hv70 : (ms.length : Int) ≤ 7 := by omega
                clear hst hmo2 hc hMh
                have e1 : IntKind.i64.wrap (2 * c) = 2 * c := IntWalk.i64_in _ (by omega)
                by_cases hc2 : 2 * c > (ms.length : Int)
                · rw [decide_eq_true hc2] at hh9
                  have i4 : (ms.length : Int) < 2 * c := hc2
                  go_wp2_with fail
                  refine Calls.mono hh9 ?_
                  rintro e w22 ⟨rfl, hb22⟩
                  have hw22 := hwi.trans hb22
                  clear hh9 d0 d1 hvn hv0 hv70
                  go_wp2
                  go_roundg (96 - (h + 1))
                  case rel => exact ⟨h + 1, rfl, hh2, by simp, hw22⟩
                  case measure => omega
                · rw [decide_eq_false hc2] at hh9
                  have i4 : ((ms.length : Int) < 2 * c) = False := eq_false hc2
                  go_wp2_with fail
                  refine Calls.mono hh9 ?_
                  rintro e w22 ⟨rfl, hb22⟩
                  have hw22 := hwi.trans hb22
                  clear hh9 d0 d1 hvn hv0 hv70
                  go_wp2
                  go_roundg (96 - (h + 1))
                  case rel => exact ⟨h + 1, rfl, hh2, by simp, hw22⟩
                  case measure => omega
          · obtain rfl : h = 96 := by omega
            clear q5 hvt hMh hvn hv0
            go_wp2
            go_ret
            exact ⟨rfl, hwz.trans hw⟩
      · have i3 := h3
        clear h3
        go_wp2_with fail
        refine Calls.mono (q1 _ (Ext.refl _)) ?_
        rintro e w9 ⟨rfl, hb9⟩
        go_wp2_with fail
        refine Calls.mono (q2 _ (hb9.alloc _)) ?_
        rintro e w10 ⟨rfl, hb10⟩
        have hD10 : BoxAt w10 w9.heap.size #[.int .u64 (lo M), .int .u64 (hi M)] 26 := (BoxAt.new' rfl).ext hb10
        have hw10 := (hb9.alloc _).trans hb10
        have z10 := hb10.size
        simp only [World.size_alloc] at z10
        clear hb10
        go_wp2_with fail
        refine Calls.mono (q3 _ (hw10.alloc _)) ?_
        rintro e w11 ⟨rfl, hb11⟩
        have hD11 : BoxAt w11 w9.heap.size #[.int .u64 (lo M), .int .u64 (hi M)] 26 := (hD10.alloc _).ext hb11
        have hF11 : BoxAt w11 w10.heap.size #[.int .u64 (lo M), .int .u64 (hi M)] 26 := (BoxAt.new' rfl).ext hb11
        have hw11 := (hw10.alloc _).trans hb11
        have z11 := hb11.size
        simp only [World.size_alloc] at z11
        clear hb11 hD10
        go_wp2_with fail
        refine Calls.mono (q4 _ (hw11.alloc _)) ?_
        rintro e w12 ⟨rfl, hb12⟩
        have hD12 : BoxAt w12 w9.heap.size #[.int .u64 (lo M), .int .u64 (hi M)] 26 := (hD11.alloc _).ext hb12
        have hF12 : BoxAt w12 w10.heap.size #[.int .u64 (lo M), .int .u64 (hi M)] 26 := (hF11.alloc _).ext hb12
        have hL12 : BoxAt w12 w11.heap.size #[.int .u64 (lo L), .int .u64 (hi L)] 26 := (BoxAt.new' rfl).ext hb12
        have hw12 := (hw11.alloc _).trans hb12
        have z12 := hb12.size
        simp only [World.size_alloc] at z12
        clear hb12 hD11 hF11 hw11 hw10 hb9
        have y0 : w12.cell? ⟨w9.heap.size, 0, none⟩ = some (.int .u64 (lo M)) := hD12.cell 0
        have y1 : w12.cell? ⟨w9.heap.size, 1, none⟩ = some (.int .u64 (hi M)) := hD12.cell 1
        have y2 : w12.cell? ⟨w10.heap.size, 0, none⟩ = some (.int .u64 (lo M)) := hF12.cell 0
        have y3 : w12.cell? ⟨w10.heap.size, 1, none⟩ = some (.int .u64 (hi M)) := hF12.cell 1
        have y4 : w12.cell? ⟨w11.heap.size, 0, none⟩ = some (.int .u64 (lo L)) := hL12.cell 0
        have y5 : w12.cell? ⟨w11.heap.size, 1, none⟩ = some (.int .u64 (hi L)) := hL12.cell 1
        have l0 := hD12.lt
        have l1 := hF12.lt
        have l2 := hL12.lt
        have e2 := eqA_Mask
        have hD13 := hD12.alloc (.cells #[.int .u64 (lo L), .int .u64 (hi L)] 26)
        have hw13 := hw12.alloc (.cells #[.int .u64 (lo L), .int .u64 (hi L)] 26)
        clear q1 q2 q3 q4
        go_wp2
        refine intro_world (R := fun W => Code.wp _ _ _ _ W) (fun wz hN => ?_)
        have eZ : Ext w8 wz := by rw [hN]; exact hw13
        have hD : BoxAt wz w9.heap.size #[.int .u64 (lo M), .int .u64 (hi M)] 26 := by rw [hN]; exact hD13
        clear hN y0 y1 y2 y3 y4 y5 l0 l1 l2 e2 hD13 hw13 hD12 hF12 hL12 i3
        have hwz := hw8.trans eZ
        go_loopg [22] 96 (fun g hv wr => ∃ h : Nat, g = 96 - h ∧ h ≤ 96 ∧ hv = .int .i64 h ∧ Ext wz wr)
        case atStart => exact ⟨0, rfl, by omega, rfl, Ext.refl _⟩
        case round =>
          obtain ⟨h, hg, hh, rfl, hw⟩ := hrel
          by_cases hh2 : h < 96
          · have q6 := q5 h wr (eZ.trans hw)
            rw [hvt.out h hh2] at q6
            have hvn := hvn.out h
            have hv0 := hv0.out h
            have hMh := hd (hMh.out h hh2)
            have i1 : (h : Int) < 96 := by omega
            have hst := fun i hi => votesN_take h ms i hi
            have hmo2 := hmo.out
            clear q5 hvt
            go_wp2_with fail
            refine Calls.mono q6 ?_
            rintro e w20 ⟨rfl, hb20⟩
            have hw20 := hw.trans hb20
            clear q6 hw hb20
            have hv00 : votesN h (ms.take 0) = 0 := rfl
            go_wp2
            go_loopg [25, 26] ms.length (fun g cv iv wr => ∃ i : Nat, ∃ c : Int, g = ms.length - i ∧ i ≤ ms.length ∧ cv = .int .i64 c ∧ Hd (c = votesN h (ms.take i)) ∧ iv = .int .i64 i ∧ Ext wz wr)
            case atStart => exact ⟨0, 0, by omega, by omega, rfl, hd hv00.symm, rfl, hw20⟩
            case round =>
              obtain ⟨i, c, hg2, hi9, rfl, hc, rfl, hwi⟩ := hrel
              clear hv00
              by_cases hil : i < ms.length
              · obtain ⟨b9, o9, hA9, hlt9, _⟩ := hR12 i hil
                subst hA9
                obtain ⟨m0, m1, m2⟩ := (hR12.ext (eZ.trans hwi)).mask i hil
                have hh9 := spec_HasHole ms[i] (hmo2 _ (List.getElem_mem hil)) h (by omega) (by omega)
                have hst := hst i hil
                have hle9 : c ≤ 7 := by rw [hc.out]; have := votesN_le h (ms.take i); rw [List.length_take] at this; omega
                have hge9 : 0 ≤ c := by rw [hc.out]; exact votesN_ge h (ms.take i)
                rw [← hc.out] at hst
                clear hc
                have i2 : (i : Int) < ms.length := by omega
                have e1 : IntKind.i64.wrap (c + 1) = c + 1 := IntWalk.i64_in _ (by omega)
                generalize ms[i] = x at m0 m1 hh9 hst
                generalize hc9 : votesN h (ms.take (i + 1)) = c' at hst
                replace hc9 := hd hc9.symm
                cases hx : mhas x h with
                | true =>
                  rw [hx] at hst hh9
                  obtain rfl : c' = c + 1 := by rw [hst]; rfl
                  go_wp2_with fail
                  refine Calls.mono (hh9 _) ?_
                  rintro e w21 ⟨rfl, hb21⟩
                  have hw21 := hwi.trans hb21
                  have hst2 := hc9
                  clear hst hc9 hh9 hx m0 m1 hmo2 hMh
                  go_wp2
                  go_roundg (ms.length - (i + 1))
                  case rel => exact ⟨i + 1, c + 1, rfl, hil, rfl, hst2, by simp, hw21⟩
                  case measure => omega
                | false =>
                  rw [hx] at hst hh9
                  obtain rfl : c' = c := by rw [hst]; simp
                  go_wp2_with fail
                  refine Calls.mono (hh9 _) ?_
                  rintro e w21 ⟨rfl, hb21⟩
                  have hw21 := hwi.trans hb21
                  have hst2 := hc9
                  clear hst hc9 hh9 hx m0 m1 hmo2 hMh
                  go_wp2
                  go_roundg (ms.length - (i + 1))
                  case rel => exact ⟨i + 1, c', rfl, hil, rfl, hst2, by simp, hw21⟩
                  case measure => omega
              · obtain rfl : i = ms.length := by omega
                have hc := hc.out
                rw [List.take_length] at hc
                have d0 : wr.cell? ⟨w9.heap.size, 0, none⟩ = some (.int .u64 (lo M)) := (hD.ext hwi).cell 0
                have d1 : wr.cell? ⟨w9.heap.size, 1, none⟩ = some (.int .u64 (hi M)) := (hD.ext hwi).cell 1
                have hh9 := spec_HasHole M hMm h (by omega) (by omega) wr
                rw [hMh.out] at hh9
                rw [← hc] at hh9 hvn hv0
                have hvc : votesN h ms = c := hc.symm
                have hv70 : (ms.length : Int) ≤ 7 := by omega
                clear hst hmo2 hc hMh
                have e1 : IntKind.i64.wrap (2 * c) = 2 * c := IntWalk.i64_in _ (by omega)
                by_cases hc2 : 2 * c > (ms.length : Int)
                · rw [decide_eq_true hc2] at hh9
                  have i4 : (ms.length : Int) < 2 * c := hc2
                  go_wp2_with fail
                  refine Calls.mono hh9 ?_
                  rintro e w22 ⟨rfl, hb22⟩
                  have hw22 := hwi.trans hb22
                  clear hh9 d0 d1 hvn hv0 hv70
                  go_wp2
                  go_roundg (96 - (h + 1))
                  case rel => exact ⟨h + 1, rfl, hh2, by simp, hw22⟩
                  case measure => omega
                · rw [decide_eq_false hc2] at hh9
                  have i4 : ((ms.length : Int) < 2 * c) = False := eq_false hc2
                  go_wp2_with fail
                  refine Calls.mono hh9 ?_
                  rintro e w22 ⟨rfl, hb22⟩
                  have hw22 := hwi.trans hb22
                  clear hh9 d0 d1 hvn hv0 hv70
                  go_wp2
                  go_roundg (96 - (h + 1))
                  case rel => exact ⟨h + 1, rfl, hh2, by simp, hw22⟩
                  case measure => omega
          · obtain rfl : h = 96 := by omega
            clear q5 hvt hMh hvn hv0
            go_wp2
            go_ret
            exact ⟨rfl, hwz.trans hw⟩
end Go.Proofs.Ythkphhacmneeiaa
