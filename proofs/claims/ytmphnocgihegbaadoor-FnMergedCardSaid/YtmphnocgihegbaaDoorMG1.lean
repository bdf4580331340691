/-
  Contracts for the law FnMerged: bytes that are too many, a number out of bytes, the catalogue that is drawn.
-/
import Derived.Test.YtmphnocgihegbaaDoorPM
import Derived.Test.YtmphnocgihegbaaDoorS0
import Derived.Test.YtmphnocgihegbaaDoorE9
set_option linter.unusedVariables false
set_option linter.unusedSimpArgs false
set_option maxRecDepth 100000
namespace Go.Proofs.YtmphnocgihegbaaDoor
open Go.RowKit
theorem Win.grownOut {lo hi : Nat} {w w' w'' : World} {row : Option Nat} (h : Win lo hi w w') (hg : w'.grownBy w'' row) (hr : ∀ k, row = some k → w.heap.size ≤ k) : Win lo hi w w'' :=
  ⟨hg.os.trans h.os, hg.tape.trans h.tape, hg.output.trans h.output, Nat.le_trans h.size hg.size, fun b hb1 hb2 => (hg.block b (Nat.lt_of_lt_of_le hb1 h.size) (fun e => by have := hr b e.symm; omega)).trans (h.block b hb1 hb2)⟩
theorem Rd.grown {α : Type} {e : Enc α} {w w' : World} {A : Option Addr} {xs : List α} (h : Rd e w A xs) {row : Option Nat} (hg : w.grownBy w' row) (hne : ∀ p, A = some p → row ≠ some p.block) : Rd e w' A xs := fun k hk => by
  obtain ⟨b, off, hA, hlt, hc⟩ := h k hk
  exact ⟨b, off, hA, Nat.lt_of_lt_of_le hlt hg.size, fun j u hu => (cell_blockW (hg.block b hlt (fun e => hne _ hA e.symm))).trans (hc j u hu)⟩
section
variable {α : Type} {e : Enc α} {xs : List α} {T : TypeId} {base : Nat} {v : Value}
/-- Append of one element, in a world of which nothing else is told. -/
theorem wpList_pushW {P : Program} {ops : Array Oper} {rest : List Oper} {o : Oper} {a : Act} {Q : Exit → Act → World → Prop} (e : Enc α) {W : World} {bk : Nat} (hgd : o.guard = none) (s y : Operand) (t : TypeId) (z : Value) (bytes : Nat)
    (ho : o.op = .call { callee := .builtin .append, args := #[s, y], argTypes := #[t, t] })
    (ht : P.underlying t = some (.slice T)) (hinfo : (P.info? T).map (fun i => (i.zero, i.size, i.bytes)) = some (some z, e.sz, bytes)) (hz : z.cells.size = e.sz)
    (x : α) (hs : a.eval s = v) (hy : a.eval y = .slice (some ⟨bk, 0, none⟩) 1 1) (hbk : bk = W.heap.size) (HO : Ow e T W base v xs) (hbase : base ≤ W.heap.size)
    (hl : (xs.length + 1) * bytes ≤ 140737488355328) (hl2 : xs.length + 1 ≤ 9223372036854775807)
    (h : ∀ v1 w1, Ow e T w1 base v1 (xs ++ [x]) → W.grownBy w1 v.ownBlock → (v1.ownBlock = v.ownBlock ∨ ∃ b, v1.ownBlock = some b ∧ W.heap.size ≤ b) → wpList P ops Q rest (a.put o.dst v1) w1) :
    wpList P ops Q (o :: rest) a (W.alloc (.cells (e.enc x).toArray T)) :=
  wpList_push2 (w0 := { W with heap := #[] }) e hgd s y t z bytes ho ht hinfo hz x hs hy hbk HO hbase (Nat.zero_le _) ⟨rfl, rfl, rfl, Nat.zero_le _, fun b hb => absurd hb (Nat.not_lt_zero b)⟩ hl hl2 (fun v1 w1 h1 _ h3 h4 => h v1 w1 h1 h3 h4)
end
theorem laws_a2Long (cs ds : List UInt8) (A B : Option Addr) (cap cap' : Nat) (w : World) :
    Calls Tryd.prog 27 #[.slice A cs.length cap, .slice B ds.length cap'] w fun e w' => e = .returned (.bool (decide (3000 < cs.length ∨ 3000 < ds.length))) ∧ Ext w w' := by
  by_cases h : 3000 < cs.length
  · have h' : (3000 : Int) < (cs.length : Int) := by omega
    rw [decide_eq_true (.inl h)]
    go_enter Tryd.func27, Tryd.ntmps27
    go_wp2
    go_ret
    exact ⟨by simp [h'], Ext.refl _⟩
  · have h' : ((3000 : Int) < (cs.length : Int)) = False := eq_false (by omega)
    by_cases g : 3000 < ds.length
    · have g' : (3000 : Int) < (ds.length : Int) := by omega
      rw [decide_eq_true (.inr g)]
      go_enter Tryd.func27, Tryd.ntmps27
      go_wp2
      go_ret
      exact ⟨by simp [h', g'], Ext.refl _⟩
    · have g' : ((3000 : Int) < (ds.length : Int)) = False := eq_false (by omega)
      rw [decide_eq_false (by omega)]
      go_enter Tryd.func27, Tryd.ntmps27
      go_wp2
      go_ret
      exact ⟨by simp [h', g'], Ext.refl _⟩
theorem laws_a2At (cs : List UInt8) (A : Option Addr) (cap : Nat) (k : Nat) (n : Int) (n1 : 1 ≤ n) (n2 : n < 9223372036854775808) (w : World) (hR : Rd encU8 w A cs) :
    Calls Tryd.prog 29 #[.slice A cs.length cap, .int .i64 k, .int .i64 n] w fun e w' => ∃ r : Int, e = .returned (.int .i64 r) ∧ 0 ≤ r ∧ r < n ∧ Ext w w' := by
  have i2 : (n < 1) = False := eq_false (by omega)
  by_cases h : k < cs.length
  · obtain ⟨bA, oA, hA, hltA, _⟩ := hR k h
    subst hA
    have m0 := hR.u8 k h
    have hr := cs[k].toNat_lt
    generalize cs[k].toNat = r at m0 hr
    have i1 : ((cs.length : Int) ≤ k) = False := eq_false (by omega)
    have i3 : (k : Int) < cs.length := by omega
    have hwr : IntKind.i64.wrap (r : Int) = (r : Int) := IntWalk.i64_in _ (by omega)
    have e3 : (n == 0) = false := beq_eq_false_iff_ne.2 (by omega)
    have e5 := Int.emod_nonneg (r : Int) (show n ≠ 0 by omega)
    have e6 := Int.emod_lt_of_pos (r : Int) (show 0 < n by omega)
    have e4 : IntKind.i64.wrap ((r : Int).tmod n) = (r : Int).tmod n := by
      rw [Int.tmod_eq_emod_of_nonneg (by omega)]
      exact IntWalk.i64_in _ (by omega)
    go_enter Tryd.func29, Tryd.ntmps29
    go_wp2
    go_ret
    exact ⟨_, rfl, e5, e6, Ext.refl _⟩
  · have i1 : (cs.length : Int) ≤ k := by omega
    go_enter Tryd.func29, Tryd.ntmps29
    go_wp2
    go_ret
    exact ⟨0, rfl, Int.le_refl _, by omega, Ext.refl _⟩
theorem spec_A2Has (is : List Int) (A : Option Addr) (cap : Nat) (v : Int) (w : World) (hR : Rd encI64 w A is) (hn : is.length ≤ 1048576) :
    Calls Tryd.prog 33 #[.slice A is.length cap, .int .i64 v] w fun e w' => e = .returned (.bool (hasI is v)) ∧ Ext w w' := by
  go_enter Tryd.func33, Tryd.ntmps33
  go_wp2_with fail
  refine Calls.mono (spec_l05In is A cap v _ hR hn) ?_
  rintro e w1 ⟨rfl, hb1⟩
  go_wp2
  go_ret
  exact ⟨rfl, hb1⟩
theorem spec_l05Called (w : World) :
    Calls Tryd.prog 77 #[] w fun e w' => ∃ b, e = .returned (.slice (some ⟨b, 0, none⟩) 16 16) ∧ Rd encStr w' (some ⟨b, 0, none⟩) calledL ∧ w.heap.size ≤ b ∧ b < w'.heap.size ∧ Ext w w' := by
  go_enter Tryd.func77, Tryd.ntmps77
  go_wp2
  go_ret
  exact ⟨_, rfl, Rd.lit encStr _ calledL _ _ (by decide) rfl, Nat.le_refl _, by simp, (Ext.refl _).alloc _⟩
set_option maxHeartbeats 2000000 in
theorem spec_l05Drawn (base b n : Nat) (w : World) (hS : Src w base b n) (hn : n + 60 ≤ 1099511627776) :
    Calls Tryd.prog 63 #[.pointer (some ⟨b, 0, none⟩)] w fun e w' => ∃ xs v, e = .returned v ∧ Ow encEnt 49 w' w.heap.size v xs ∧ DrawnC xs ∧ 1 ≤ xs.length ∧ xs.length ≤ 9 ∧ Src w' base b (n + 60) ∧ Win b (b + 1) w w' := by
  have lS := hS.lt
  have hbs := hS.base
  go_enter Tryd.func63, Tryd.ntmps63
  go_wp2_with fail
  refine Calls.mono (spec_l05Called _) ?_
  rintro e w1 ⟨c, rfl, hN, hc0, hc1, hb1⟩
  have hE1 := ((Ext.refl w).alloc (.cells #[] 49)).trans hb1
  have hO1 : Ow encEnt 49 w1 w.heap.size (.slice (some ⟨w.heap.size, 0, none⟩) 0 0) [] := (Ow.made0 (T := 49) (W := w) rfl (Nat.le_refl _)).ext hb1
  simp only [World.size_alloc] at hc0
  clear hb1
  go_wp2_with fail
  refine Calls.mono (src_pick base b n 9 (by omega) _ (hS.ext hE1) (by omega)) ?_
  rintro e w2 ⟨k0, rfl, k00, k01, hS2, hW2⟩
  have hO2 := hO1.win hW2 (fun b' h => .inr (by have := (hO1.lt b' h).1; omega))
  have hN2 := hN.win hW2 (fun p hp => by cases hp; exact .inr (by show b + 1 ≤ c; omega))
  have hw2 := (Win.of (lo := b) (hi := b + 1) hE1).trans hW2
  have hc2 := Nat.lt_of_lt_of_le hc1 hW2.size
  clear hO1 hN hE1 hW2 hc1 hS
  obtain ⟨k0, rfl⟩ := Int.eq_ofNat_of_zero_le k00
  have j1 : IntKind.i64.wrap (1 + (k0 : Int)) = ((k0 + 1 : Nat) : Int) := (IntWalk.i64_in _ (by omega)).trans (by omega)
  go_wp2
  go_loopg [3, 5] (k0 + 1) (fun g v kv wr => ∃ k : Nat, ∃ xs : List Ent, g = k ∧ kv = .int .i64 k ∧ Hd (xs.length + k = k0 + 1) ∧ DrawnC xs ∧ Ow encEnt 49 wr w.heap.size v xs ∧ (∀ b', v.ownBlock = some b' → b' ≠ c) ∧ Rd encStr wr (some ⟨c, 0, none⟩) calledL ∧ c < wr.heap.size ∧ Src wr base b (n + 60 - 4 * k) ∧ Win b (b + 1) w wr)
  case atStart => exact ⟨k0 + 1, [], rfl, rfl, hd (by simp), DrawnC.nil, hO2, fun b' h => by cases h; show w.heap.size ≠ c; omega, hN2, hc2, hS2.up (by omega) (by omega), hw2⟩
  case round =>
    obtain ⟨k, xs, hg, rfl, hlen, hD, hO, hcn, hN, hcl, hSr, hw⟩ := hrel
    clear hS2 hO2 hN2 hw2 hc2 k00
    cases k with
    | zero =>
      go_wp2
      go_ret
      exact ⟨xs, _, rfl, hO, hD, by have := hlen.out; omega, by have := hlen.out; omega, hSr, hw⟩
    | succ k =>
      have hlen2 := hlen.out
      have hx16 : xs.length < 16 := by omega
      have i1 : ((0 : Int) < (k + 1 : Nat)) = True := eq_true (by omega)
      rw [show ((k + 1 : Nat) : Int) = (k : Int) + 1 from rfl] at *
      have m0 := hN.str xs.length (by rw [called_len]; omega)
      have hpush := fun s b' hs hb ho => hD.push hx16 s b' hs hb ho
      rw [← getBang calledL xs.length (by rw [called_len]; omega)] at m0
      generalize calledL[xs.length]! = nm at m0 hpush
      rw [Nat.zero_add] at m0
      have i2 : (xs.length : Int) < 16 := by omega
      have lw := hw.size
      have hob := fun b' h => (hO.lt b' h)
      have rm : refB xs (-1) = true := by rw [refB_iff]; exact .inl rfl
      obtain ⟨A, cap, rfl, hle, hR⟩ := hO.slice
      clear hlen2 hle hR
      rcases Nat.eq_zero_or_pos xs.length with h0 | h0
      · have i3 : (0 < xs.length) = False := eq_false (by omega)
        clear h0
        have kE := (Ext.refl wr).alloc (.cells #[.string nm, .int .i64 (-1), .int .i64 (-1)] 49)
        have kO := hO.ext kE
        have kN := hN.ext kE
        have kS := hSr.ext kE
        have kw := hw.ext kE
        have kc := Nat.lt_of_lt_of_le hcl kE.size
        have kz := kw.size
        have kl := hlen.out
        go_wp2_with (at_builtin; refine wpList_pushW (base := w.heap.size) (xs := xs) encEnt (by rfl) _ _ 27 (.agg #[.string ⟨#[]⟩, .int .i64 0, .int .i64 0]) 32 (by rfl) Tryd.underlying27 info_ent (by rfl) (⟨nm, -1, -1⟩ : Ent) (by rfl) (by rfl) (by simp) kO (by simpa using kz) (by omega) (by omega) ?_)
        intro v6 w6 hO6 hg6 ho6
        have hN6 := kN.grown hg6 (fun p hp h => by cases hp; exact hcn _ h rfl)
        have hS6 := kS.grown hg6 (fun j hj => by have := (kO.lt j hj).1; omega)
        have hw6 := kw.grownOut hg6 (fun j hj => (kO.lt j hj).1)
        have hcl6 := Nat.lt_of_lt_of_le kc hg6.size
        have hcn6 : ∀ b', v6.ownBlock = some b' → b' ≠ c := fun b' h => by rcases ho6 with h1 | ⟨b'', h1, h2⟩; (exact hcn b' (h1.symm.trans h)); (rw [h1] at h; cases h; exact fun h3 => by subst h3; omega)
        have hD6 := hpush (-1) (-1) rm rm (.inl rfl)
        have hlen6 : Hd ((xs ++ [(⟨nm, -1, -1⟩ : Ent)]).length + k = k0 + 1) := hd (by rw [List.length_append, List.length_singleton]; omega)
        go_wp2
        go_roundg k
        case rel => exact ⟨k, _, rfl, rfl, hlen6, hD6, hO6, hcn6, hN6, hcl6, hS6.up (by omega) (by omega), hw6⟩
        case measure => omega
      · have kE := (Ext.refl wr).alloc (.cells #[.string nm, .int .i64 (-1), .int .i64 (-1)] 49)
        have hX : BoxAt (wr.alloc (.cells #[.string nm, .int .i64 (-1), .int .i64 (-1)] 49)) wr.heap.size #[.string nm, .int .i64 (-1), .int .i64 (-1)] 49 := BoxAt.new' rfl
        go_wp2_with fail
        refine Calls.mono (src_pick base b _ xs.length (by omega) _ (hSr.ext kE) (by omega)) ?_
        rintro e w4 ⟨q, rfl, q0, q1, hS4, hW4⟩
        have hX4 := hX.win hW4 (.inr (by omega))
        have hO4 := (hO.ext kE).win hW4 (fun b' h => .inr (by have := (hob b' h).1; omega))
        have hN4 := (hN.ext kE).win hW4 (fun p hp => by cases hp; exact .inr (by show b + 1 ≤ c; omega))
        have hw4 := (hw.ext kE).trans hW4
        have hc4 := Nat.lt_of_lt_of_le (Nat.lt_of_lt_of_le hcl kE.size) hW4.size
        clear hX hO hN hw hSr kE hW4 m0
        obtain ⟨q, rfl⟩ := Int.eq_ofNat_of_zero_le q0
        have hq : q < xs.length := by omega
        have hq2 : (q : Int) < xs.length := by omega
        clear q0 q1
        obtain ⟨A', cap', eA, hle, hR4⟩ := hO4.slice
        cases eA
        obtain ⟨bA, oA, hA, hlt, _⟩ := hR4 q hq
        subst hA
        obtain ⟨c0, c1, c2, _⟩ := hR4.ent q hq
        clear c0 c2
        have hpq : xs[q].see = -1 → refB xs q = true := fun h => by rw [refB_iff, prefB_iff]; exact .inr ⟨by omega, hq2, by rw [Int.toNat_natCast, getBang xs q hq]; exact h⟩
        generalize xs[q].see = s at c1 hpq
        have y0 : w4.cell? ⟨wr.heap.size, 0, none⟩ = some (.string nm) := hX4.cell 0
        have y1 : w4.cell? ⟨wr.heap.size, 1, none⟩ = some (.int .i64 (-1)) := hX4.cell 1
        have y2 : w4.cell? ⟨wr.heap.size, 2, none⟩ = some (.int .i64 (-1)) := hX4.cell 2
        have lX := hX4.lt
        by_cases hs : s = -1
        · subst hs
          replace hpq := hpq rfl
          go_wp2_with fail
          refine Calls.mono (src_pick base b _ 3 (by omega) _ hS4 (by omega)) ?_
          rintro e w5 ⟨r, rfl, r0, r1, hS5, hW5⟩
          have hX5 := hX4.win hW5 (.inr (by omega))
          have kO := hO4.win hW5 (fun b' h => .inr (by have := (hob b' h).1; omega))
          have kN := hN4.win hW5 (fun p hp => by cases hp; exact .inr (by show b + 1 ≤ c; omega))
          have kw := hw4.trans hW5
          have kc := Nat.lt_of_lt_of_le hc4 hW5.size
          clear hX4 hO4 hN4 hw4 hS4 hc4 y0 y1 y2 lX c1 hR4 hlt hW5
          have y0 : w5.cell? ⟨wr.heap.size, 0, none⟩ = some (.string nm) := hX5.cell 0
          have y1 : w5.cell? ⟨wr.heap.size, 1, none⟩ = some (.int .i64 (-1)) := hX5.cell 1
          have y2 : w5.cell? ⟨wr.heap.size, 2, none⟩ = some (.int .i64 (-1)) := hX5.cell 2
          have f1 := hX5.frozen 1
          have f2 := hX5.frozen 2
          have lX := hX5.lt
          rcases (show r = 0 ∨ r = 1 ∨ r = 2 by omega) with rfl | rfl | rfl
          · replace kO := kO.far (p := ⟨wr.heap.size, 1, none⟩) (fun h => by have h9 : wr.heap.size < wr.heap.size := (hob _ h).2; omega) (.int .i64 q)
            replace kN := kN.win (lo := wr.heap.size) (hi := wr.heap.size + 1) ((Win.refl _ _ w5).set1 (i := 1) (.int .i64 q)) (fun p hp => by cases hp; exact .inl (show c < wr.heap.size from hcl))
            replace kw := kw.setOut (p := ⟨wr.heap.size, 1, none⟩) (by dsimp only; omega) (.int .i64 q)
            have kS := hS5.set (p := ⟨wr.heap.size, 1, none⟩) (by dsimp only; omega) (by dsimp only; omega) (.int .i64 q)
            replace kc : c < (w5.setCell ⟨wr.heap.size, 1, none⟩ (.int .i64 q)).heap.size := by simpa using kc
            clear hS5 hX5
            have kz := kw.size
            have kl := hlen.out
            go_wp2_with (at_builtin; refine wpList_pushW (base := w.heap.size) (xs := xs) encEnt (by rfl) _ _ 27 (.agg #[.string ⟨#[]⟩, .int .i64 0, .int .i64 0]) 32 (by rfl) Tryd.underlying27 info_ent (by rfl) (⟨nm, (q : Int), -1⟩ : Ent) (by rfl) (by rfl) (by simp) kO (by simpa using kz) (by omega) (by omega) ?_)
            intro v6 w6 hO6 hg6 ho6
            have hN6 := kN.grown hg6 (fun p hp h => by cases hp; exact hcn _ h rfl)
            have hS6 := kS.grown hg6 (fun j hj => by have := (kO.lt j hj).1; omega)
            have hw6 := kw.grownOut hg6 (fun j hj => (kO.lt j hj).1)
            have hcl6 := Nat.lt_of_lt_of_le kc hg6.size
            have hcn6 : ∀ b', v6.ownBlock = some b' → b' ≠ c := fun b' h => by rcases ho6 with h1 | ⟨b'', h1, h2⟩; (exact hcn b' (h1.symm.trans h)); (rw [h1] at h; cases h; exact fun h3 => by subst h3; omega)
            have hD6 := hpush ((q : Int)) (-1) hpq rm (.inr rfl)
            have hlen6 : Hd ((xs ++ [(⟨nm, (q : Int), -1⟩ : Ent)]).length + k = k0 + 1) := hd (by rw [List.length_append, List.length_singleton]; omega)
            go_wp2
            go_roundg k
            case rel => exact ⟨k, _, rfl, rfl, hlen6, hD6, hO6, hcn6, hN6, hcl6, hS6.up (by omega) (by omega), hw6⟩
            case measure => omega
          · replace kO := kO.far (p := ⟨wr.heap.size, 2, none⟩) (fun h => by have h9 : wr.heap.size < wr.heap.size := (hob _ h).2; omega) (.int .i64 q)
            replace kN := kN.win (lo := wr.heap.size) (hi := wr.heap.size + 1) ((Win.refl _ _ w5).set1 (i := 2) (.int .i64 q)) (fun p hp => by cases hp; exact .inl (show c < wr.heap.size from hcl))
            replace kw := kw.setOut (p := ⟨wr.heap.size, 2, none⟩) (by dsimp only; omega) (.int .i64 q)
            have kS := hS5.set (p := ⟨wr.heap.size, 2, none⟩) (by dsimp only; omega) (by dsimp only; omega) (.int .i64 q)
            replace kc : c < (w5.setCell ⟨wr.heap.size, 2, none⟩ (.int .i64 q)).heap.size := by simpa using kc
            clear hS5 hX5
            have kz := kw.size
            have kl := hlen.out
            go_wp2_with (at_builtin; refine wpList_pushW (base := w.heap.size) (xs := xs) encEnt (by rfl) _ _ 27 (.agg #[.string ⟨#[]⟩, .int .i64 0, .int .i64 0]) 32 (by rfl) Tryd.underlying27 info_ent (by rfl) (⟨nm, -1, (q : Int)⟩ : Ent) (by rfl) (by rfl) (by simp) kO (by simpa using kz) (by omega) (by omega) ?_)
            intro v6 w6 hO6 hg6 ho6
            have hN6 := kN.grown hg6 (fun p hp h => by cases hp; exact hcn _ h rfl)
            have hS6 := kS.grown hg6 (fun j hj => by have := (kO.lt j hj).1; omega)
            have hw6 := kw.grownOut hg6 (fun j hj => (kO.lt j hj).1)
            have hcl6 := Nat.lt_of_lt_of_le kc hg6.size
            have hcn6 : ∀ b', v6.ownBlock = some b' → b' ≠ c := fun b' h => by rcases ho6 with h1 | ⟨b'', h1, h2⟩; (exact hcn b' (h1.symm.trans h)); (rw [h1] at h; cases h; exact fun h3 => by subst h3; omega)
            have hD6 := hpush (-1) ((q : Int)) rm hpq (.inl rfl)
            have hlen6 : Hd ((xs ++ [(⟨nm, -1, (q : Int)⟩ : Ent)]).length + k = k0 + 1) := hd (by rw [List.length_append, List.length_singleton]; omega)
            go_wp2
            go_roundg k
            case rel => exact ⟨k, _, rfl, rfl, hlen6, hD6, hO6, hcn6, hN6, hcl6, hS6.up (by omega) (by omega), hw6⟩
            case measure => omega
          · have kS := hS5
            clear hS5 hX5
            have kz := kw.size
            have kl := hlen.out
            go_wp2_with (at_builtin; refine wpList_pushW (base := w.heap.size) (xs := xs) encEnt (by rfl) _ _ 27 (.agg #[.string ⟨#[]⟩, .int .i64 0, .int .i64 0]) 32 (by rfl) Tryd.underlying27 info_ent (by rfl) (⟨nm, -1, -1⟩ : Ent) (by rfl) (by rfl) (by simp) kO (by simpa using kz) (by omega) (by omega) ?_)
            intro v6 w6 hO6 hg6 ho6
            have hN6 := kN.grown hg6 (fun p hp h => by cases hp; exact hcn _ h rfl)
            have hS6 := kS.grown hg6 (fun j hj => by have := (kO.lt j hj).1; omega)
            have hw6 := kw.grownOut hg6 (fun j hj => (kO.lt j hj).1)
            have hcl6 := Nat.lt_of_lt_of_le kc hg6.size
            have hcn6 : ∀ b', v6.ownBlock = some b' → b' ≠ c := fun b' h => by rcases ho6 with h1 | ⟨b'', h1, h2⟩; (exact hcn b' (h1.symm.trans h)); (rw [h1] at h; cases h; exact fun h3 => by subst h3; omega)
            have hD6 := hpush (-1) (-1) rm rm (.inl rfl)
            have hlen6 : Hd ((xs ++ [(⟨nm, -1, -1⟩ : Ent)]).length + k = k0 + 1) := hd (by rw [List.length_append, List.length_singleton]; omega)
            go_wp2
            go_roundg k
            case rel => exact ⟨k, _, rfl, rfl, hlen6, hD6, hO6, hcn6, hN6, hcl6, hS6.up (by omega) (by omega), hw6⟩
            case measure => omega
        · have hs2 : (s == -1) = false := by simpa using hs
          have kO := hO4
          have kN := hN4
          have kw := hw4
          have kc := hc4
          have kS := hS4
          clear hO4 hN4 hw4 hc4 hS4 hX4 hs hpq
          have kz := kw.size
          have kl := hlen.out
          go_wp2_with (at_builtin; refine wpList_pushW (base := w.heap.size) (xs := xs) encEnt (by rfl) _ _ 27 (.agg #[.string ⟨#[]⟩, .int .i64 0, .int .i64 0]) 32 (by rfl) Tryd.underlying27 info_ent (by rfl) (⟨nm, -1, -1⟩ : Ent) (by rfl) (by rfl) (by simp) kO (by simpa using kz) (by omega) (by omega) ?_)
          intro v6 w6 hO6 hg6 ho6
          have hN6 := kN.grown hg6 (fun p hp h => by cases hp; exact hcn _ h rfl)
          have hS6 := kS.grown hg6 (fun j hj => by have := (kO.lt j hj).1; omega)
          have hw6 := kw.grownOut hg6 (fun j hj => (kO.lt j hj).1)
          have hcl6 := Nat.lt_of_lt_of_le kc hg6.size
          have hcn6 : ∀ b', v6.ownBlock = some b' → b' ≠ c := fun b' h => by rcases ho6 with h1 | ⟨b'', h1, h2⟩; (exact hcn b' (h1.symm.trans h)); (rw [h1] at h; cases h; exact fun h3 => by subst h3; omega)
          have hD6 := hpush (-1) (-1) rm rm (.inl rfl)
          have hlen6 : Hd ((xs ++ [(⟨nm, -1, -1⟩ : Ent)]).length + k = k0 + 1) := hd (by rw [List.length_append, List.length_singleton]; omega)
          go_wp2
          go_roundg k
          case rel => exact ⟨k, _, rfl, rfl, hlen6, hD6, hO6, hcn6, hN6, hcl6, hS6.up (by omega) (by omega), hw6⟩
          case measure => omega
theorem spec_A2Catalogue (cs : List UInt8) (A : Option Addr) (cap : Nat) (w : World) (hR : Rd encU8 w A cs) (hn : cs.length ≤ 1099511627776) :
    Calls Tryd.prog 28 #[.slice A cs.length cap] w fun e w' => ∃ xs v, e = .returned v ∧ Ow encEnt 49 w' w.heap.size v xs ∧ DrawnC xs ∧ 1 ≤ xs.length ∧ xs.length ≤ 9 ∧ Ext w w' := by
  have hf := spec_l00From cs A cap w w hR hn (Ext.refl w)
  go_enter Tryd.func28, Tryd.ntmps28
  go_wp2_with fail
  refine Calls.mono hf ?_
  rintro e w1 ⟨b, rfl, hS, hb, hE1⟩
  have hc := spec_l05Drawn _ b 0 w1 hS (by omega)
  clear hf
  go_wp2_with fail
  refine Calls.mono hc ?_
  rintro e w2 ⟨xs, v, rfl, hO, hD, l1, l9, hS2, hW2⟩
  clear hc
  go_wp2
  go_ret
  exact ⟨xs, v, rfl, hO.lower hE1.size, hD, l1, l9, hE1.win hW2 hb⟩
end Go.Proofs.YtmphnocgihegbaaDoor
