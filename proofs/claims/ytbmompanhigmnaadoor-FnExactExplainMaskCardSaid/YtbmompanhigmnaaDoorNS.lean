/-
  Slices of slices of texts: how they lie, and contracts of the laws' functions on them.
-/
import Derived.Test.YtbmompanhigmnaaDoorL8
import Derived.Test.YtbmompanhigmnaaDoorMA
import Derived.Test.YtbmompanhigmnaaDoorF2
set_option linter.unusedVariables false
set_option linter.unusedSimpArgs false
set_option maxRecDepth 100000
namespace Go.Proofs.YtbmompanhigmnaaDoor
open Go.RowKit
/-- A slice as it lies in a cell. -/
structure SV where
  A : Option Addr
  n : Nat
  c : Nat
instance : Inhabited SV := ⟨⟨none, 0, 0⟩⟩
def SV.z : SV := ⟨none, 0, 0⟩
def encSV : Enc SV where
  enc x := [.slice x.A x.n x.c]
  sz := 1
  len _ := rfl
  one m u hu := by
    simp only [List.mem_cons, List.not_mem_nil, or_false] at hu
    subst hu
    rfl
  pos := by decide
theorem Rd.sv {w : World} {b off : Nat} {xs : List SV} (h : Rd encSV w (some ⟨b, off, none⟩) xs) (k : Nat) (hk : k < xs.length) :
    w.cell? ⟨b, off + k, none⟩ = some (.slice xs[k].A xs[k].n xs[k].c) := by
  obtain ⟨b', off', e1, hlt, hc⟩ := h k hk
  simp only [Option.some.injEq, Addr.mk.injEq, and_true] at e1
  obtain ⟨rfl, rfl⟩ := e1
  have := hc 0 _ rfl
  simpa [encSV] using this
/-- A slice of slices of texts, as it is read. -/
def RdL (w : World) (A : Option Addr) (lot : List (List ByteArray)) : Prop :=
  ∃ hs : List SV, hs.length = lot.length ∧ Rd encSV w A hs ∧ ∀ k (h : k < lot.length) (h2 : k < hs.length), hs[k].n = lot[k].length ∧ Rd encStr w hs[k].A lot[k]
theorem RdL.ext {w w' : World} {A : Option Addr} {lot : List (List ByteArray)} (h : RdL w A lot) (hb : Ext w w') : RdL w' A lot := by
  obtain ⟨hs, h1, h2, h3⟩ := h
  exact ⟨hs, h1, h2.ext hb, fun k a b => ⟨(h3 k a b).1, (h3 k a b).2.ext hb⟩⟩
theorem RdL.block {w : World} {A : Option Addr} {lot : List (List ByteArray)} (h : RdL w A lot) (k : Nat) (hk : k < lot.length) : ∃ b off, A = some ⟨b, off, none⟩ ∧ b < w.heap.size := by
  obtain ⟨hs, h1, h2, h3⟩ := h
  obtain ⟨b, off, e, hl, _⟩ := h2 k (by omega)
  exact ⟨b, off, e, hl⟩
theorem RdL.at {w : World} {b off : Nat} {lot : List (List ByteArray)} (h : RdL w (some ⟨b, off, none⟩) lot) (k : Nat) (hk : k < lot.length) :
    ∃ B c, w.cell? ⟨b, off + k, none⟩ = some (.slice B lot[k].length c) ∧ Rd encStr w B lot[k] := by
  obtain ⟨hs, h1, h2, h3⟩ := h
  have hk2 : k < hs.length := by omega
  obtain ⟨e, hr⟩ := h3 k hk hk2
  exact ⟨_, _, by rw [h2.sv k hk2, e], hr⟩
/-- How many texts. -/
def tot (lot : List (List ByteArray)) : Nat := (lot.map List.length).sum
theorem tot_take (lot : List (List ByteArray)) (k : Nat) (h : k < lot.length) : tot (lot.take (k + 1)) = tot (lot.take k) + lot[k].length := by
  unfold tot
  rw [List.take_succ_eq_append_getElem h, List.map_append, List.sum_append]
  simp
/-- Blocks from lo up to hi alone have turned. -/
structure Win (lo hi : Nat) (w w' : World) : Prop where
  os : w'.os = w.os
  tape : w'.tape = w.tape
  output : w'.output = w.output
  size : w.heap.size ≤ w'.heap.size
  block : ∀ b, b < w.heap.size → (b < lo ∨ hi ≤ b) → w'.heap[b]? = w.heap[b]?
theorem Win.refl (lo hi : Nat) (w : World) : Win lo hi w w := ⟨rfl, rfl, rfl, Nat.le_refl _, fun _ _ _ => rfl⟩
theorem Win.ext {lo hi : Nat} {w w' w'' : World} (h : Win lo hi w w') (hb : Ext w' w'') : Win lo hi w w'' :=
  ⟨hb.os.trans h.os, hb.tape.trans h.tape, hb.output.trans h.output, Nat.le_trans h.size hb.size, fun b hb1 hb2 => (hb.block b (Nat.lt_of_lt_of_le hb1 h.size)).trans (h.block b hb1 hb2)⟩
theorem Win.grown {lo hi : Nat} {w w' w'' : World} {row : Option Nat} (h : Win lo hi w w') (hg : w'.grownBy w'' row) (hr : ∀ k, row = some k → lo ≤ k ∧ k < hi) : Win lo hi w w'' :=
  ⟨hg.os.trans h.os, hg.tape.trans h.tape, hg.output.trans h.output, Nat.le_trans h.size hg.size, fun b hb1 hb2 => (hg.block b (Nat.lt_of_lt_of_le hb1 h.size) (fun e => by have := hr b e.symm; omega)).trans (h.block b hb1 hb2)⟩
theorem Ow.win {α : Type} {e : Enc α} {T : TypeId} {w w' : World} {base lo hi : Nat} {v : Value} {xs : List α} (h : Ow e T w base v xs) (hW : Win lo hi w w') (hb : ∀ b, v.ownBlock = some b → b < lo ∨ hi ≤ b) : Ow e T w' base v xs :=
  h.keep fun k hk => hW.block k (h.lt k hk).2 (hb k hk)
theorem Ext.win {w0 w w' : World} {lo hi : Nat} (h : Ext w0 w) (hW : Win lo hi w w') (hb : w0.heap.size ≤ lo) : Ext w0 w' :=
  ⟨hW.os.trans h.os, hW.tape.trans h.tape, hW.output.trans h.output, Nat.le_trans h.size hW.size, fun k hk => (hW.block k (Nat.lt_of_lt_of_le hk h.size) (.inl (by omega))).trans (h.block k hk)⟩
/-- A slice of slices of texts of the call's own, in blocks from lo up to hi. -/
structure OwL (T U : TypeId) (w : World) (lo hi : Nat) (v : Value) (lot : List (List ByteArray)) (hs : List SV) : Prop where
  len : hs.length = lot.length
  out : Ow encSV U w lo v hs
  outHi : ∀ b, v.ownBlock = some b → b < hi
  inn : ∀ k (h : k < lot.length) (h2 : k < hs.length), hs[k].n = lot[k].length ∧ Ow encStr T w lo (.slice hs[k].A hs[k].n hs[k].c) lot[k] ∧ (∀ b, (Value.slice hs[k].A hs[k].n hs[k].c).ownBlock = some b → b < hi) ∧ Apart (.slice hs[k].A hs[k].n hs[k].c) v ∧ Apart v (.slice hs[k].A hs[k].n hs[k].c)
  far : ∀ j k (h : j < hs.length) (h2 : k < hs.length), j ≠ k → Apart (.slice hs[j].A hs[j].n hs[j].c) (.slice hs[k].A hs[k].n hs[k].c)
theorem OwL.ext {T U : TypeId} {w w' : World} {lo hi : Nat} {v : Value} {lot : List (List ByteArray)} {hs : List SV} (h : OwL T U w lo hi v lot hs) (hb : Ext w w') : OwL T U w' lo hi v lot hs :=
  ⟨h.len, h.out.ext hb, h.outHi, fun k a b => ⟨(h.inn k a b).1, (h.inn k a b).2.1.ext hb, (h.inn k a b).2.2⟩, h.far⟩
theorem OwL.slice {T U : TypeId} {w : World} {lo hi : Nat} {v : Value} {lot : List (List ByteArray)} {hs : List SV} (h : OwL T U w lo hi v lot hs) : ∃ A cap, v = .slice A lot.length cap ∧ lot.length ≤ cap ∧ RdL w A lot := by
  obtain ⟨A, cap, h1, h2, h3⟩ := h.out.slice
  rw [h.len] at h1 h2
  exact ⟨A, cap, h1, h2, hs, h.len, h3, fun k a b => ⟨(h.inn k a b).1, (h.inn k a b).2.1.rdA⟩⟩
theorem OwL.rdA {T U : TypeId} {w : World} {lo hi n cap : Nat} {A : Option Addr} {lot : List (List ByteArray)} {hs : List SV} (h : OwL T U w lo hi (.slice A n cap) lot hs) : RdL w A lot := by
  obtain ⟨A', c', h1, _, h3⟩ := h.slice
  simp only [Value.slice.injEq] at h1
  obtain ⟨rfl, _⟩ := h1
  exact h3
theorem info_strS : (Tryd.prog.info? 38).map (fun i => (i.zero, i.size, i.bytes)) = some (some (.slice none 0 0), encSV.sz, 24) := by kernel_rfl
set_option maxHeartbeats 400000 in
theorem laws_szStringS2 (xs : List ByteArray) (A : Option Addr) (n cap : Nat) (hnx : n = xs.length) (left : Int) (h0 : 0 ≤ left) (h1 : left ≤ 1048576) (hn : xs.length ≤ 9223372036854775807) (w : World) (hR : Rd encStr w A xs) (hok : ∀ x ∈ xs, x.size ≤ 9223372036854775807) :
    Calls Tryd.prog 21 #[.slice A n cap, .int .i64 left] w fun e w' => ∃ r : Int, e = .returned (.int .i64 r) ∧ (r < 0 ∨ (0 ≤ r ∧ r + xs.length ≤ left)) ∧ Ext w w' := by
  subst hnx
  by_cases hl : (xs.length : Int) ≤ left
  · go_enter Tryd.func21, Tryd.ntmps21
    go_wp2
    go_loopg [5, 1] xs.length (fun g i l wr => ∃ k : Nat, ∃ c : Int, g = xs.length - k ∧ k ≤ xs.length ∧ i = .int .i64 k ∧ l = .int .i64 c ∧ 0 ≤ c ∧ c + xs.length ≤ left ∧ Ext w wr)
    case atStart => exact ⟨0, left - xs.length, by omega, by omega, rfl, rfl, by omega, by omega, Ext.refl _⟩
    case round =>
      obtain ⟨k, c, hg, hk, rfl, rfl, hc0, hc1, hw⟩ := hrel
      by_cases hkl : k < xs.length
      · obtain ⟨b, off, hA, hlt, _⟩ := hR k hkl
        subst hA
        have m0 := (hR.ext hw).str k hkl
        have hok1 := hok xs[k] (List.getElem_mem hkl)
        by_cases hr : c - xs[k].size < 0
        · go_wp2
          go_ret
          exact ⟨_, rfl, .inl (by omega), by ((repeat (first | with_reducible exact Ext.refl _ | with_reducible exact hw | with_reducible exact hb9 | with_reducible exact hb8 | with_reducible exact hb7 | with_reducible exact hb6 | with_reducible exact hb5 | with_reducible exact hb4 | with_reducible exact hb3 | with_reducible exact hb2 | with_reducible exact hb1 | with_reducible refine Ext.alloc ?_ _ | with_reducible refine Ext.drew ?_ | ((with_reducible refine Ext.set ?_ ?_ _); focus (dsimp only; omega)) | with_reducible refine Ext.trans ?_ hb9 | with_reducible refine Ext.trans ?_ hb8 | with_reducible refine Ext.trans ?_ hb7 | with_reducible refine Ext.trans ?_ hb6 | with_reducible refine Ext.trans ?_ hb5 | with_reducible refine Ext.trans ?_ hb4 | with_reducible refine Ext.trans ?_ hb3 | with_reducible refine Ext.trans ?_ hb2 | with_reducible refine Ext.trans ?_ hb1 | with_reducible refine Ext.trans ?_ hw)))⟩
        · go_wp2
          go_roundg (xs.length - (k + 1))
          case rel => exact ⟨k + 1, c - xs[k].size, rfl, hkl, rfl, rfl, by omega, by omega, by ((repeat (first | with_reducible exact Ext.refl _ | with_reducible exact hw | with_reducible exact hb9 | with_reducible exact hb8 | with_reducible exact hb7 | with_reducible exact hb6 | with_reducible exact hb5 | with_reducible exact hb4 | with_reducible exact hb3 | with_reducible exact hb2 | with_reducible exact hb1 | with_reducible refine Ext.alloc ?_ _ | with_reducible refine Ext.drew ?_ | ((with_reducible refine Ext.set ?_ ?_ _); focus (dsimp only; omega)) | with_reducible refine Ext.trans ?_ hb9 | with_reducible refine Ext.trans ?_ hb8 | with_reducible refine Ext.trans ?_ hb7 | with_reducible refine Ext.trans ?_ hb6 | with_reducible refine Ext.trans ?_ hb5 | with_reducible refine Ext.trans ?_ hb4 | with_reducible refine Ext.trans ?_ hb3 | with_reducible refine Ext.trans ?_ hb2 | with_reducible refine Ext.trans ?_ hb1 | with_reducible refine Ext.trans ?_ hw)))⟩
          case measure => omega
      · go_wp2
        go_ret
        exact ⟨c, rfl, .inr ⟨hc0, hc1⟩, hw⟩
  · go_enter Tryd.func21, Tryd.ntmps21
    go_wp2
    go_ret
    exact ⟨-1, rfl, .inl (by omega), Ext.refl _⟩
set_option maxHeartbeats 400000 in
theorem laws_szStringSS (lot : List (List ByteArray)) (A : Option Addr) (cap : Nat) (left : Int) (h0 : 0 ≤ left) (h1 : left ≤ 1048576) (hn : lot.length ≤ 9223372036854775807) (w : World) (hR : RdL w A lot) (hok : ∀ l ∈ lot, l.length ≤ 9223372036854775807 ∧ ∀ x ∈ l, x.size ≤ 9223372036854775807) :
    Calls Tryd.prog 10 #[.slice A lot.length cap, .int .i64 left] w fun e w' => ∃ r : Int, e = .returned (.int .i64 r) ∧ (r < 0 ∨ (0 ≤ r ∧ r ≤ left ∧ (lot.length : Int) ≤ left ∧ (tot lot : Int) ≤ left)) ∧ Ext w w' := by
  have hall : tot (lot.take lot.length) = tot lot := by rw [List.take_length]
  have htk := fun k (h : k < lot.length) => tot_take lot k h
  have hz : tot (lot.take 0) = 0 := by rw [List.take_zero]; rfl
  by_cases hl : (lot.length : Int) ≤ left
  · go_enter Tryd.func10, Tryd.ntmps10
    go_wp2
    go_loopg [5, 1] lot.length (fun g i l wr => ∃ k : Nat, ∃ c : Int, g = lot.length - k ∧ k ≤ lot.length ∧ i = .int .i64 k ∧ l = .int .i64 c ∧ 0 ≤ c ∧ c + tot (lot.take k) ≤ left ∧ Ext w wr)
    case atStart => exact ⟨0, left - lot.length, by omega, by omega, rfl, rfl, by omega, by rw [hz]; omega, Ext.refl _⟩
    case round =>
      obtain ⟨k, c, hg, hk, rfl, rfl, hc0, hc1, hw⟩ := hrel
      by_cases hkl : k < lot.length
      · obtain ⟨b, off, rfl, hlt⟩ := hR.block k hkl
        obtain ⟨B, cB, m0, hB⟩ := (hR.ext hw).at k hkl
        have hlt2 := World.block_lt_of_cell? _ _ m0
        dsimp only at hlt2
        have hok1 := hok lot[k] (List.getElem_mem hkl)
        have ht := htk k hkl
        go_wp2_with fail
        refine Calls.mono (laws_szStringS2 lot[k] B _ cB rfl c hc0 (by omega) hok1.1 _ hB hok1.2) ?_
        rintro e w1 ⟨r, rfl, hr, hb1⟩
        by_cases hr0 : r < 0
        · go_wp2
          go_ret
          exact ⟨_, rfl, .inl (by omega), by ((repeat (first | with_reducible exact Ext.refl _ | with_reducible exact hw | with_reducible exact hb9 | with_reducible exact hb8 | with_reducible exact hb7 | with_reducible exact hb6 | with_reducible exact hb5 | with_reducible exact hb4 | with_reducible exact hb3 | with_reducible exact hb2 | with_reducible exact hb1 | with_reducible refine Ext.alloc ?_ _ | with_reducible refine Ext.drew ?_ | ((with_reducible refine Ext.set ?_ ?_ _); focus (dsimp only; omega)) | with_reducible refine Ext.trans ?_ hb9 | with_reducible refine Ext.trans ?_ hb8 | with_reducible refine Ext.trans ?_ hb7 | with_reducible refine Ext.trans ?_ hb6 | with_reducible refine Ext.trans ?_ hb5 | with_reducible refine Ext.trans ?_ hb4 | with_reducible refine Ext.trans ?_ hb3 | with_reducible refine Ext.trans ?_ hb2 | with_reducible refine Ext.trans ?_ hb1 | with_reducible refine Ext.trans ?_ hw)))⟩
        · obtain ⟨r1, r2⟩ := hr.resolve_left hr0
          go_wp2
          go_roundg (lot.length - (k + 1))
          case rel => exact ⟨k + 1, r, rfl, hkl, rfl, rfl, r1, by omega, by ((repeat (first | with_reducible exact Ext.refl _ | with_reducible exact hw | with_reducible exact hb9 | with_reducible exact hb8 | with_reducible exact hb7 | with_reducible exact hb6 | with_reducible exact hb5 | with_reducible exact hb4 | with_reducible exact hb3 | with_reducible exact hb2 | with_reducible exact hb1 | with_reducible refine Ext.alloc ?_ _ | with_reducible refine Ext.drew ?_ | ((with_reducible refine Ext.set ?_ ?_ _); focus (dsimp only; omega)) | with_reducible refine Ext.trans ?_ hb9 | with_reducible refine Ext.trans ?_ hb8 | with_reducible refine Ext.trans ?_ hb7 | with_reducible refine Ext.trans ?_ hb6 | with_reducible refine Ext.trans ?_ hb5 | with_reducible refine Ext.trans ?_ hb4 | with_reducible refine Ext.trans ?_ hb3 | with_reducible refine Ext.trans ?_ hb2 | with_reducible refine Ext.trans ?_ hb1 | with_reducible refine Ext.trans ?_ hw)))⟩
          case measure => omega
      · obtain rfl : k = lot.length := by omega
        rw [hall] at hc1
        go_wp2
        go_ret
        exact ⟨c, rfl, .inr ⟨hc0, by omega, hl, by omega⟩, hw⟩
  · go_enter Tryd.func10, Tryd.ntmps10
    go_wp2
    go_ret
    exact ⟨-1, rfl, .inl (by omega), Ext.refl _⟩
set_option maxHeartbeats 1000000 in
theorem laws_eqStringSS (lot : List (List ByteArray)) (A B : Option Addr) (cap cap' : Nat) (w : World) (hR : RdL w A lot) (hS : RdL w B lot) (hn : lot.length ≤ 1048576) (hlen : ∀ l ∈ lot, l.length ≤ 1048576) :
    Calls Tryd.prog 16 #[.slice A lot.length cap, .slice B lot.length cap'] w fun e w' => e = .returned (.bool true) ∧ Ext w w' := by
  have rr := fun l : List ByteArray => eqL_refl strB strB_refl l
  have hx := @ExtOf.cell
  go_enter Tryd.func16, Tryd.ntmps16
  go_wp2
  go_loopg [5] lot.length (fun g i wr => ∃ k : Nat, g = lot.length - k ∧ k ≤ lot.length ∧ i = .int .i64 k ∧ Ext w wr)
  case atStart => exact ⟨0, by omega, by omega, rfl, Ext.refl _⟩
  case round =>
    obtain ⟨k, hg, hk, rfl, hw⟩ := hrel
    by_cases hkl : k < lot.length
    · obtain ⟨b, off, rfl, hlt⟩ := hR.block k hkl
      obtain ⟨b', off', rfl, hlt'⟩ := hS.block k hkl
      obtain ⟨B1, c1, m0, hB1⟩ := (hR.ext hw).at k hkl
      obtain ⟨B2, c2, n0, hB2⟩ := (hS.ext hw).at k hkl
      have l1 := World.block_lt_of_cell? _ _ m0
      have l2 := World.block_lt_of_cell? _ _ n0
      dsimp only at l1 l2
      have hll := hlen _ (List.getElem_mem hkl)
      have hcall := fun (W : World) (hE : Ext wr W) => laws_eqStringS lot[k] lot[k] B1 B2 c1 c2 W (hB1.ext hE) (hB2.ext hE) hll hll
      rw [rr] at hcall
      go_wp2
      refine wp_region_ext (by kernel_rfl) (by kernel_rfl) ?_
      repeat (first | go_big_quiet_step (((go_at_call 27; with_reducible exact Calls.ext_all (fun W hE => hcall W hE)))) | quiet_step (((go_at_call 27; with_reducible exact Calls.ext_all (fun W hE => hcall W hE)))))
      refine wpQuiet_nil ?_
      intro w1 hq1
      have hb1 := ext_of_class hq1
      clear hq1
      obtain ⟨hc1, hf1, hz1⟩ := bcell3 hb1
      try simp at hz1
      go_wp2
      go_roundg (lot.length - (k + 1))
      case rel => exact ⟨k + 1, rfl, hkl, by simp, hw.trans hb1⟩
      case measure => omega
    · obtain rfl : k = lot.length := by omega
      go_wp2
      go_ret
      exact ⟨rfl, hw⟩
set_option maxHeartbeats 1000000 in
theorem laws_toStringSS (lot : List (List ByteArray)) (A : Option Addr) (cap : Nat) (w : World) (hR : RdL w A lot) (hn : lot.length ≤ 1048576) (hlen : ∀ l ∈ lot, l.length ≤ 1048576) :
    Calls Tryd.prog 13 #[.slice A lot.length cap] w fun e w' => ∃ v hs, e = .returned v ∧ OwL 9 38 w' w.heap.size w'.heap.size v lot hs ∧ Ext w w' := by
  go_enter Tryd.func13, Tryd.ntmps13
  go_wp2_with (at_make; refine wpList_made encSV (by rfl) _ _ 25 (by rfl) SV.z (.slice none 0 0) 24 Tryd.underlying25 info_strS (by rfl) .i64 .i64 lot.length (by rfl) (by rfl) (by omega) (by omega) (Nat.le_refl _) (Nat.le_refl _) (Ext.refl w) ?_)
  intro w1 hO hb1 hg1
  have hsz1 : w.heap.size < w1.heap.size := (hO.lt w.heap.size rfl).2
  go_wp2
  go_loopg [4] lot.length (fun g i wr => ∃ k : Nat, ∃ hs : List SV, g = lot.length - k ∧ k ≤ lot.length ∧ i = .int .i64 k ∧ Ext w wr ∧ w.heap.size < wr.heap.size ∧ hs.length = lot.length ∧ Ow encSV 38 wr w.heap.size (.slice (some ⟨w.heap.size, 0, none⟩) lot.length lot.length) hs ∧
    (∀ j (h : j < lot.length) (h2 : j < hs.length), j < k → hs[j].n = lot[j].length ∧ Ow encStr 9 wr (w.heap.size + 1) (.slice hs[j].A hs[j].n hs[j].c) lot[j]) ∧ (∀ i j (h : i < hs.length) (h2 : j < hs.length), i < k → j < k → i ≠ j → Apart (.slice hs[i].A hs[i].n hs[i].c) (.slice hs[j].A hs[j].n hs[j].c)))
  case atStart => exact ⟨0, List.replicate lot.length SV.z, by omega, by omega, rfl, hb1, hsz1, by simp, hO, fun j _ _ h => absurd h (by omega), fun i j _ _ h => absurd h (by omega)⟩
  case round =>
    obtain ⟨k, hs, hg, hk, rfl, hw, hsz, hhl, hO, hI, hF⟩ := hrel
    by_cases hkl : k < lot.length
    · obtain ⟨b, off, rfl, hlt⟩ := hR.block k hkl
      obtain ⟨B, c, m0, hB⟩ := (hR.ext hw).at k hkl
      have l1 := World.block_lt_of_cell? _ _ m0
      dsimp only at l1
      have hll := hlen _ (List.getElem_mem hkl)
      go_wp2_with fail
      refine Calls.mono (laws_toStringS lot[k] B c _ hB hll) ?_
      rintro e w2 ⟨v2, rfl, hO2, hb2⟩
      obtain ⟨A2, c2, rfl, hle2, _⟩ := hO2.slice
      have hO3 := hO.ext hb2
      have hkh : k < hs.length := by omega
      have c0 := hO3.rd.sv k hkh
      rw [Nat.zero_add] at c0
      have f0 := hO3.frozen k
      have hbl := World.block_lt_of_cell? _ _ c0
      dsimp only at hbl
      have hw2 := hw.trans hb2
      have hs2 := hb2.size
      have z0 := hO3.set1 k 0 (.slice A2 lot[k].length c2) ⟨A2, lot[k].length, c2⟩ hkh (by decide) rfl
      rw [show k * encSV.sz + 0 = k from Nat.mul_one k] at z0
      have hI2 : ∀ j (h : j < lot.length) (h2 : j < (hs.set k ⟨A2, lot[k].length, c2⟩).length), j < k + 1 → (hs.set k ⟨A2, lot[k].length, c2⟩)[j].n = lot[j].length ∧ Ow encStr 9 (w2.setCell ⟨w.heap.size, k, none⟩ (.slice A2 lot[k].length c2)) (w.heap.size + 1) (.slice (hs.set k ⟨A2, lot[k].length, c2⟩)[j].A (hs.set k ⟨A2, lot[k].length, c2⟩)[j].n (hs.set k ⟨A2, lot[k].length, c2⟩)[j].c) lot[j] := by
        intro j h h2 hj
        by_cases hjk : j = k
        · subst hjk
          simp only [List.getElem_set_self]
          exact ⟨by simp, (hO2.lower (by omega)).far (fun e => by have := (hO2.lt _ e).1; dsimp only at this; omega) _⟩
        · simp only [List.getElem_set_ne (fun e => hjk e.symm)]
          obtain ⟨a1, a2⟩ := hI j h (by omega) (by omega)
          exact ⟨a1, (a2.ext hb2).far (fun e => by have := (a2.lt _ e).1; dsimp only at this; omega) _⟩
      have hF2 : ∀ i j (h : i < (hs.set k ⟨A2, lot[k].length, c2⟩).length) (h2 : j < (hs.set k ⟨A2, lot[k].length, c2⟩).length), i < k + 1 → j < k + 1 → i ≠ j → Apart (.slice (hs.set k ⟨A2, lot[k].length, c2⟩)[i].A (hs.set k ⟨A2, lot[k].length, c2⟩)[i].n (hs.set k ⟨A2, lot[k].length, c2⟩)[i].c) (.slice (hs.set k ⟨A2, lot[k].length, c2⟩)[j].A (hs.set k ⟨A2, lot[k].length, c2⟩)[j].n (hs.set k ⟨A2, lot[k].length, c2⟩)[j].c) := by
        intro i j h h2 hi hj hij
        have h' : i < hs.length := by simpa using h
        have h2' : j < hs.length := by simpa using h2
        by_cases hik : i = k
        · subst hik
          simp only [List.getElem_set_self, List.getElem_set_ne (fun e => hij e)]
          exact Apart.of' (hI j (by omega) h2' (by omega)).2 hO2 (Nat.le_refl _)
        · by_cases hjk : j = k
          · subst hjk
            simp only [List.getElem_set_self, List.getElem_set_ne (fun e => hik e.symm)]
            exact Apart.of (hI i (by omega) h' (by omega)).2 hO2 (Nat.le_refl _)
          · simp only [List.getElem_set_ne (fun e => hik e.symm), List.getElem_set_ne (fun e => hjk e.symm)]
            exact hF i j h' h2' (by omega) (by omega) hij
      clear hO hO3 hO2 hI hF
      go_wp2
      go_roundg (lot.length - (k + 1))
      case rel => exact ⟨k + 1, hs.set k ⟨A2, lot[k].length, c2⟩, rfl, hkl, by simp, Ext.set (Nat.le_refl _) hw2 _, by simp; omega, by rw [List.length_set]; exact hhl, z0, hI2, hF2⟩
      case measure => omega
    · obtain rfl : k = lot.length := by omega
      go_wp2
      go_ret
      refine ⟨_, hs, rfl, ⟨hhl, hO, fun b hb => (hO.lt b hb).2, fun j h h2 => ?_, fun i j h h2 hij => hF i j h h2 (by omega) (by omega) hij⟩, hw⟩
      obtain ⟨a1, a2⟩ := hI j h h2 h
      refine ⟨a1, a2.lower (by omega), fun b hb => (a2.lt b hb).2, ?_, ?_⟩
      · cases hv : (Value.slice hs[j].A hs[j].n hs[j].c).ownBlock with
        | none => exact .inl hv
        | some b =>
          refine .inr ?_
          rw [hv]
          intro e
          have h3 := (a2.lt b hv).1
          have h4 : w.heap.size = b := by simpa [Value.ownBlock] using e.symm
          omega
      · refine .inr ?_
        intro e
        have h3 := (a2.lt w.heap.size e.symm).1
        omega
set_option maxHeartbeats 1000000 in
theorem laws_markStringSS (lot : List (List ByteArray)) (v : Value) (hs : List SV) (k lo hi : Nat) (w : World) (hO : OwL 9 38 w lo hi v lot hs) (hn : lot.length ≤ 1048576) (hlen : ∀ l ∈ lot, l.length ≤ 1048576) (hk : k + tot lot ≤ 100000000) :
    Calls Tryd.prog 17 #[v, .int .i64 k] w fun e w' => e = .returned (.int .i64 ((k : Int) + tot lot)) ∧ Win lo hi w w' := by
  obtain ⟨A, cap, rfl, hle, _⟩ := hO.slice
  have hall : tot (lot.take lot.length) = tot lot := by rw [List.take_length]
  have htk := fun k (h : k < lot.length) => tot_take lot k h
  have hz : tot (lot.take 0) = 0 := by rw [List.take_zero]; rfl
  have hmono : ∀ j, j ≤ lot.length → tot (lot.take j) ≤ tot lot := by
    intro j hj
    have h1 : tot lot = tot (lot.take j) + tot (lot.drop j) := by
      unfold tot
      rw [← List.sum_append, ← List.map_append, List.take_append_drop]
    omega
  go_enter Tryd.func17, Tryd.ntmps17
  go_wp2
  go_loopg [5, 1] lot.length (fun g i m wr => ∃ j q : Nat, g = lot.length - j ∧ j ≤ lot.length ∧ i = .int .i64 j ∧ m = .int .i64 q ∧ q = k + tot (lot.take j) ∧ Ow encSV 38 wr lo (.slice A lot.length cap) hs ∧ (∀ i (h : i < lot.length) (h2 : i < hs.length), j ≤ i → Ow encStr 9 wr lo (.slice hs[i].A hs[i].n hs[i].c) lot[i]) ∧ Win lo hi w wr)
  case atStart => exact ⟨0, k, by omega, by omega, rfl, rfl, by rw [hz]; omega, hO.out, fun i h h2 _ => (hO.inn i h h2).2.1, Win.refl _ _ _⟩
  case round =>
    obtain ⟨j, q, hg, hj, rfl, rfl, hq, hU, hI, hW⟩ := hrel
    have hq2 := hd hq
    have hmj := hmono j hj
    have hqb : q ≤ 100000000 := by omega
    clear hq
    by_cases hjl : j < lot.length
    · have hjh : j < hs.length := by have := hO.len; omega
      obtain ⟨e1, _, hhi, hap1, hap2⟩ := hO.inn j hjl hjh
      obtain ⟨b, off, hA, hlt, _⟩ := hU.rdA j hjh
      subst hA
      have c0 := hU.rdA.sv j hjh
      have hIj := hI j hjl hjh (Nat.le_refl _)
      rw [e1] at c0 hIj
      have hll := hlen _ (List.getElem_mem hjl)
      have ht := htk j hjl
      go_wp2_with fail
      refine Calls.mono (laws_markStringS lot[j] _ q lo _ hIj hll hqb) ?_
      rintro e w2 ⟨rfl, hg2⟩
      have hU2 := hU.apart hg2 (by rw [e1] at hap2; exact hap2)
      have hI2 : ∀ i (h : i < lot.length) (h2 : i < hs.length), j + 1 ≤ i → Ow encStr 9 w2 lo (.slice hs[i].A hs[i].n hs[i].c) lot[i] := fun i h h2 hi => (hI i h h2 (by omega)).apart hg2 (by have := hO.far i j h2 hjh (by omega); rw [e1] at this; exact this)
      have hW2 := hW.grown hg2 (fun b hb => ⟨(hIj.lt b hb).1, hhi b (by rw [e1]; exact hb)⟩)
      clear hU hI hIj hW hg2
      go_wp2
      go_roundg (lot.length - (j + 1))
      case rel => exact ⟨j + 1, q + lot[j].length, rfl, hjl, by simp, by simp, by rw [ht, hq2.out]; omega, hU2, hI2, hW2⟩
      case measure => omega
    · obtain rfl : j = lot.length := by omega
      have hq3 := hq2.out
      rw [hall] at hq3
      subst hq3
      go_wp2
      go_ret
      exact ⟨by simp, hW⟩
end Go.Proofs.YtbmompanhigmnaaDoor
