/-
  PK8: the texts C8 J0 J1 L5 J2 J3 J4 in one (written by pack.py).
-/
import Derived.Test.YtdiblmlcapommaaGreatDoorPK7
import Derived.Test.YtdiblmlcapommaaGreatDoorPK4
import Derived.Test.YtdiblmlcapommaaGreatDoorPK6
import Derived.Laws.BytesArg
import Derived.Lib.ItoaNum
import Derived.Lib.Join
import Derived.RegionTactic
import Derived.Deep.RegionWith
import Derived.Test.YtdiblmlcapommaaGreatDoorPK3
import Derived.Test.YtdiblmlcapommaaGreatDoorPK2
import Derived.Test.YtdiblmlcapommaaGreatDoorPK5
import Derived.Lib.ParseIntBCases
import Derived.Lib.ParseIntBTie
import Derived.Lib.SmallJoins
set_option linter.unusedVariables false
set_option linter.unusedSimpArgs false
namespace Go.Proofs.YtdiblmlcapommaaGreatDoor
open Go.RowKit
def holesTo (m : Mask) : Nat → List Int
  | 0 => []
  | k + 1 => if mhas m k = true then holesTo m k ++ [(k : Int)] else holesTo m k
theorem holesTo_hit (m : Mask) (k : Nat) (h : mhas m k = true) : holesTo m (k + 1) = holesTo m k ++ [(k : Int)] := by rw [holesTo, if_pos h]
theorem holesTo_miss (m : Mask) (k : Nat) (h : mhas m k = false) : holesTo m (k + 1) = holesTo m k := by rw [holesTo, if_neg (by simp [h])]
theorem holesTo_len (m : Mask) : ∀ k, (holesTo m k).length ≤ k
  | 0 => Nat.le_refl _
  | k + 1 => by
    rw [holesTo]
    have := holesTo_len m k
    split
    · rw [List.length_append, List.length_singleton]; omega
    · omega
attribute [irreducible] holesTo
theorem info_i64C8 : (Tryz.prog.info? 2).map (fun i => (i.zero, i.size, i.bytes)) = some (some (.int .i64 0), encI64.sz, 8) := by kernel_rfl
end Go.Proofs.YtdiblmlcapommaaGreatDoor
set_option linter.unusedVariables false
set_option linter.unusedSimpArgs false
set_option maxRecDepth 100000
namespace Go.Proofs.YtdiblmlcapommaaGreatDoor
open Go.RowKit
/-- The decimal numeral of a number. -/
def decT (n : Nat) : ByteArray := ⟨(Lib.decDigits n).toArray⟩
theorem mk_app (a b : List UInt8) : (⟨(a ++ b).toArray⟩ : ByteArray) = ⟨a.toArray⟩ ++ ⟨b.toArray⟩ := by
  apply ByteArray.ext
  simp [ByteArray.data_append]
theorem decT_small {n : Nat} (h : n < 10) : decT n = strOfNums [48 + (n : Int)] := by
  unfold decT strOfNums
  rw [Lib.decDigits, dif_pos h, List.map_singleton, show ((48 + (n : Int)).toNat) = 48 + n by omega]
theorem decT_big {n : Nat} (h : ¬ n < 10) : decT n = decT (n / 10) ++ strOfNums [48 + (n : Int) % 10] := by
  unfold decT strOfNums
  rw [Lib.decDigits, dif_neg h, mk_app, List.map_singleton, show ((48 + (n : Int) % 10).toNat) = 48 + n % 10 by omega]
/-- Words with a space between them. -/
def joinB (ws : List ByteArray) : ByteArray := ⟨(Lib.join (ws.map (·.data.toList)) [32]).toArray⟩
theorem joinB_nil : joinB [] = ⟨#[]⟩ := rfl
theorem joinB_one (x : ByteArray) : joinB [x] = x := by unfold joinB; rw [List.map_singleton, Lib.join_one]
theorem joinTail_snoc (sep : List UInt8) (r : List (List UInt8)) (y : List UInt8) : Lib.joinTail sep (r ++ [y]) = Lib.joinTail sep r ++ (sep ++ y) := by
  unfold Lib.joinTail
  rw [List.map_append, List.flatten_append]
  simp
theorem joinB_snoc {ws : List ByteArray} (h : ws ≠ []) (x : ByteArray) : joinB (ws ++ [x]) = joinB ws ++ (⟨#[32]⟩ ++ x) := by
  cases ws with
  | nil => exact absurd rfl h
  | cons y r =>
    unfold joinB
    rw [List.map_append, List.map_singleton, List.map_cons, List.cons_append, Lib.join_cons, Lib.join_cons, joinTail_snoc, ← List.append_assoc, mk_app, mk_app [32]]
/-- The word of a hole. -/
def wordW (f : Mask) (h : Int) : ByteArray := (if mhas f h = true then ⟨#[45]⟩ else ⟨#[43]⟩) ++ decT h.toNat
def wordsW (t f : Mask) (k : Nat) : List ByteArray := (holesTo (mjoin t f) k).map (wordW f)
def wearT (t f : Mask) : ByteArray := joinB (wordsW t f 96)
theorem words_zero (t f : Mask) : wordsW t f 0 = [] := by unfold wordsW holesTo; rfl
theorem mhas_jn (a b : Mask) (i : Nat) : mhas (mjoin a b) i = (mhas a i || mhas b i) := by simp [mhas, mjoin]
theorem words_none {t f : Mask} {k : Nat} (h1 : mhas t k = false) (h2 : mhas f k = false) : wordsW t f (k + 1) = wordsW t f k := by
  unfold wordsW
  rw [holesTo_miss _ _ (by rw [mhas_jn, h1, h2]; rfl)]
theorem words_minus {t f : Mask} {k : Nat} (h2 : mhas f k = true) : wordsW t f (k + 1) = wordsW t f k ++ [⟨#[45]⟩ ++ decT k] := by
  unfold wordsW
  rw [holesTo_hit _ _ (by rw [mhas_jn, h2, Bool.or_true]), List.map_append, List.map_singleton]
  unfold wordW
  rw [if_pos h2]; rfl
theorem words_plus {t f : Mask} {k : Nat} (h1 : mhas t k = true) (h2 : mhas f k = false) : wordsW t f (k + 1) = wordsW t f k ++ [⟨#[43]⟩ ++ decT k] := by
  unfold wordsW
  rw [holesTo_hit _ _ (by rw [mhas_jn, h1, h2]; rfl), List.map_append, List.map_singleton]
  unfold wordW
  rw [if_neg (by rw [h2]; decide)]; rfl
/-- A text so far, with a further word behind it. -/
def addW (out x : ByteArray) : ByteArray := if out.size = 0 then x else out ++ (⟨#[32]⟩ ++ x)
theorem app_size (a b : ByteArray) : (a ++ b).size = a.size + b.size := ByteArray.size_append
theorem joinB_size {ws : List ByteArray} (h : ws ≠ []) (hw : ∀ x ∈ ws, x.size ≠ 0) : (joinB ws).size ≠ 0 := by
  cases ws with
  | nil => exact absurd rfl h
  | cons y r =>
    have hy := hw y (List.mem_cons_self ..)
    unfold joinB
    rw [List.map_cons, Lib.join_cons, mk_app, app_size]
    have : (⟨y.data.toList.toArray⟩ : ByteArray).size = y.size := by rw [Array.toArray_toList]
    omega
theorem joinB_add {ws : List ByteArray} (hw : ∀ x ∈ ws, x.size ≠ 0) (x : ByteArray) : joinB (ws ++ [x]) = addW (joinB ws) x := by
  unfold addW
  by_cases h : ws = []
  · subst h
    rw [if_pos (by rfl), List.nil_append, joinB_one]
  · rw [if_neg (joinB_size h hw), joinB_snoc h]
theorem words_pos (t f : Mask) (k : Nat) : ∀ x ∈ wordsW t f k, x.size ≠ 0 := fun x hx => by
  unfold wordsW at hx
  obtain ⟨h, _, rfl⟩ := List.mem_map.1 hx
  unfold wordW
  rw [app_size]
  have : (if mhas f h = true then (⟨#[45]⟩ : ByteArray) else ⟨#[43]⟩).size = 1 := by split <;> rfl
  omega
theorem text_none {t f : Mask} {k : Nat} (h1 : mhas t k = false) (h2 : mhas f k = false) : joinB (wordsW t f (k + 1)) = joinB (wordsW t f k) := by rw [words_none h1 h2]
theorem text_minus {t f : Mask} {k : Nat} (h2 : mhas f k = true) : joinB (wordsW t f (k + 1)) = addW (joinB (wordsW t f k)) (⟨#[45]⟩ ++ decT k) := by rw [words_minus h2, joinB_add (words_pos t f k)]
theorem text_plus {t f : Mask} {k : Nat} (h1 : mhas t k = true) (h2 : mhas f k = false) : joinB (wordsW t f (k + 1)) = addW (joinB (wordsW t f k)) (⟨#[43]⟩ ++ decT k) := by rw [words_plus h1 h2, joinB_add (words_pos t f k)]
theorem add_first {out : ByteArray} (h : out.size = 0) (x : ByteArray) : addW out x = x := if_pos h
theorem add_next {out : ByteArray} (h : ¬ out.size = 0) (x : ByteArray) : addW out x = out ++ (⟨#[32]⟩ ++ x) := if_neg h
theorem size_zero {s : ByteArray} (h : s.size = 0) : s = ⟨#[]⟩ := ByteArray.ext (Array.eq_empty_of_size_eq_zero h)
theorem app_assoc3 (a b c : ByteArray) : a ++ b ++ c = a ++ (b ++ c) := ByteArray.append_assoc
theorem decT_le (n : Nat) : (decT n).size ≤ n + 1 := by
  unfold decT
  show (Lib.decDigits n).length ≤ n + 1
  induction n using Nat.strongRecOn with
  | _ n ih =>
    by_cases h : n < 10
    · rw [Lib.decDigits, dif_pos h]; simp
    · rw [Lib.decDigits, dif_neg h, List.length_append, List.length_singleton]
      have := ih (n / 10) (by omega)
      omega
theorem one_size (n : Int) : (strOfNums [n]).size = 1 := rfl
theorem jempty_app (x : ByteArray) : (⟨#[]⟩ : ByteArray) ++ x = x := ByteArray.ext (by simp [ByteArray.data_append])
attribute [irreducible] decT joinB
theorem conv_at (W : World) (b : Nat) (n : Int) (h : W.cell? ⟨b, 0, none⟩ = some (.int .u8 n)) : (convert 65 9 (.slice (some ⟨b, 0, none⟩) 1 1)).run Tryz.prog W = .ok (.string (strOfNums [n])) W :=
  run_convert_bytes_arg _ 65 5 Tryz.underlying65 Tryz.underlying5 b 0 1 1 [n] rfl (fun i hi => by
    obtain rfl : i = 0 := by omega
    exact h) 9 Tryz.underlying9
end Go.Proofs.YtdiblmlcapommaaGreatDoor
set_option linter.unusedVariables false
set_option linter.unusedSimpArgs false
set_option maxRecDepth 100000
namespace Go.Proofs.YtdiblmlcapommaaGreatDoor
open Go.RowKit
theorem digits_len {n : Nat} (h : n < 100) : (Lib.decDigits n).length ≤ 2 := by
  by_cases h1 : n < 10
  · rw [Lib.decDigits, dif_pos h1]; simp
  · rw [Lib.decDigits, dif_neg h1, Lib.decDigits, dif_pos (by omega)]; simp
theorem decT_len {n : Nat} (h : n < 100) : (decT n).size ≤ 2 := by unfold decT; exact digits_len h
theorem holes_in (m : Mask) : ∀ (k : Nat), ∀ x ∈ holesTo m k, 0 ≤ x ∧ x < k
  | 0, x, hx => by unfold holesTo at hx; cases hx
  | k + 1, x, hx => by
    cases h : mhas m k with
    | true =>
      rw [holesTo_hit m k h, List.mem_append, List.mem_singleton] at hx
      rcases hx with hx | rfl
      · have := holes_in m k x hx; omega
      · omega
    | false =>
      rw [holesTo_miss m k h] at hx
      have := holes_in m k x hx; omega
theorem word_len (f : Mask) {h : Int} (h1 : h < 100) : (wordW f h).size ≤ 4 := by
  unfold wordW
  rw [app_size]
  have h2 : (if mhas f h = true then (⟨#[45]⟩ : ByteArray) else ⟨#[43]⟩).size = 1 := by split <;> rfl
  have := decT_len (n := h.toNat) (by omega)
  omega
theorem joinTail_len (sep : List UInt8) : ∀ (r : List (List UInt8)) (b : Nat), (∀ x ∈ r, x.length ≤ b) → (Lib.joinTail sep r).length ≤ r.length * (sep.length + b)
  | [], b, _ => by simp [Lib.joinTail]
  | x :: r, b, h => by
    have h1 := joinTail_len sep r b (fun y hy => h y (List.mem_cons_of_mem _ hy))
    have h2 := h x (List.mem_cons_self ..)
    unfold Lib.joinTail at *
    rw [List.map_cons, List.flatten_cons, List.length_append, List.length_append, List.length_cons, Nat.add_mul]
    omega
theorem join_len (ws : List (List UInt8)) (sep : List UInt8) (b : Nat) (h : ∀ x ∈ ws, x.length ≤ b) : (Lib.join ws sep).length ≤ ws.length * (sep.length + b) := by
  cases ws with
  | nil => rw [Lib.join_nil]; exact Nat.zero_le _
  | cons x r =>
    have h1 := joinTail_len sep r b (fun y hy => h y (List.mem_cons_of_mem _ hy))
    have h2 := h x (List.mem_cons_self ..)
    rw [Lib.join_cons, List.length_append, List.length_cons, Nat.add_mul]
    omega
theorem words_len (t f : Mask) : (wordsW t f 96).length ≤ 96 := by unfold wordsW; rw [List.length_map]; exact holesTo_len _ 96
theorem words_join (t f : Mask) : (Lib.join ((wordsW t f 96).map (·.data.toList)) [32]).length ≤ 480 := by
  have h1 := words_len t f
  have h2 := join_len ((wordsW t f 96).map (·.data.toList)) [32] 4 (fun x hx => by
    obtain ⟨y, hy, rfl⟩ := List.mem_map.1 hx
    unfold wordsW at hy
    obtain ⟨h, hh, rfl⟩ := List.mem_map.1 hy
    have := holes_in _ 96 h hh
    exact word_len f (by omega))
  rw [List.length_map] at h2
  simp only [List.length_singleton] at h2
  omega
theorem FormatInt_small (i : Nat) (hi : i < 100) (w : World) : Calls Tryz.prog 28 #[.int .i64 i, .int .i64 10] w fun e w' => e = .returned (.string (decT i)) ∧ Ext w w' := by
  unfold decT
  exact (Tryz.strconv_FormatInt_10_small i hi w).mono fun e w' h => ⟨h.1, by rw [h.2]; exact Ext.refl _⟩
end Go.Proofs.YtdiblmlcapommaaGreatDoor
set_option linter.unusedVariables false
namespace Go.Proofs.YtdiblmlcapommaaGreatDoor
open Go.RowKit
section
variable {α : Type} {e : Enc α} {w0 : World} {xs : List α} {T : TypeId} {base : Nat} {v : Value}
theorem wpList_push2 {P : Program} {ops : Array Oper} {rest : List Oper} {o : Oper} {a : Act} {Q : Exit → Act → World → Prop} (e : Enc α) {W : World} {bk : Nat} (hgd : o.guard = none) (s y : Operand) (t : TypeId) (z : Value) (bytes : Nat)
    (ho : o.op = .call { callee := .builtin .append, args := #[s, y], argTypes := #[t, t] })
    (ht : P.underlying t = some (.slice T)) (hinfo : (P.info? T).map (fun i => (i.zero, i.size, i.bytes)) = some (some z, e.sz, bytes)) (hz : z.cells.size = e.sz)
    (x : α) (hs : a.eval s = v) (hy : a.eval y = .slice (some ⟨bk, 0, none⟩) 1 1) (hbk : bk = W.heap.size) (HO : Ow e T W base v xs) (hbase : base ≤ W.heap.size) (hw0 : w0.heap.size ≤ base) (HE : Ext w0 W)
    (hl : (xs.length + 1) * bytes ≤ 140737488355328) (hl2 : xs.length + 1 ≤ 9223372036854775807)
    (h : ∀ v1 w1, Ow e T w1 base v1 (xs ++ [x]) → Ext w0 w1 → W.grownBy w1 v.ownBlock → (v1.ownBlock = v.ownBlock ∨ ∃ b, v1.ownBlock = some b ∧ W.heap.size ≤ b) → wpList P ops Q rest (a.put o.dst v1) w1) :
    wpList P ops Q (o :: rest) a (W.alloc (.cells (e.enc x).toArray T)) := by
  subst hbk
  exact wpList_push e hgd s y t z bytes ho ht hinfo hz x hs hy HO hbase hw0 HE hl hl2 h
end
end Go.Proofs.YtdiblmlcapommaaGreatDoor
set_option linter.unusedVariables false
set_option linter.unusedSimpArgs false
set_option maxRecDepth 100000
namespace Go.Proofs.YtdiblmlcapommaaGreatDoor
open Go.RowKit
theorem Ow.rdS {α : Type} {e : Enc α} {T : TypeId} {w : World} {base : Nat} {xs : List α} {A : Option Addr} {n cap : Nat} (h : Ow e T w base (.slice A n cap) xs) : Rd e w A xs := by
  obtain ⟨A', c, h1, _, h2⟩ := h.slice
  simp only [Value.slice.injEq] at h1
  obtain ⟨rfl, _⟩ := h1
  exact h2
end Go.Proofs.YtdiblmlcapommaaGreatDoor
set_option linter.unusedVariables false
set_option linter.unusedSimpArgs false
set_option maxRecDepth 100000
namespace Go.Proofs.YtdiblmlcapommaaGreatDoor
open Go.RowKit
theorem snocRec {α : Type} {p : List α → Prop} (h0 : p []) (h1 : ∀ l c, p l → p (l ++ [c])) (l : List α) : p l := by
  rw [← List.reverse_reverse l]
  induction l.reverse with
  | nil => exact h0
  | cons c r ih => rw [List.reverse_cons]; exact h1 _ _ ih
def digB (c : UInt8) : Bool := decide (48 ≤ c.toNat) && decide (c.toNat ≤ 57)
/-- The value of a row of digits. -/
def valL (l : List UInt8) : Nat := l.foldl (fun a c => 10 * a + (c.toNat - 48)) 0
theorem valL_snoc (l : List UInt8) (c : UInt8) : valL (l ++ [c]) = 10 * valL l + (c.toNat - 48) := by unfold valL; rw [List.foldl_append]; rfl
/-- A row of digits is the shortest one of its number. -/
def shortB (l : List UInt8) : Bool := !(decide (1 < l.length) && (l.head? == some 48))
def numB (l : List UInt8) : Bool := (decide (1 ≤ l.length) && decide (l.length ≤ 10)) && (shortB l && l.all digB)
theorem dig_range {c : UInt8} (h : digB c = true) : 48 ≤ c.toNat ∧ c.toNat ≤ 57 := by unfold digB at h; simpa using h
theorem val_pos : ∀ (l : List UInt8), l ≠ [] → l.all digB = true → l.head? ≠ some 48 → 1 ≤ valL l := by
  refine snocRec ?_ ?_
  · intro h; exact absurd rfl h
  · intro l c ih
    intro _ ha hh
    rw [List.all_append, Bool.and_eq_true] at ha
    rw [valL_snoc]
    cases l with
    | nil =>
      have hc := dig_range (c := c) (by simpa using ha.2)
      have : c.toNat ≠ 48 := fun e => hh (by rw [List.nil_append, List.head?_cons]; congr 1; exact UInt8.toNat_inj.1 e)
      show 1 ≤ 10 * 0 + _
      omega
    | cons x l =>
      have := ih (List.cons_ne_nil _ _) ha.1 (by simpa using hh)
      omega
theorem dec_val : ∀ (l : List UInt8), l ≠ [] → l.all digB = true → shortB l = true → Lib.decDigits (valL l) = l := by
  refine snocRec ?_ ?_
  · intro h; exact absurd rfl h
  · intro l c ih
    intro _ ha hs
    rw [List.all_append, Bool.and_eq_true] at ha
    have hc := dig_range (c := c) (by simpa using ha.2)
    rw [valL_snoc]
    cases l with
    | nil =>
      have e : 10 * valL [] + (c.toNat - 48) = c.toNat - 48 := by show 10 * 0 + _ = _; omega
      rw [e, Lib.decDigits, dif_pos (by omega), List.nil_append, show 48 + (c.toNat - 48) = c.toNat by omega]
      congr 1
      exact UInt8.toNat_inj.1 (by rw [UInt8.toNat_ofNat']; omega)
    | cons x l =>
      have hh : (x :: l).head? ≠ some 48 := fun e => by
        unfold shortB at hs
        rw [List.cons_append, List.head?_cons] at hs
        rw [List.head?_cons] at e
        rw [e] at hs
        simp at hs
      have hp := val_pos (x :: l) (List.cons_ne_nil _ _) ha.1 hh
      have ih := ih (List.cons_ne_nil _ _) ha.1 (by unfold shortB; simp at hh ⊢; exact .inr hh)
      rw [Lib.decDigits, dif_neg (by omega), show (10 * valL (x :: l) + (c.toNat - 48)) / 10 = valL (x :: l) by omega, show (10 * valL (x :: l) + (c.toNat - 48)) % 10 = c.toNat - 48 by omega, ih, show 48 + (c.toNat - 48) = c.toNat by omega]
      congr 2
      exact UInt8.toNat_inj.1 (by rw [UInt8.toNat_ofNat']; omega)
theorem num_dec {s : ByteArray} (h : numB s.data.toList = true) : s = decT (valL s.data.toList) := by
  unfold numB at h
  simp only [Bool.and_eq_true, decide_eq_true_eq] at h
  obtain ⟨⟨h1, h2⟩, h3, h4⟩ := h
  unfold decT
  rw [dec_val _ (fun e => by rw [e] at h1; simp at h1) h4 h3]
theorem digits_small (n : Nat) (h : n < 10) : Lib.decDigits n = [UInt8.ofNat (48 + n)] := by rw [Lib.decDigits, dif_pos h]
theorem digits_two (n : Nat) (h : n < 100) (h1 : ¬ n < 10) : Lib.decDigits n = [UInt8.ofNat (48 + n / 10), UInt8.ofNat (48 + n % 10)] := by rw [Lib.decDigits, dif_neg h1, digits_small _ (by omega)]; rfl
theorem num_small (n : Nat) (h : n < 100) : numB (Lib.decDigits n) = true ∧ valL (Lib.decDigits n) = n := by
  by_cases h1 : n < 10
  · rw [digits_small n h1]
    have : ∀ k : Fin 10, numB [UInt8.ofNat (48 + k.val)] = true ∧ valL [UInt8.ofNat (48 + k.val)] = k.val := by decide +kernel
    exact this ⟨n, h1⟩
  · rw [digits_two n h h1]
    have : ∀ k : Fin 100, k.val < 10 ∨ (numB [UInt8.ofNat (48 + k.val / 10), UInt8.ofNat (48 + k.val % 10)] = true ∧ valL [UInt8.ofNat (48 + k.val / 10), UInt8.ofNat (48 + k.val % 10)] = k.val) := by decide +kernel
    exact (this ⟨n, h⟩).resolve_left h1
theorem parse_small (n : Nat) (h : n < 100) : Lib.parseIntB 64 (Lib.decDigits n) = .ok (n : Int) := by
  by_cases h1 : n < 10
  · rw [digits_small n h1]
    have : ∀ k : Fin 10, Lib.parseIntB 64 [UInt8.ofNat (48 + k.val)] = .ok (k.val : Int) := by decide +kernel
    exact this ⟨n, h1⟩
  · rw [digits_two n h h1]
    have : ∀ k : Fin 100, k.val < 10 ∨ Lib.parseIntB 64 [UInt8.ofNat (48 + k.val / 10), UInt8.ofNat (48 + k.val % 10)] = .ok (k.val : Int) := by decide +kernel
    exact (this ⟨n, h⟩).resolve_left h1
theorem val_le : ∀ (l : List UInt8), l.all digB = true → valL l < 10 ^ l.length := by
  refine snocRec ?_ ?_
  · intro _; decide
  · intro l c ih
    intro ha
    rw [List.all_append, Bool.and_eq_true] at ha
    have hc := dig_range (c := c) (by simpa using ha.2)
    have := ih ha.1
    rw [valL_snoc, List.length_append, List.length_singleton, Nat.pow_succ]
    omega
theorem valL_take (l : List UInt8) (k : Nat) (h : k < l.length) : valL (l.take (k + 1)) = 10 * valL (l.take k) + (l[k].toNat - 48) := by rw [List.take_succ_eq_append_getElem h, valL_snoc]
theorem valL_zero : valL [] = 0 := rfl
theorem num_len {l : List UInt8} (h : ¬ (1 ≤ l.length ∧ l.length ≤ 10)) : numB l = false := by
  unfold numB
  cases h2 : (decide (1 ≤ l.length) && decide (l.length ≤ 10)) with
  | false => rfl
  | true => rw [Bool.and_eq_true, decide_eq_true_eq, decide_eq_true_eq] at h2; exact absurd h2 h
theorem num_short {l : List UInt8} (h1 : 1 < l.length) (h : l[0]'(by omega) = 48) : numB l = false := by
  have : shortB l = false := by
    unfold shortB
    cases l with
    | nil => simp at h1
    | cons x l => simp at h h1 ⊢; exact ⟨h1, h⟩
  unfold numB; rw [this, Bool.false_and, Bool.and_false]
theorem num_dig {l : List UInt8} {k : Nat} (h : k < l.length) (hd : digB l[k] = false) : numB l = false := by
  have : l.all digB = false := all_miss _ l k h hd
  unfold numB; rw [this, Bool.and_false, Bool.and_false]
theorem num_yes {l : List UInt8} (h1 : 1 ≤ l.length) (h2 : l.length ≤ 10) (h3 : l.length = 1 ∨ l[0]'(by omega) ≠ 48) (h4 : l.all digB = true) : numB l = true := by
  have : shortB l = true := by
    unfold shortB
    cases l with
    | nil => simp at h1
    | cons x l =>
      simp at h3 ⊢
      rcases h3 with h3 | h3
      · exact .inl h3
      · exact .inr h3
  unfold numB; rw [this, h4, decide_eq_true h1, decide_eq_true h2]; rfl
theorem val_num {l : List UInt8} (h : numB l = true) : valL l < 10000000000 := by
  unfold numB at h
  simp only [Bool.and_eq_true, decide_eq_true_eq] at h
  have h1 := val_le l h.2.2
  have h3 : 10 ^ l.length ≤ 10 ^ 10 := Nat.pow_le_pow_right (by decide) h.1.2
  omega
attribute [irreducible] valL
set_option maxHeartbeats 1000000 in
theorem spec_l01Number (s : ByteArray) (w : World) :
    Calls Tryz.prog 20 #[.string s] w fun e w' => ∃ n : Int, e = .returned (.tuple #[.int .i64 n, .bool (numB s.data.toList)]) ∧ (numB s.data.toList = true → n = valL s.data.toList) ∧ Ext w w' := by
  have hlen : s.data.toList.length = s.size := rfl
  by_cases h0 : s.size = 0
  · obtain rfl : s = ⟨#[]⟩ := size_zero h0
    go_enter Tryz.func20, Tryz.ntmps20
    go_wp2
    refine bodyPost_ret (v := .tuple #[.int .i64 0, .bool false]) (by simp [results, Tryz.results20, go_sem]) rfl ⟨0, rfl, fun h => absurd h (by decide), Ext.refl _⟩
  have hq : s.toList.isEmpty = false := by
    rw [Lib.toList_data, List.isEmpty_eq_false_iff]
    intro h
    exact h0 (by show s.data.toList.length = 0; rw [h]; rfl)
  by_cases h10 : 10 < s.size
  · have hv := hd (num_len (l := s.data.toList) (by rw [hlen]; omega))
    have i1 : (10 : Int) < s.size := by omega
    go_enter Tryz.func20, Tryz.ntmps20
    go_wp2
    refine bodyPost_ret (v := .tuple #[.int .i64 0, .bool false]) (by simp [results, Tryz.results20, go_sem]) rfl ⟨0, by rw [hv.out], fun h => absurd (hv.out.symm.trans h) (by decide), Ext.refl _⟩
  have i1 : ((10 : Int) < s.size) = False := eq_false (by omega)
  have hs0 : 0 < s.size := by omega
  have hge : s[0] = s.data.toList[0]'(by rw [hlen]; exact hs0) := rfl
  by_cases h48 : s[0].toNat = 48 ∧ 1 < s.size
  · have hv := hd (num_short (l := s.data.toList) (by rw [hlen]; exact h48.2) (UInt8.toNat_inj.1 (by rw [← hge]; exact h48.1)))
    have i2 : ((s.data[0]'hs0).toNat : Int) = 48 := by have : s[0].toNat = 48 := h48.1; have e : s.data[0]'hs0 = s[0] := rfl; rw [e]; omega
    have i3 : (1 : Int) < s.size := by have := h48.2; omega
    clear h48 hge
    go_enter Tryz.func20, Tryz.ntmps20
    go_wp2
    refine bodyPost_ret (v := .tuple #[.int .i64 0, .bool false]) (by simp [results, Tryz.results20, go_sem]) rfl ⟨0, by rw [hv.out], fun h => absurd (hv.out.symm.trans h) (by decide), Ext.refl _⟩
  have hsh : s.data.toList.length = 1 ∨ s.data.toList[0]'(by rw [hlen]; exact hs0) ≠ 48 := by
    by_cases e : s[0].toNat = 48
    · exact .inl (by rw [hlen]; have := fun h => h48 ⟨e, h⟩; omega)
    · exact .inr (fun h => e (by rw [hge, h]; rfl))
  have hyes := fun h => hd (num_yes (l := s.data.toList) (by rw [hlen]; omega) (by rw [hlen]; omega) hsh h)
  have hdig := fun k h e => hd (num_dig (l := s.data.toList) (k := k) h e)
  have hvt := fun k h => hd (valL_take s.data.toList k h)
  have hvl := hd (fun k => val_le (s.data.toList.take k))
  have hat := hd (fun k h => all_take digB s.data.toList k h)
  have hget : ∀ k (h : k < s.size), s[k] = s.data.toList[k]'(by rw [hlen]; exact h) := fun k h => rfl
  have hcase : (s[0].toNat = 48 ∧ ¬ (1 : Int) < s.size) ∨ ¬ s[0].toNat = 48 := by
    by_cases e : s[0].toNat = 48
    · exact .inl ⟨e, by have := fun h => h48 ⟨e, h⟩; omega⟩
    · exact .inr e
  clear h48 hsh hge
  rcases hcase with ⟨i2, i3⟩ | i2
  · replace i2 : ((s.data[0]'hs0).toNat : Int) = 48 := by have e : s.data[0]'hs0 = s[0] := rfl; rw [e]; omega
    have i5 : decide ((1 : Int) < s.size) = false := decide_eq_false i3
    have i6 : (1 < s.size) = False := eq_false (by omega)
    replace i3 : ((1 : Int) < s.size) = False := eq_false i3
    go_enter Tryz.func20, Tryz.ntmps20
    go_wp2
    go_loopg [4, 5] s.size (fun g nv iv wr => ∃ k c : Nat, g = s.size - k ∧ k ≤ s.size ∧ iv = .int .i64 k ∧ nv = .int .i64 c ∧ Hd (c = valL (s.data.toList.take k)) ∧ Hd ((s.data.toList.take k).all digB = true) ∧ Ext w wr)
    case atStart => exact ⟨0, 0, by omega, by omega, rfl, rfl, hd (by rw [List.take_zero, valL_zero]), hd rfl, Ext.refl _⟩
    case round =>
      obtain ⟨k, c, hg, hk, rfl, rfl, hc, ha, hw⟩ := hrel
      clear i2 i3 i5 i6
      by_cases hkl : k < s.size
      · have hkk : k < s.data.toList.length := by rw [hlen]; exact hkl
        have hge := hget k hkl
        have hdg := hdig k hkk
        have hvk := hvt k hkk
        have hak := hd (hat.out k hkk)
        rw [← hge] at hdg
        have hcl : c < 10000000000 := by
          have h1 := hvl.out k ha.out
          have h2 : (s.data.toList.take k).length ≤ 10 := by rw [List.length_take]; omega
          have h3 : 10 ^ (s.data.toList.take k).length ≤ 10 ^ 10 := Nat.pow_le_pow_right (by decide) h2
          rw [hc.out]
          omega
        have i4 : (k : Int) < s.size := by omega
        have hdd : digB s[k] = (decide (48 ≤ s[k].toNat) && decide (s[k].toNat ≤ 57)) := rfl
        replace hvk : Hd (valL (s.data.toList.take (k + 1)) = 10 * valL (s.data.toList.take k) + (s[k].toNat - 48)) := hvk
        replace hak : Hd ((s.data.toList.take (k + 1)).all digB = ((s.data.toList.take k).all digB && digB s[k])) := hak
        clear hge hget hdig hvt hvl hat hyes
        generalize hx : s[k] = x at hdg hdd hvk hak
        have hlt := x.toNat_lt
        by_cases q1 : x.toNat < 48
        · have hv := hdg (by rw [hdd, decide_eq_false (by omega)]; rfl)
          have q2 : (s[k].toNat : Int) < 48 := by rw [hx]; omega
          have q3 : s[k].toNat < 48 := by rw [hx]; exact q1
          clear hdg hdd hvk hak hc ha hx
          go_wp2
          refine bodyPost_ret (v := .tuple #[.int .i64 0, .bool false]) (by simp [results, Tryz.results20, go_sem]) rfl ⟨0, by rw [hv.out], fun h => absurd (hv.out.symm.trans h) (by decide), hw⟩
        · by_cases q4 : 57 < x.toNat
          · have hv := hdg (by rw [hdd, decide_eq_false (by omega : ¬ x.toNat ≤ 57), Bool.and_false])
            have q2 : ((s[k].toNat : Int) < 48) = False := eq_false (by rw [hx]; omega)
            have q3 : (s[k].toNat < 48) = False := eq_false (by rw [hx]; omega)
            have q5 : (57 : Int) < s[k].toNat := by rw [hx]; omega
            have q6 : 57 < s[k].toNat := by rw [hx]; omega
            clear hdg hdd hvk hak hc ha hx
            go_wp2
            refine bodyPost_ret (v := .tuple #[.int .i64 0, .bool false]) (by simp [results, Tryz.results20, go_sem]) rfl ⟨0, by rw [hv.out], fun h => absurd (hv.out.symm.trans h) (by decide), hw⟩
          · have q2 : ((s[k].toNat : Int) < 48) = False := eq_false (by rw [hx]; omega)
            have q3 : (s[k].toNat < 48) = False := eq_false (by rw [hx]; omega)
            have q5 : ((57 : Int) < s[k].toNat) = False := eq_false (by rw [hx]; omega)
            have q6 : (57 < s[k].toNat) = False := eq_false (by rw [hx]; omega)
            obtain ⟨d, hd0⟩ : ∃ d : Nat, x.toNat - 48 = d := ⟨_, rfl⟩
            have e1 : IntKind.u8.wrap ((s[k].toNat : Int) - 48) = (d : Int) := by rw [hx]; exact (IntWalk.u8_in _ (by omega)).trans (by omega)
            have e2 : IntKind.i64.wrap (10 * (c : Int)) = 10 * (c : Int) := IntWalk.i64_in _ (by omega)
            have e3 : IntKind.i64.wrap (10 * (c : Int) + d) = 10 * (c : Int) + d := IntWalk.i64_in _ (by omega)
            have e4 : IntKind.i64.wrap (d : Int) = (d : Int) := IntWalk.i64_in _ (by omega)
            have hc2 : Hd (10 * c + d = valL (s.data.toList.take (k + 1))) := hd (by rw [hvk.out, ← hc.out, hd0])
            have ha2 : Hd ((s.data.toList.take (k + 1)).all digB = true) := hd (by rw [hak.out, ha.out, hdd, decide_eq_true (by omega), decide_eq_true (by omega)]; rfl)
            clear hdg hdd hvk hak hc ha hx hd0
            go_wp2
            go_roundg (s.size - (k + 1))
            case rel => exact ⟨k + 1, 10 * c + d, rfl, hkl, by simp, by first | rfl | simp | (congr 1; omega), hc2, ha2, hw⟩
            case measure => omega
      · obtain rfl : k = s.size := by omega
        have hfull : s.data.toList.take s.size = s.data.toList := by rw [← hlen]; exact List.take_length
        have hv := hyes (by rw [← hfull]; exact ha.out)
        have hc2 := hc.out
        rw [hfull] at hc2
        replace hc2 := hd hc2
        clear hfull hc ha hyes hdig hvt hvl hat hget
        go_wp2
        refine bodyPost_ret (v := .tuple #[.int .i64 c, .bool true]) (by simp [results, Tryz.results20, go_sem]) rfl ⟨c, by rw [hv.out], fun _ => by rw [hc2.out], hw⟩
  · have e : s.data[0]'hs0 = s[0] := rfl
    have i3 : (((s.data[0]'hs0).toNat : Int) = 48) = False := eq_false (by rw [e]; omega)
    have i5 : (((s.data[0]'hs0).toNat : Int) == 48) = false := by rw [beq_eq_false_iff_ne]; exact of_eq_false i3
    have i6 : ((s.data[0]'hs0).toNat == 48) = false := by rw [beq_eq_false_iff_ne, e]; exact i2
    clear e i2
    have i2 : True := trivial
    go_enter Tryz.func20, Tryz.ntmps20
    go_wp2
    go_loopg [4, 5] s.size (fun g nv iv wr => ∃ k c : Nat, g = s.size - k ∧ k ≤ s.size ∧ iv = .int .i64 k ∧ nv = .int .i64 c ∧ Hd (c = valL (s.data.toList.take k)) ∧ Hd ((s.data.toList.take k).all digB = true) ∧ Ext w wr)
    case atStart => exact ⟨0, 0, by omega, by omega, rfl, rfl, hd (by rw [List.take_zero, valL_zero]), hd rfl, Ext.refl _⟩
    case round =>
      obtain ⟨k, c, hg, hk, rfl, rfl, hc, ha, hw⟩ := hrel
      clear i2 i3 i5 i6
      by_cases hkl : k < s.size
      · have hkk : k < s.data.toList.length := by rw [hlen]; exact hkl
        have hge := hget k hkl
        have hdg := hdig k hkk
        have hvk := hvt k hkk
        have hak := hd (hat.out k hkk)
        rw [← hge] at hdg
        have hcl : c < 10000000000 := by
          have h1 := hvl.out k ha.out
          have h2 : (s.data.toList.take k).length ≤ 10 := by rw [List.length_take]; omega
          have h3 : 10 ^ (s.data.toList.take k).length ≤ 10 ^ 10 := Nat.pow_le_pow_right (by decide) h2
          rw [hc.out]
          omega
        have i4 : (k : Int) < s.size := by omega
        have hdd : digB s[k] = (decide (48 ≤ s[k].toNat) && decide (s[k].toNat ≤ 57)) := rfl
        replace hvk : Hd (valL (s.data.toList.take (k + 1)) = 10 * valL (s.data.toList.take k) + (s[k].toNat - 48)) := hvk
        replace hak : Hd ((s.data.toList.take (k + 1)).all digB = ((s.data.toList.take k).all digB && digB s[k])) := hak
        clear hge hget hdig hvt hvl hat hyes
        generalize hx : s[k] = x at hdg hdd hvk hak
        have hlt := x.toNat_lt
        by_cases q1 : x.toNat < 48
        · have hv := hdg (by rw [hdd, decide_eq_false (by omega)]; rfl)
          have q2 : (s[k].toNat : Int) < 48 := by rw [hx]; omega
          have q3 : s[k].toNat < 48 := by rw [hx]; exact q1
          clear hdg hdd hvk hak hc ha hx
          go_wp2
          refine bodyPost_ret (v := .tuple #[.int .i64 0, .bool false]) (by simp [results, Tryz.results20, go_sem]) rfl ⟨0, by rw [hv.out], fun h => absurd (hv.out.symm.trans h) (by decide), hw⟩
        · by_cases q4 : 57 < x.toNat
          · have hv := hdg (by rw [hdd, decide_eq_false (by omega : ¬ x.toNat ≤ 57), Bool.and_false])
            have q2 : ((s[k].toNat : Int) < 48) = False := eq_false (by rw [hx]; omega)
            have q3 : (s[k].toNat < 48) = False := eq_false (by rw [hx]; omega)
            have q5 : (57 : Int) < s[k].toNat := by rw [hx]; omega
            have q6 : 57 < s[k].toNat := by rw [hx]; omega
            clear hdg hdd hvk hak hc ha hx
            go_wp2
            refine bodyPost_ret (v := .tuple #[.int .i64 0, .bool false]) (by simp [results, Tryz.results20, go_sem]) rfl ⟨0, by rw [hv.out], fun h => absurd (hv.out.symm.trans h) (by decide), hw⟩
          · have q2 : ((s[k].toNat : Int) < 48) = False := eq_false (by rw [hx]; omega)
            have q3 : (s[k].toNat < 48) = False := eq_false (by rw [hx]; omega)
            have q5 : ((57 : Int) < s[k].toNat) = False := eq_false (by rw [hx]; omega)
            have q6 : (57 < s[k].toNat) = False := eq_false (by rw [hx]; omega)
            obtain ⟨d, hd0⟩ : ∃ d : Nat, x.toNat - 48 = d := ⟨_, rfl⟩
            have e1 : IntKind.u8.wrap ((s[k].toNat : Int) - 48) = (d : Int) := by rw [hx]; exact (IntWalk.u8_in _ (by omega)).trans (by omega)
            have e2 : IntKind.i64.wrap (10 * (c : Int)) = 10 * (c : Int) := IntWalk.i64_in _ (by omega)
            have e3 : IntKind.i64.wrap (10 * (c : Int) + d) = 10 * (c : Int) + d := IntWalk.i64_in _ (by omega)
            have e4 : IntKind.i64.wrap (d : Int) = (d : Int) := IntWalk.i64_in _ (by omega)
            have hc2 : Hd (10 * c + d = valL (s.data.toList.take (k + 1))) := hd (by rw [hvk.out, ← hc.out, hd0])
            have ha2 : Hd ((s.data.toList.take (k + 1)).all digB = true) := hd (by rw [hak.out, ha.out, hdd, decide_eq_true (by omega), decide_eq_true (by omega)]; rfl)
            clear hdg hdd hvk hak hc ha hx hd0
            go_wp2
            go_roundg (s.size - (k + 1))
            case rel => exact ⟨k + 1, 10 * c + d, rfl, hkl, by simp, by first | rfl | simp | (congr 1; omega), hc2, ha2, hw⟩
            case measure => omega
      · obtain rfl : k = s.size := by omega
        have hfull : s.data.toList.take s.size = s.data.toList := by rw [← hlen]; exact List.take_length
        have hv := hyes (by rw [← hfull]; exact ha.out)
        have hc2 := hc.out
        rw [hfull] at hc2
        replace hc2 := hd hc2
        clear hfull hc ha hyes hdig hvt hvl hat hget
        go_wp2
        refine bodyPost_ret (v := .tuple #[.int .i64 c, .bool true]) (by simp [results, Tryz.results20, go_sem]) rfl ⟨c, by rw [hv.out], fun _ => by rw [hc2.out], hw⟩
end Go.Proofs.YtdiblmlcapommaaGreatDoor
set_option linter.unusedVariables false
set_option linter.unusedSimpArgs false
set_option maxRecDepth 100000
namespace Go.Proofs.YtdiblmlcapommaaGreatDoor
open Go.RowKit
/-- The library's tables and errors lie in their places. -/
structure Env (w : World) : Prop where
  tab : Lib.TabIs Tryz.prog w "internal/strconv.uint64pow10" .u64 Lib.pow10Tab
  syn : ∃ tp p, w.var? Tryz.prog "strconv.ErrSyntax" = some #[.iface tp p]
  ran : ∃ tp p, w.var? Tryz.prog "strconv.ErrRange" = some #[.iface tp p]
theorem gTab : Tryz.prog.globalNamed "internal/strconv.uint64pow10" = some 4 := by kernel_rfl
theorem gSyn : Tryz.prog.globalNamed "strconv.ErrSyntax" = some 2 := by kernel_rfl
theorem gRan : Tryz.prog.globalNamed "strconv.ErrRange" = some 3 := by kernel_rfl
theorem Env.ext {w w' : World} (h : Env w) (hE : Ext w w') : Env w' :=
  ⟨Joins.var_stays gTab h.tab hE (Nat.le_refl _), by obtain ⟨tp, p, e⟩ := h.syn; exact ⟨tp, p, Joins.var_stays gSyn e hE (Nat.le_refl _)⟩, by obtain ⟨tp, p, e⟩ := h.ran; exact ⟨tp, p, Joins.var_stays gRan e hE (Nat.le_refl _)⟩⟩
theorem grow_ext (w : World) (k : Nat) (os : Array Obj) : Ext w (Go.Sort.grow (w.drewN k) os) :=
  ⟨rfl, rfl, rfl, by simp [Go.Sort.grow, World.drewN], fun b hb => by
    show (w.heap ++ os)[b]? = w.heap[b]?
    rw [Array.getElem?_append_left hb]⟩
theorem FormatInt_any (n : Int) (h0 : -9223372036854775808 ≤ n) (h1 : n ≤ 9223372036854775807) (w : World) (hG : Env w) : Calls Tryz.prog 28 #[.int .i64 n, .int .i64 10] w fun e w' => e = .returned (.string ⟨(Lib.itoa n).toArray⟩) ∧ Ext w w' :=
  (Tryz.strconv_FormatInt_10 n h0 h1 w hG.tab).mono fun e w' h => ⟨h.1, by obtain ⟨_, k, os, rfl⟩ := h; exact grow_ext w k os⟩
theorem eqS_eqJ {a b : ByteArray} (h : (a.toList == b.toList) = true) : a = b := by
  rw [beq_iff_eq, Lib.toList_data, Lib.toList_data] at h
  exact ByteArray.ext (Array.toList_inj.1 h)
theorem parse_dec {s : ByteArray} {v : Int} (h : Lib.parseIntB 64 s.data.toList = .ok v) (k : Nat) (hk : k < 96) (e : s = decT k) : v = k := by
  have h2 := parse_small k (by omega)
  rw [e] at h
  unfold decT at h
  rw [List.toList_toArray, h2] at h
  cases h
  rfl
theorem parse_dec2 {k : Nat} (hk : k < 96) : Lib.parseIntB 64 (decT k).data.toList = .ok (k : Int) := by
  unfold decT
  rw [List.toList_toArray]
  exact parse_small k (by omega)
theorem itoa_dec {v : Int} (h : 0 ≤ v) : (⟨(Lib.itoa v).toArray⟩ : ByteArray) = decT v.toNat := by
  unfold decT Lib.itoa
  rw [if_neg (by omega)]
set_option maxHeartbeats 1000000 in
theorem impl_readNumber (s : ByteArray) (hs : s.size ≤ 1048576) (w : World) (hG : Env w) :
    Calls Tryz.prog 15 #[.string s] w fun e w' => ∃ (n : Int) (ok : Bool), e = .returned (.tuple #[.int .i64 n, .bool ok]) ∧ (ok = true → ∃ k : Nat, n = k ∧ s = decT k) ∧ (∀ k : Nat, k < 96 → s = decT k → ok = true ∧ n = k) ∧ Ext w w' := by
  rcases hp : Lib.parseIntB 64 s.data.toList with v | _ | _
  rotate_left
  · obtain ⟨tp, p, hv⟩ := hG.syn
    have hno : ∀ k : Nat, k < 96 → s = decT k → False := fun k hk e => by rw [e, parse_dec2 hk] at hp; cases hp
    have hc := Tryz.strconv_ParseInt_10_at64_syntax_var s (by omega) hp tp p w hv
    clear hp hv
    go_enter Tryz.func15, Tryz.ntmps15
    go_wp2_with fail
    refine Calls.mono hc ?_
    rintro e w1 ⟨N, rfl, hN1, hN2, hb1⟩
    clear hc hN2
    go_wp2
    refine bodyPost_ret (v := .tuple #[.int .i64 0, .bool false]) (by simp [results, Tryz.results15, go_sem]) rfl ⟨0, false, rfl, fun h => (by cases h), fun k hk e => (hno k hk e).elim, hb1⟩
  · obtain ⟨tp, p, hv⟩ := hG.ran
    have hno : ∀ k : Nat, k < 96 → s = decT k → False := fun k hk e => by rw [e, parse_dec2 hk] at hp; cases hp
    have hc := Tryz.strconv_ParseInt_10_at64_range_var s (by omega) hp tp p w hv
    generalize Lib.intSat 64 s.data.toList = z at hc
    clear hp hv
    go_enter Tryz.func15, Tryz.ntmps15
    go_wp2_with fail
    refine Calls.mono hc ?_
    rintro e w1 ⟨N, rfl, hN1, hN2, hb1⟩
    clear hc hN2
    go_wp2
    refine bodyPost_ret (v := .tuple #[.int .i64 z, .bool false]) (by simp [results, Tryz.results15, go_sem]) rfl ⟨z, false, rfl, fun h => (by cases h), fun k hk e => (hno k hk e).elim, hb1⟩
  · have hb := Lib.parseIntB_bounds hp
    have hpd := fun k hk e => parse_dec hp k hk e
    have hc := Tryz.strconv_ParseInt_10_at64_ok s (by omega) v hp w
    clear hp
    by_cases h0 : 0 ≤ v
    · have hit := itoa_dec h0
      have hf := fun W hW => FormatInt_any v (by omega) (by omega) W hW
      rw [hit] at hf
      have i1 : (0 ≤ v) = True := eq_true h0
      cases q : ((decT v.toNat).toList == s.toList) with
      | true =>
        have q' : decT v.toNat = s := eqS_eqJ q
        go_enter Tryz.func15, Tryz.ntmps15
        go_wp2_with fail
        refine Calls.mono hc ?_
        rintro e w1 ⟨rfl, hw1⟩
        have hb1 : Ext w w1 := by
          rcases hw1 with rfl | ⟨t, rfl⟩
          · exact Ext.refl _
          · exact Lib.bytesWorld_below _ _ _
        clear hw1 hc
        go_wp2_with fail
        refine Calls.mono (hf _ (hG.ext hb1)) ?_
        rintro e w2 ⟨rfl, hb2⟩
        clear hf
        go_wp2
        refine bodyPost_ret (v := .tuple #[.int .i64 v, .bool true]) (by simp [results, Tryz.results15, go_sem]) rfl ⟨v, true, rfl, fun _ => ⟨v.toNat, by omega, q'.symm⟩, fun k hk e => ⟨rfl, hpd k hk e⟩, hb1.trans hb2⟩
      | false =>
        have hno : ∀ k : Nat, k < 96 → s = decT k → False := fun k hk e => by
          have := hpd k hk e
          rw [this, Int.toNat_natCast, e] at q
          simp at q
        go_enter Tryz.func15, Tryz.ntmps15
        go_wp2_with fail
        refine Calls.mono hc ?_
        rintro e w1 ⟨rfl, hw1⟩
        have hb1 : Ext w w1 := by
          rcases hw1 with rfl | ⟨t, rfl⟩
          · exact Ext.refl _
          · exact Lib.bytesWorld_below _ _ _
        clear hw1 hc
        go_wp2_with fail
        refine Calls.mono (hf _ (hG.ext hb1)) ?_
        rintro e w2 ⟨rfl, hb2⟩
        clear hf
        go_wp2
        refine bodyPost_ret (v := .tuple #[.int .i64 v, .bool false]) (by simp [results, Tryz.results15, go_sem]) rfl ⟨v, false, rfl, fun h => (by cases h), fun k hk e => (hno k hk e).elim, hb1.trans hb2⟩
    · have hno : ∀ k : Nat, k < 96 → s = decT k → False := fun k hk e => h0 (by rw [hpd k hk e]; omega)
      have i1 : (0 ≤ v) = False := eq_false h0
      go_enter Tryz.func15, Tryz.ntmps15
      go_wp2_with fail
      refine Calls.mono hc ?_
      rintro e w1 ⟨rfl, hw1⟩
      have hb1 : Ext w w1 := by
        rcases hw1 with rfl | ⟨t, rfl⟩
        · exact Ext.refl _
        · exact Lib.bytesWorld_below _ _ _
      clear hw1 hc
      go_wp2
      refine bodyPost_ret (v := .tuple #[.int .i64 v, .bool false]) (by simp [results, Tryz.results15, go_sem]) rfl ⟨v, false, rfl, fun h => (by cases h), fun k hk e => (hno k hk e).elim, hb1⟩
end Go.Proofs.YtdiblmlcapommaaGreatDoor
