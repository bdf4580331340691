/-
  PK5: the texts E6 E7 E8 E9 E13 E27 in one (written by pack.py).
-/
import Derived.Test.YtdiblmlcapommaaGreatDoorPK4
import Derived.Test.YtdiblmlcapommaaGreatDoorPK2
set_option linter.unusedVariables false
set_option linter.unusedSimpArgs false
set_option maxRecDepth 100000
namespace Go.Proofs.YtdiblmlcapommaaGreatDoor
open Go.RowKit
end Go.Proofs.YtdiblmlcapommaaGreatDoor
set_option linter.unusedVariables false
set_option linter.unusedSimpArgs false
set_option maxRecDepth 100000
namespace Go.Proofs.YtdiblmlcapommaaGreatDoor
open Go.RowKit
/-- A slice of entries, as the contracts want it. -/
structure CatArg (w : World) (A : Option Addr) (cap : Nat) (xs : List Ent) : Prop where
  rd : Rd encEnt w A xs
  cap : xs.length ≤ cap
  len : xs.length ≤ 1048576
  ok : ∀ x ∈ xs, x.nm.size ≤ 9223372036854775807
theorem CatArg.ext {w w' : World} {A : Option Addr} {cap : Nat} {xs : List Ent} (h : CatArg w A cap xs) (hb : Ext w w') : CatArg w' A cap xs := ⟨h.rd.ext hb, h.cap, h.len, h.ok⟩
theorem cat_len {xs : List Ent} (h : catB xs = true) : xs.length ≤ 40 := by
  unfold catB at h
  simp only [Bool.and_eq_true, decide_eq_true_eq] at h
  exact h.1
theorem cat_stands {xs : List Ent} (h : catB xs = true) : standsB xs = true := by
  unfold catB at h
  simp only [Bool.and_eq_true, decide_eq_true_eq] at h
  exact h.2.1
theorem cat_tops {xs : List Ent} (h : catB xs = true) : topsB xs = true := by
  unfold catB at h
  simp only [Bool.and_eq_true, decide_eq_true_eq] at h
  exact h.2.2
/-- What FindEntry returns. -/
def findF (xs : List Ent) (nm : ByteArray) : Int × Int :=
  if catB xs = true then (if fidx (fun y : Ent => y.nm.toList == nm.toList) xs < 0 then (0, 6) else (fidx (fun y : Ent => y.nm.toList == nm.toList) xs, 0)) else (0, 1)
/-- Is i a place of a list? -/
def inX (xs : List Ent) (i : Int) : Bool := decide (0 ≤ i) && decide (i < (xs.length : Int))
/-- The code of a catalogue and of places in it. -/
def atsF (xs : List Ent) (is : List Int) : Int := if catB xs = true then (if is.all (inX xs) = true then 0 else 2) else 1
/-- The preferred entry of an entry. -/
def firstF (xs : List Ent) (i : Int) : Int := if xs[i.toNat]!.see = -1 then i else xs[i.toNat]!.see
def prefF (xs : List Ent) (i : Int) : Int × Int := if atsF xs [i] = 0 then (firstF xs i, 0) else (0, atsF xs [i])
theorem atsF_one {xs : List Ent} {i : Int} (h : atsF xs [i] = 0) : catB xs = true ∧ 0 ≤ i ∧ i < xs.length := by
  unfold atsF at h
  split at h
  · split at h
    · rename_i h1 h2
      simp only [List.all_cons, List.all_nil, Bool.and_true, inX, Bool.and_eq_true, decide_eq_true_eq] at h2
      exact ⟨h1, h2⟩
    · simp at h
  · simp at h
end Go.Proofs.YtdiblmlcapommaaGreatDoor
set_option linter.unusedVariables false
set_option linter.unusedSimpArgs false
set_option maxRecDepth 100000
namespace Go.Proofs.YtdiblmlcapommaaGreatDoor
open Go.RowKit
theorem Rd.lit1 {W : World} {a : Int} {t : TypeId} : Rd encI64 (W.alloc (.cells #[.int .i64 a] t)) (some ⟨W.heap.size, 0, none⟩) [a] := Rd.lit encI64 W [a] _ t (by simp) rfl
end Go.Proofs.YtdiblmlcapommaaGreatDoor
set_option linter.unusedVariables false
set_option linter.unusedSimpArgs false
set_option maxRecDepth 100000
namespace Go.Proofs.YtdiblmlcapommaaGreatDoor
open Go.RowKit
/-- Is v in a list of numbers? -/
def hasI (is : List Int) (v : Int) : Bool := is.any fun y => y == v
def pathFrom (xs : List Ent) : Nat → Int → List Int
  | 0, _ => []
  | n + 1, a => if a = -1 then [] else a :: pathFrom xs n xs[a.toNat]!.br
/-- The way up from an entry. -/
def pathL (xs : List Ent) (i : Int) : List Int := pathFrom xs xs.length (firstF xs i)
theorem pathFrom_end (xs : List Ent) : ∀ n, pathFrom xs n (-1) = []
  | 0 => rfl
  | n + 1 => by rw [pathFrom, if_pos rfl]
theorem pathFrom_len (xs : List Ent) : ∀ n a, (pathFrom xs n a).length ≤ n
  | 0, _ => Nat.le_refl _
  | n + 1, a => by
    rw [pathFrom]
    split
    · simp
    · have := pathFrom_len xs n xs[a.toNat]!.br
      simp only [List.length_cons]
      omega
theorem pathL_len (xs : List Ent) (i : Int) : (pathL xs i).length ≤ xs.length := pathFrom_len xs _ _
theorem firstF_in {xs : List Ent} (h : standsB xs = true) (i : Int) (h0 : 0 ≤ i) (h1 : i < xs.length) : 0 ≤ firstF xs i ∧ firstF xs i < xs.length := by
  unfold firstF
  split
  · exact ⟨h0, h1⟩
  · rename_i hs
    have hr := refB_in (stand_parts (stands_at h i.toNat (by omega))).2.2.1
    unfold InC at hr
    omega
theorem tops_at {xs : List Ent} (h : topsB xs = true) (i : Int) (h0 : 0 ≤ i) (h1 : i < xs.length) : climb xs xs.length i < 0 := by
  unfold topsB at h
  rw [List.all_eq_true] at h
  have := h i.toNat (List.mem_range.2 (by omega))
  rw [decide_eq_true_eq, show ((i.toNat : Nat) : Int) = i by omega] at this
  exact this
/-- A way up that has not ended has not used all its steps. -/
theorem climb_more {xs : List Ent} {a : Int} (h : climb xs xs.length a < 0) (j : Nat) (hj : j ≤ xs.length) (hp : 0 ≤ climb xs j a) : j < xs.length := by
  rcases Nat.lt_or_ge j xs.length with h1 | h1
  · exact h1
  · exfalso
    obtain rfl : j = xs.length := by omega
    omega
def commF (xs : List Ent) (i k : Int) : Int × Int :=
  if atsF xs [i, k] = 0 then (match (pathL xs i).find? (hasI (pathL xs k)) with | some x => (x, 0) | none => (0, 6)) else (0, atsF xs [i, k])
theorem atsF_two {xs : List Ent} {i k : Int} (h : atsF xs [i, k] = 0) : catB xs = true ∧ (0 ≤ i ∧ i < xs.length) ∧ (0 ≤ k ∧ k < xs.length) := by
  unfold atsF at h
  split at h
  · split at h
    · rename_i h1 h2
      simp only [List.all_cons, List.all_nil, Bool.and_true, inX, Bool.and_eq_true, decide_eq_true_eq] at h2
      exact ⟨h1, h2⟩
    · simp at h
  · simp at h
theorem atsF_pair (xs : List Ent) (i k : Int) : atsF xs [i, k] = if atsF xs [i] = 0 then atsF xs [k] else atsF xs [i] := by
  unfold atsF
  cases catB xs <;> cases hi : inX xs i <;> cases hk : inX xs k <;> simp [hi, hk]
theorem find_miss {α : Type} (p : α → Bool) (xs : List α) (k : Nat) (hk : k < xs.length) (h : p xs[k] = false) (h0 : (xs.take k).find? p = none) : (xs.take (k + 1)).find? p = none := by
  rw [List.take_succ_eq_append_getElem hk, List.find?_append, h0, List.find?_cons, h]
  rfl
theorem find_hit {α : Type} (p : α → Bool) (xs : List α) (k : Nat) (hk : k < xs.length) (h : p xs[k] = true) (h0 : (xs.take k).find? p = none) : xs.find? p = some xs[k] := by
  have hx : xs = xs.take k ++ xs[k] :: xs.drop (k + 1) := by
    rw [← List.drop_eq_getElem_cons hk, List.take_append_drop]
  conv => lhs; rw [hx]
  rw [List.find?_append, h0, List.find?_cons, h]
  rfl
end Go.Proofs.YtdiblmlcapommaaGreatDoor
set_option linter.unusedVariables false
set_option linter.unusedSimpArgs false
set_option maxRecDepth 100000
namespace Go.Proofs.YtdiblmlcapommaaGreatDoor
open Go.RowKit
abbrev seeS : ByteArray := ⟨#[59, 115, 101, 101, 32]⟩
abbrev belowS : ByteArray := ⟨#[59, 98, 101, 108, 111, 119, 32]⟩
abbrev lineS : ByteArray := ⟨#[10]⟩
/-- What stands behind an entry's name. -/
def tailT (xs : List Ent) (x : Ent) (out : ByteArray) : ByteArray :=
  if x.see ≠ -1 then out ++ (seeS ++ xs[x.see.toNat]!.nm) else if x.br ≠ -1 then out ++ (belowS ++ xs[x.br.toNat]!.nm) else out
/-- The text of the first k entries. -/
def textTo (xs : List Ent) : Nat → ByteArray
  | 0 => ⟨#[]⟩
  | k + 1 => tailT xs xs[k]! (textTo xs k ++ xs[k]!.nm) ++ lineS
def textL (xs : List Ent) : ByteArray := textTo xs xs.length
def textF (xs : List Ent) : ByteArray := if catB xs = true then textL xs else ⟨#[]⟩
theorem name_size {xs : List Ent} (h : standsB xs = true) (i : Nat) (hi : i < xs.length) : xs[i]!.nm.size ≤ 24 := by
  have := (stand_parts (stands_at h i hi)).1
  unfold entNameB at this
  simp only [Bool.and_eq_true, decide_eq_true_eq] at this
  exact this.2.1
theorem see_place {xs : List Ent} (h : standsB xs = true) (i : Nat) (hi : i < xs.length) (hs : xs[i]!.see ≠ -1) : xs[i]!.see.toNat < xs.length ∧ 0 ≤ xs[i]!.see := by
  have := refB_in (stand_parts (stands_at h i hi)).2.2.1
  unfold InC at this
  omega
theorem br_place {xs : List Ent} (h : standsB xs = true) (i : Nat) (hi : i < xs.length) (hs : xs[i]!.br ≠ -1) : xs[i]!.br.toNat < xs.length ∧ 0 ≤ xs[i]!.br := by
  have := refB_in (stand_parts (stands_at h i hi)).2.2.2.1
  unfold InC at this
  omega
theorem tailT_size {xs : List Ent} (h : standsB xs = true) (i : Nat) (hi : i < xs.length) (out : ByteArray) : (tailT xs xs[i]! out).size ≤ out.size + 31 := by
  unfold tailT
  split
  · rename_i hs
    have := name_size h _ (see_place h i hi hs).1
    rw [ByteArray.size_append, ByteArray.size_append]
    show out.size + (5 + _) ≤ _
    omega
  · split
    · rename_i hs
      have := name_size h _ (br_place h i hi hs).1
      rw [ByteArray.size_append, ByteArray.size_append]
      show out.size + (7 + _) ≤ _
      omega
    · omega
theorem textTo_size {xs : List Ent} (h : standsB xs = true) : ∀ k, k ≤ xs.length → (textTo xs k).size ≤ k * 60
  | 0, _ => Nat.le_refl _
  | k + 1, hk => by
    have h1 := textTo_size h k (by omega)
    have h2 := tailT_size h k (by omega) (textTo xs k ++ xs[k]!.nm)
    have h3 := name_size h k (by omega)
    rw [textTo, ByteArray.size_append]
    rw [ByteArray.size_append] at h2
    show _ + 1 ≤ _
    omega
theorem textTo_see {xs : List Ent} (k n : Nat) (hk : k < xs.length) (hn : n < xs.length) (hs : xs[k].see = n) : textTo xs (k + 1) = (textTo xs k ++ xs[k].nm) ++ (seeS ++ xs[n].nm) ++ lineS := by
  rw [textTo, getBang xs k hk, tailT, if_pos (by rw [hs]; omega), hs, Int.toNat_natCast, getBang xs n hn]
theorem textTo_below {xs : List Ent} (k n : Nat) (hk : k < xs.length) (hn : n < xs.length) (h1 : xs[k].see = -1) (hs : xs[k].br = n) : textTo xs (k + 1) = (textTo xs k ++ xs[k].nm) ++ (belowS ++ xs[n].nm) ++ lineS := by
  rw [textTo, getBang xs k hk, tailT, if_neg (by rw [h1]; simp), if_pos (by rw [hs]; omega), hs, Int.toNat_natCast, getBang xs n hn]
theorem textTo_none {xs : List Ent} (k : Nat) (hk : k < xs.length) (h1 : xs[k].see = -1) (hs : xs[k].br = -1) : textTo xs (k + 1) = (textTo xs k ++ xs[k].nm) ++ lineS := by
  rw [textTo, getBang xs k hk, tailT, if_neg (by rw [h1]; simp), if_neg (by rw [hs]; simp)]
theorem no_over {a b : ByteArray} (h : a.size + b.size ≤ 10000) : ¬ (9223372036854775807 < a.size + b.size) := by omega
end Go.Proofs.YtdiblmlcapommaaGreatDoor
set_option linter.unusedVariables false
set_option linter.unusedSimpArgs false
namespace Go.Proofs.YtdiblmlcapommaaGreatDoor
open Go.RowKit
theorem app_data (a b : ByteArray) : (a ++ b).data.toList = a.data.toList ++ b.data.toList := by simp
theorem app_assoc (a b c : ByteArray) : (a ++ b) ++ c = a ++ (b ++ c) := by
  apply ext_ba
  rw [app_data, app_data, app_data, app_data, List.append_assoc]
/-- Does a byte stand in a text? -/
def hasC (c : UInt8) (s : ByteArray) : Bool := s.data.toList.any (· == c)
theorem hasC_at {c : UInt8} {s : ByteArray} (h : hasC c s = false) (j : Nat) : s.data.toList[j]? ≠ some c := by
  intro hj
  unfold hasC at h
  rw [List.any_eq_false] at h
  have := h c (List.mem_of_getElem? hj)
  simp at this
theorem hasC_app (c : UInt8) (a b : ByteArray) : hasC c (a ++ b) = (hasC c a || hasC c b) := by
  unfold hasC
  rw [app_data, List.any_append]
/-- A text without the byte is one piece. -/
theorem splitC_none {c : UInt8} {s : ByteArray} (h : hasC c s = false) : splitC c s = [s] := by
  have := splitC_end c s 0 (fun j _ _ => hasC_at h j)
  rwa [extr_all] at this
/-- What stands ahead of the first such byte is the first piece. -/
theorem splitC_app {c : UInt8} {a : ByteArray} (h : hasC c a = false) (t : ByteArray) : splitC c (a ++ (⟨#[c]⟩ ++ t)) = a :: splitC c t := by
  have hl : (a ++ (⟨#[c]⟩ ++ t)).data.toList = a.data.toList ++ (c :: t.data.toList) := by
    rw [app_data, app_data]
    rfl
  have hz : (a ++ (⟨#[c]⟩ ++ t)).size = a.size + (1 + t.size) := by
    rw [ByteArray.size_append, ByteArray.size_append]
    rfl
  have hsz : a.data.toList.length = a.size := rfl
  have := splitC_hit c (a ++ (⟨#[c]⟩ ++ t)) 0 a.size (Nat.zero_le _) (by omega) (by rw [hl, List.getElem?_append_right (by omega), hsz, Nat.sub_self]; rfl) (by
    intro j _ hj
    rw [hl, List.getElem?_append_left (by omega)]
    exact hasC_at h j)
  have h1 : (a ++ (⟨#[c]⟩ ++ t)).extract 0 a.size = a := by
    apply ext_ba
    rw [extr_data, hl, List.drop_zero, Nat.sub_zero, List.take_append_of_le_length (by omega)]
    exact List.take_of_length_le (by omega)
  have h2 : (a ++ (⟨#[c]⟩ ++ t)).extract (a.size + 1) (a ++ (⟨#[c]⟩ ++ t)).size = t := by
    apply ext_ba
    rw [extr_data, hl, List.drop_append, List.drop_eq_nil_of_le (by omega), List.nil_append, hsz, show a.size + 1 - a.size = 1 by omega, List.drop_succ_cons, List.drop_zero]
    refine List.take_of_length_le ?_
    show t.size ≤ _
    omega
  rw [extr_all, h1, h2] at this
  exact this
/-- Every byte of a text is the parting one, or stands in a piece. -/
theorem splitC_mem (c : UInt8) : ∀ (n : Nat) (s : ByteArray), s.size ≤ n → ∀ q ∈ s.data.toList, q = c ∨ ∃ p ∈ splitC c s, q ∈ p.data.toList := by
  intro n
  induction n with
  | zero =>
    intro s hs q hq
    have : s.data.toList.length = 0 := by
      show s.size = 0
      omega
    rw [List.length_eq_zero_iff.1 this] at hq
    exact absurd hq (by simp)
  | succ n ih =>
    intro s hs q hq
    by_cases hc : hasC c s = true
    · have hcm : c ∈ s.data.toList := by
        unfold hasC at hc
        rw [List.any_eq_true] at hc
        obtain ⟨y, h1, h2⟩ := hc
        rw [beq_iff_eq] at h2
        exact h2 ▸ h1
      obtain ⟨as1, bs, h1, h2⟩ := List.append_of_mem hcm |> fun ⟨as1, bs, h⟩ => (by
        obtain ⟨as1, bs, h, hn⟩ := List.eq_append_cons_of_mem hcm
        exact ⟨as1, bs, h, hn⟩ : ∃ as1 bs, s.data.toList = as1 ++ c :: bs ∧ c ∉ as1)
      have he : s = (⟨as1.toArray⟩ : ByteArray) ++ (⟨#[c]⟩ ++ ⟨bs.toArray⟩) := by
        apply ext_ba
        rw [app_data, app_data, h1]
        rfl
      have hno : hasC c ⟨as1.toArray⟩ = false := by
        unfold hasC
        rw [List.any_eq_false]
        intro x hx hxc
        rw [beq_iff_eq] at hxc
        exact h2 (hxc ▸ hx)
      have hlen : s.size = as1.length + (1 + bs.length) := by
        show s.data.toList.length = _
        rw [h1]
        simp
        omega
      have hsp : splitC c s = ⟨as1.toArray⟩ :: splitC c ⟨bs.toArray⟩ := by
        rw [he, splitC_app hno]
      rw [hsp]
      rw [h1] at hq
      rcases List.mem_append.1 hq with ha | hb
      · exact Or.inr ⟨_, List.mem_cons_self, ha⟩
      · rcases List.mem_cons.1 hb with hb | hb
        · exact Or.inl hb
        · rcases ih ⟨bs.toArray⟩ (by show bs.length ≤ n; omega) q hb with h | ⟨p, h3, h4⟩
          · exact Or.inl h
          · exact Or.inr ⟨p, List.mem_cons_of_mem _ h3, h4⟩
    · rw [splitC_none (by simpa using hc)]
      exact Or.inr ⟨s, by simp, hq⟩
/-- Pieces with the byte behind each. -/
def joinL (c : UInt8) : List ByteArray → ByteArray
  | [] => ⟨#[]⟩
  | a :: r => a ++ (⟨#[c]⟩ ++ joinL c r)
/-- The same, without the last byte. -/
def bodyL (c : UInt8) : List ByteArray → ByteArray
  | [] => ⟨#[]⟩
  | [a] => a
  | a :: b :: r => a ++ (⟨#[c]⟩ ++ bodyL c (b :: r))
theorem empty_app (a : ByteArray) : a ++ (⟨#[]⟩ : ByteArray) = a := by
  apply ext_ba
  rw [app_data]
  simp
theorem joinL_snoc (c : UInt8) (a : ByteArray) : ∀ ls : List ByteArray, joinL c (ls ++ [a]) = joinL c ls ++ (a ++ ⟨#[c]⟩)
  | [] => by
    show a ++ (⟨#[c]⟩ ++ ⟨#[]⟩) = ⟨#[]⟩ ++ (a ++ ⟨#[c]⟩)
    rw [empty_app]
    apply ext_ba
    rw [app_data (⟨#[]⟩ : ByteArray)]
    rfl
  | b :: r => by
    show b ++ (⟨#[c]⟩ ++ joinL c (r ++ [a])) = (b ++ (⟨#[c]⟩ ++ joinL c r)) ++ _
    rw [joinL_snoc c a r, app_assoc, app_assoc]
theorem splitC_joinL {c : UInt8} : ∀ {ls : List ByteArray}, (∀ l ∈ ls, hasC c l = false) → splitC c (joinL c ls) = ls ++ [⟨#[]⟩]
  | [], _ => splitC_none rfl
  | a :: r, h => by
    show splitC c (a ++ (⟨#[c]⟩ ++ joinL c r)) = _
    rw [splitC_app (h a List.mem_cons_self), splitC_joinL (fun l hl => h l (List.mem_cons_of_mem _ hl))]
    rfl
theorem splitC_bodyL {c : UInt8} : ∀ {ls : List ByteArray}, ls ≠ [] → (∀ l ∈ ls, hasC c l = false) → splitC c (bodyL c ls) = ls
  | [], hn, _ => absurd rfl hn
  | [a], _, h => splitC_none (h a List.mem_cons_self)
  | a :: b :: r, _, h => by
    show splitC c (a ++ (⟨#[c]⟩ ++ bodyL c (b :: r))) = _
    rw [splitC_app (h a List.mem_cons_self), splitC_bodyL (by simp) (fun l hl => h l (List.mem_cons_of_mem _ hl))]
theorem joinL_body (c : UInt8) : ∀ {ls : List ByteArray}, ls ≠ [] → joinL c ls = bodyL c ls ++ ⟨#[c]⟩
  | [], hn => absurd rfl hn
  | [a], _ => by
    show a ++ (⟨#[c]⟩ ++ ⟨#[]⟩) = a ++ _
    rw [empty_app]
  | a :: b :: r, _ => by
    show a ++ (⟨#[c]⟩ ++ joinL c (b :: r)) = (a ++ (⟨#[c]⟩ ++ bodyL c (b :: r))) ++ _
    rw [joinL_body c (by simp), app_assoc, app_assoc]
end Go.Proofs.YtdiblmlcapommaaGreatDoor
