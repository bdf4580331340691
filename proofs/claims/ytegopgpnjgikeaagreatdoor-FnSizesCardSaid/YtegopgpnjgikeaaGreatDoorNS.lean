/-
  Slices of slices of texts: how they lie, and contracts of the laws' functions on them.
-/
import Derived.Test.YtegopgpnjgikeaaGreatDoorL8
import Derived.Test.YtegopgpnjgikeaaGreatDoorWN
import Derived.Test.YtegopgpnjgikeaaGreatDoorMA
import Derived.Test.YtegopgpnjgikeaaGreatDoorF2
set_option linter.unusedVariables false
set_option linter.unusedSimpArgs false
set_option maxRecDepth 100000
namespace Go.Proofs.YtegopgpnjgikeaaGreatDoor
open Go.RowKit
/-- A slice as it lies in a cell. -/
structure SV where
  A : Option Addr
  n : Nat
  c : Nat
instance : Inhabited SV := ⟨⟨none, 0, 0⟩⟩
def SV.z : SV := ⟨none, 0, 0⟩
def encSV : Enc SV where
  enc x := [.slice x.A x.n x.c]
  sz := 1
  len _ := rfl
  one m u hu := by
    simp only [List.mem_cons, List.not_mem_nil, or_false] at hu
    subst hu
    rfl
  pos := by decide
theorem Rd.sv {w : World} {b off : Nat} {xs : List SV} (h : Rd encSV w (some ⟨b, off, none⟩) xs) (k : Nat) (hk : k < xs.length) :
    w.cell? ⟨b, off + k, none⟩ = some (.slice xs[k].A xs[k].n xs[k].c) := by
  obtain ⟨b', off', e1, hlt, hc⟩ := h k hk
  simp only [Option.some.injEq, Addr.mk.injEq, and_true] at e1
  obtain ⟨rfl, rfl⟩ := e1
  have := hc 0 _ rfl
  simpa [encSV] using this
/-- A slice of slices of texts, as it is read. -/
def RdL (w : World) (A : Option Addr) (lot : List (List ByteArray)) : Prop :=
  ∃ hs : List SV, hs.length = lot.length ∧ Rd encSV w A hs ∧ ∀ k (h : k < lot.length) (h2 : k < hs.length), hs[k].n = lot[k].length ∧ Rd encStr w hs[k].A lot[k]
theorem RdL.ext {w w' : World} {A : Option Addr} {lot : List (List ByteArray)} (h : RdL w A lot) (hb : Ext w w') : RdL w' A lot := by
  obtain ⟨hs, h1, h2, h3⟩ := h
  exact ⟨hs, h1, h2.ext hb, fun k a b => ⟨(h3 k a b).1, (h3 k a b).2.ext hb⟩⟩
theorem RdL.block {w : World} {A : Option Addr} {lot : List (List ByteArray)} (h : RdL w A lot) (k : Nat) (hk : k < lot.length) : ∃ b off, A = some ⟨b, off, none⟩ ∧ b < w.heap.size := by
  obtain ⟨hs, h1, h2, h3⟩ := h
  obtain ⟨b, off, e, hl, _⟩ := h2 k (by omega)
  exact ⟨b, off, e, hl⟩
theorem RdL.at {w : World} {b off : Nat} {lot : List (List ByteArray)} (h : RdL w (some ⟨b, off, none⟩) lot) (k : Nat) (hk : k < lot.length) :
    ∃ B c, w.cell? ⟨b, off + k, none⟩ = some (.slice B lot[k].length c) ∧ Rd encStr w B lot[k] := by
  obtain ⟨hs, h1, h2, h3⟩ := h
  have hk2 : k < hs.length := by omega
  obtain ⟨e, hr⟩ := h3 k hk hk2
  exact ⟨_, _, by rw [h2.sv k hk2, e], hr⟩
/-- How many texts. -/
def tot (lot : List (List ByteArray)) : Nat := (lot.map List.length).sum
theorem tot_take (lot : List (List ByteArray)) (k : Nat) (h : k < lot.length) : tot (lot.take (k + 1)) = tot (lot.take k) + lot[k].length := by
  unfold tot
  rw [List.take_succ_eq_append_getElem h, List.map_append, List.sum_append]
  simp
/-- A slice of slices of texts of the call's own, in blocks from lo up to hi. -/
structure OwL (T U : TypeId) (w : World) (lo hi : Nat) (v : Value) (lot : List (List ByteArray)) (hs : List SV) : Prop where
  len : hs.length = lot.length
  out : Ow encSV U w lo v hs
  outHi : ∀ b, v.ownBlock = some b → b < hi
  inn : ∀ k (h : k < lot.length) (h2 : k < hs.length), hs[k].n = lot[k].length ∧ Ow encStr T w lo (.slice hs[k].A hs[k].n hs[k].c) lot[k] ∧ (∀ b, (Value.slice hs[k].A hs[k].n hs[k].c).ownBlock = some b → b < hi) ∧ Apart (.slice hs[k].A hs[k].n hs[k].c) v ∧ Apart v (.slice hs[k].A hs[k].n hs[k].c)
  far : ∀ j k (h : j < hs.length) (h2 : k < hs.length), j ≠ k → Apart (.slice hs[j].A hs[j].n hs[j].c) (.slice hs[k].A hs[k].n hs[k].c)
theorem OwL.ext {T U : TypeId} {w w' : World} {lo hi : Nat} {v : Value} {lot : List (List ByteArray)} {hs : List SV} (h : OwL T U w lo hi v lot hs) (hb : Ext w w') : OwL T U w' lo hi v lot hs :=
  ⟨h.len, h.out.ext hb, h.outHi, fun k a b => ⟨(h.inn k a b).1, (h.inn k a b).2.1.ext hb, (h.inn k a b).2.2⟩, h.far⟩
theorem OwL.slice {T U : TypeId} {w : World} {lo hi : Nat} {v : Value} {lot : List (List ByteArray)} {hs : List SV} (h : OwL T U w lo hi v lot hs) : ∃ A cap, v = .slice A lot.length cap ∧ lot.length ≤ cap ∧ RdL w A lot := by
  obtain ⟨A, cap, h1, h2, h3⟩ := h.out.slice
  rw [h.len] at h1 h2
  exact ⟨A, cap, h1, h2, hs, h.len, h3, fun k a b => ⟨(h.inn k a b).1, (h.inn k a b).2.1.rdA⟩⟩
theorem OwL.rdA {T U : TypeId} {w : World} {lo hi n cap : Nat} {A : Option Addr} {lot : List (List ByteArray)} {hs : List SV} (h : OwL T U w lo hi (.slice A n cap) lot hs) : RdL w A lot := by
  obtain ⟨A', c', h1, _, h3⟩ := h.slice
  simp only [Value.slice.injEq] at h1
  obtain ⟨rfl, _⟩ := h1
  exact h3
theorem info_strS : (Tryz.prog.info? 34).map (fun i => (i.zero, i.size, i.bytes)) = some (some (.slice none 0 0), encSV.sz, 24) := by kernel_rfl
