/-
  The library's tables and errors, out of what the listed variables read as.
-/
import Derived.Test.YthkphhacmneeiaaGreatDoorJ4
import Derived.LaidLaws
import Derived.LaidMore
import Derived.Lay
set_option linter.unusedVariables false
set_option maxRecDepth 100000
namespace Go.Proofs.YthkphhacmneeiaaGreatDoor
open Go.RowKit
theorem laid_at {P : Program} {w : World} : ∀ {L : List (String × DataW Unit)} {ps : List MemPlace}, DataW.LaidVars P w L ps → ∀ (n : String) (d : DataW Unit), (n, d) ∈ L → ∃ g t cs fuel p, P.globalNamed n = some g ∧ (P.globals[g]?).map (·.type) = some t ∧ w.var? P n = some cs ∧ DataW.trod (fun _ => ()) P w 0 (fun _ => true) false fuel t cs.toList = some (d, p)
  | [], _, _, _, _, hm => by cases hm
  | x :: L, ps, h, n, d, hm => by
    obtain ⟨g, t, cs, fuel, p, q, h1, h2, h3, h4, h5, _⟩ := h
    rcases List.mem_cons.1 hm with rfl | hm
    · exact ⟨g, t, cs, fuel, p, h1, h2, h3, h4⟩
    · exact laid_at h5 n d hm
theorem err_laid {W : World} {n : String} {g : Nat} {nm : String} {d : DataW Unit} {t : TypeId} {cs : Array Value} {fuel : Nat} {p : List MemPlace} (ht : t = 81)
    (h3 : W.var? Tryz.prog n = some cs) (h4 : DataW.trod (fun _ => ()) Tryz.prog W 0 (fun _ => true) false fuel t cs.toList = some (.iface nm d, p)) : ∃ tp p, W.var? Tryz.prog n = some #[.iface tp p] := by
  subst ht
  obtain ⟨_, u, v, e, _⟩ := iface_of_trod Tryz.underlying81 h4
  refine ⟨u, v, ?_⟩
  rw [h3]
  congr 1
  exact Array.toList_inj.1 (by rw [e])
theorem env_of {L : List (String × DataW Unit)} {W : World} {n1 n2 : String} {d1 d2 : DataW Unit} (h1 : ("internal/strconv.uint64pow10", Lib.tabData .u64 Lib.pow10Tab) ∈ L) (h2 : ("strconv.ErrSyntax", .iface n1 d1) ∈ L) (h3 : ("strconv.ErrRange", .iface n2 d2) ∈ L)
    (h : laidMet Tryz.prog L W) : Env W := by
  obtain ⟨ps, hl, _⟩ := h
  refine ⟨?_, ?_, ?_⟩
  · obtain ⟨g, t, cs, fuel, p, a1, a2, a3, a4⟩ := laid_at hl _ _ h1
    obtain rfl := Option.some.inj (gTab.symm.trans a1)
    obtain rfl := Option.some.inj ((show (Tryz.prog.globals[3]?).map (·.type) = some 132 by kernel_rfl).symm.trans a2)
    unfold Lib.TabIs
    rw [a3, ← Lib.cells_of_tab Tryz.underlying132 Tryz.underlying24 (by kernel_rfl) (by kernel_rfl) a4]
  · obtain ⟨g, t, cs, fuel, p, a1, a2, a3, a4⟩ := laid_at hl _ _ h2
    obtain rfl := Option.some.inj (gSyn.symm.trans a1)
    exact err_laid (g := 0) (Option.some.inj ((show (Tryz.prog.globals[1]?).map (·.type) = some 81 by kernel_rfl).symm.trans a2)).symm a3 a4
  · obtain ⟨g, t, cs, fuel, p, a1, a2, a3, a4⟩ := laid_at hl _ _ h3
    obtain rfl := Option.some.inj (gRan.symm.trans a1)
    exact err_laid (g := 0) (Option.some.inj ((show (Tryz.prog.globals[2]?).map (·.type) = some 81 by kernel_rfl).symm.trans a2)).symm a3 a4
end Go.Proofs.YthkphhacmneeiaaGreatDoor
