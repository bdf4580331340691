/-
  DERIVED. GIVEN WITH THE SEED: THE CARDS: each row of YtdijgdamnibbaaaDoorRows.lean that lists a variable, with what it lists TIED to the program's text (the seventh form; the later family's looks); each row that meets fmt, with fmt's text TOLD by the authors' own Lean function (tested against real Go, not proved from fmt's source: count such statements apart). THE CARD IS WHAT COUNTS. Prove the row's statement (the work); the ties are given (YtdijgdamnibbaaaDoorTie.lean); close each card by the builder's one call (the guide's Derived/Test/ToyasCard.lean, 'card_holds'). Laid BY PROGRAM, IN A SANDBOX (cutbox-door.mjs). By AI agents, Wed Nov 11 2026. No macro, syntax, notation, axiom, sorry.
-/
import Derived.Test.YtdijgdamnibbaaaDoorRows
import GoSem.ClaimSeven
namespace Go.Proofs.YtdijgdamnibbaaaDoor
namespace Rows

/-- THE TIED CARD OF 'laws.FnExactLeastDistance'. -/
def fnExactLeastDistanceCard : Claim7 := { stood := { row := fnExactLeastDistanceRow, standIns := [], harness := (true, "e84b1d15196224cc5576800dc6e1cc3c9a120eced53c4cc35e5e8545e07a431f"), looks := false }, kinds := [], alts := [], laidByText := true, laidKinds := [.data, .pinned], laidTests := true, laidLooks := .later }
def FnExactLeastDistanceCardSaid : Prop := Claim7.holds Tryd.pinned (.plain (OpenSpec.ofChange fnExactLeastDistanceSpec)) fnExactLeastDistanceCard

/-- THE SECOND FORM's CARD OF 'laws.FnExactLeastDistance'. -/
def fnExactLeastDistanceUptoCard : Claim7 := { stood := { row := fnExactLeastDistanceUptoRow, standIns := [], harness := (true, "e84b1d15196224cc5576800dc6e1cc3c9a120eced53c4cc35e5e8545e07a431f"), looks := false }, kinds := [], alts := [], laidByText := true, laidKinds := [.data, .pinned], laidTests := true, laidLooks := .later }
def FnExactLeastDistanceUptoCardSaid : Prop := Claim7.holds Tryd.pinned (.plain (OpenSpec.upto fnExactLeastDistanceSpec)) fnExactLeastDistanceUptoCard
end Rows
end Go.Proofs.YtdijgdamnibbaaaDoor
