/-
  DERIVED. GIVEN WITH THE SEED: THE CARDS: each row of YtdiblmlcapommaaGreatDoorRows.lean that lists a variable, with what it lists TIED to the program's text (the seventh form; the later family's looks); each row that meets fmt, with fmt's text TOLD by the authors' own Lean function (tested against real Go, not proved from fmt's source: count such statements apart). THE CARD IS WHAT COUNTS. Prove the row's statement (the work); the ties are given (YtdiblmlcapommaaGreatDoorTie.lean); close each card by the builder's one call (the guide's Derived/Test/ToyasCard.lean, 'card_holds'). Laid BY PROGRAM, IN A SANDBOX (cutbox-door.mjs). By AI agents, Wed Nov 11 2026. No macro, syntax, notation, axiom, sorry.
-/
import Derived.Test.YtdiblmlcapommaaGreatDoorRows
import GoSem.ClaimSeven
namespace Go.Proofs.YtdiblmlcapommaaGreatDoor
namespace Rows

/-- THE TIED CARD OF 'laws.FnExactReadScheme'. -/
def fnExactReadSchemeCard : Claim7 := { stood := { row := fnExactReadSchemeRow, standIns := [], harness := (true, "69764fc61f292e5865d15ad570e21b4df9836a5331abe372d2e8057f90cdf503"), looks := true }, kinds := [], alts := [], laidByText := true, laidKinds := [.data, .data, .data, .data, .sentinel, .sentinel, .widerDeep, .pinned], laidTests := true, laidLooks := .later }
def FnExactReadSchemeCardSaid : Prop := Claim7.holds Tryz.pinned (.plain (OpenSpec.ofChange fnExactReadSchemeSpec)) fnExactReadSchemeCard

/-- THE SECOND FORM's CARD OF 'laws.FnExactReadScheme'. -/
def fnExactReadSchemeUptoCard : Claim7 := { stood := { row := fnExactReadSchemeUptoRow, standIns := [], harness := (true, "69764fc61f292e5865d15ad570e21b4df9836a5331abe372d2e8057f90cdf503"), looks := true }, kinds := [], alts := [], laidByText := true, laidKinds := [.data, .data, .data, .data, .sentinel, .sentinel, .widerDeep, .pinned], laidTests := true, laidLooks := .later }
def FnExactReadSchemeUptoCardSaid : Prop := Claim7.holds Tryz.pinned (.plain (OpenSpec.upto fnExactReadSchemeSpec)) fnExactReadSchemeUptoCard
end Rows
end Go.Proofs.YtdiblmlcapommaaGreatDoor
