/-
  DERIVED. GIVEN WITH THE SEED: THE CARDS: each row of YtegopgpnjgikeaaDoorRows.lean that lists a variable, with what it lists TIED to the program's text (the seventh form; the later family's looks); each row that meets fmt, with fmt's text TOLD by the authors' own Lean function (tested against real Go, not proved from fmt's source: count such statements apart). THE CARD IS WHAT COUNTS. Prove the row's statement (the work); the ties are given (YtegopgpnjgikeaaDoorTie.lean); close each card by the builder's one call (the guide's Derived/Test/ToyasCard.lean, 'card_holds'). Laid BY PROGRAM, IN A SANDBOX (cutbox-door.mjs). By AI agents, Wed Nov 11 2026. No macro, syntax, notation, axiom, sorry.
-/
import Derived.Test.YtegopgpnjgikeaaDoorRows
import GoSem.ClaimSeven
namespace Go.Proofs.YtegopgpnjgikeaaDoor
namespace Rows

/-- THE TIED CARD OF 'laws.FnExplained'. -/
def fnExplainedCard : Claim7 := { stood := { row := fnExplainedRow, standIns := [], harness := (true, "ec6246df9dbd0692c0e3c8ed3133b6df3048ea56fd698ebd9d297380fae6e420"), looks := false }, kinds := [], alts := [], laidByText := true, laidKinds := [.data, .pinned], laidTests := true, laidLooks := .later }
def FnExplainedCardSaid : Prop := Claim7.holds Tryd.pinned (.plain (OpenSpec.ofChange fnExplainedSpec)) fnExplainedCard

/-- THE TIED CARD OF 'laws.FnTold'. -/
def fnToldCard : Claim7 := { stood := { row := fnToldRow, standIns := [], harness := (true, "ec6246df9dbd0692c0e3c8ed3133b6df3048ea56fd698ebd9d297380fae6e420"), looks := false }, kinds := [], alts := [], laidByText := true, laidKinds := [.data, .pinned], laidTests := true, laidLooks := .later }
def FnToldCardSaid : Prop := Claim7.holds Tryd.pinned (.plain (OpenSpec.ofChange fnToldSpec)) fnToldCard

/-- THE SECOND FORM's CARD OF 'laws.FnExplained'. -/
def fnExplainedUptoCard : Claim7 := { stood := { row := fnExplainedUptoRow, standIns := [], harness := (true, "ec6246df9dbd0692c0e3c8ed3133b6df3048ea56fd698ebd9d297380fae6e420"), looks := false }, kinds := [], alts := [], laidByText := true, laidKinds := [.data, .pinned], laidTests := true, laidLooks := .later }
def FnExplainedUptoCardSaid : Prop := Claim7.holds Tryd.pinned (.plain (OpenSpec.upto fnExplainedSpec)) fnExplainedUptoCard

/-- THE SECOND FORM's CARD OF 'laws.FnTold'. -/
def fnToldUptoCard : Claim7 := { stood := { row := fnToldUptoRow, standIns := [], harness := (true, "ec6246df9dbd0692c0e3c8ed3133b6df3048ea56fd698ebd9d297380fae6e420"), looks := false }, kinds := [], alts := [], laidByText := true, laidKinds := [.data, .pinned], laidTests := true, laidLooks := .later }
def FnToldUptoCardSaid : Prop := Claim7.holds Tryd.pinned (.plain (OpenSpec.upto fnToldSpec)) fnToldUptoCard
end Rows
end Go.Proofs.YtegopgpnjgikeaaDoor
