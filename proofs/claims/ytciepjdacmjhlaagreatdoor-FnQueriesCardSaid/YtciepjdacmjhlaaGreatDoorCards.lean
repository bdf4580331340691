/-
  DERIVED. GIVEN WITH THE SEED: THE CARDS: each row of YtciepjdacmjhlaaGreatDoorRows.lean that lists a variable, with what it lists TIED to the program's text (the seventh form; the later family's looks); each row that meets fmt, with fmt's text TOLD by the authors' own Lean function (tested against real Go, not proved from fmt's source: count such statements apart). THE CARD IS WHAT COUNTS. Prove the row's statement (the work); the ties are given (YtciepjdacmjhlaaGreatDoorTie.lean); close each card by the builder's one call (the guide's Derived/Test/ToyasCard.lean, 'card_holds'). Laid BY PROGRAM, IN A SANDBOX (cutbox-door.mjs). By AI agents, Wed Nov 11 2026. No macro, syntax, notation, axiom, sorry.
-/
import Derived.Test.YtciepjdacmjhlaaGreatDoorRows
import GoSem.ClaimSeven
namespace Go.Proofs.YtciepjdacmjhlaaGreatDoor
namespace Rows

/-- THE TIED CARD OF 'laws.FnExactReadScheme'. -/
def fnExactReadSchemeCard : Claim7 := { stood := { row := fnExactReadSchemeRow, standIns := [], harness := (true, "931d0f09e785b040c8f5d7b4542b683b39933ccb3562c85d1f335ac03e692f26"), looks := true }, kinds := [], alts := [], laidByText := true, laidKinds := [.data, .data, .data, .data, .sentinel, .sentinel, .widerDeep, .pinned], laidTests := true, laidLooks := .later }
def FnExactReadSchemeCardSaid : Prop := Claim7.holds Tryz.pinned (.plain (OpenSpec.ofChange fnExactReadSchemeSpec)) fnExactReadSchemeCard

/-- THE TIED CARD OF 'laws.FnQueries'. -/
def fnQueriesCard : Claim7 := { stood := { row := fnQueriesRow, standIns := [], harness := (true, "931d0f09e785b040c8f5d7b4542b683b39933ccb3562c85d1f335ac03e692f26"), looks := true }, kinds := [], alts := [], laidByText := true, laidKinds := [.data, .pinned], laidTests := true, laidLooks := .later }
def FnQueriesCardSaid : Prop := Claim7.holds Tryz.pinned (.plain (OpenSpec.ofChange fnQueriesSpec)) fnQueriesCard

/-- THE SECOND FORM's CARD OF 'laws.FnExactReadScheme'. -/
def fnExactReadSchemeUptoCard : Claim7 := { stood := { row := fnExactReadSchemeUptoRow, standIns := [], harness := (true, "931d0f09e785b040c8f5d7b4542b683b39933ccb3562c85d1f335ac03e692f26"), looks := true }, kinds := [], alts := [], laidByText := true, laidKinds := [.data, .data, .data, .data, .sentinel, .sentinel, .widerDeep, .pinned], laidTests := true, laidLooks := .later }
def FnExactReadSchemeUptoCardSaid : Prop := Claim7.holds Tryz.pinned (.plain (OpenSpec.upto fnExactReadSchemeSpec)) fnExactReadSchemeUptoCard

/-- THE SECOND FORM's CARD OF 'laws.FnQueries'. -/
def fnQueriesUptoCard : Claim7 := { stood := { row := fnQueriesUptoRow, standIns := [], harness := (true, "931d0f09e785b040c8f5d7b4542b683b39933ccb3562c85d1f335ac03e692f26"), looks := true }, kinds := [], alts := [], laidByText := true, laidKinds := [.data, .pinned], laidTests := true, laidLooks := .later }
def FnQueriesUptoCardSaid : Prop := Claim7.holds Tryz.pinned (.plain (OpenSpec.upto fnQueriesSpec)) fnQueriesUptoCard
end Rows
end Go.Proofs.YtciepjdacmjhlaaGreatDoor
