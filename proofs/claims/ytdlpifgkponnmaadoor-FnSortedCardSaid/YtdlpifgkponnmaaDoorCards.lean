/-
  DERIVED. GIVEN WITH THE SEED: THE CARDS: each row of YtdlpifgkponnmaaDoorRows.lean that lists a variable, with what it lists TIED to the program's text (the seventh form; the later family's looks); each row that meets fmt, with fmt's text TOLD by the authors' own Lean function (tested against real Go, not proved from fmt's source: count such statements apart). THE CARD IS WHAT COUNTS. Prove the row's statement (the work); the ties are given (YtdlpifgkponnmaaDoorTie.lean); close each card by the builder's one call (the guide's Derived/Test/ToyasCard.lean, 'card_holds'). Laid BY PROGRAM, IN A SANDBOX (cutbox-door.mjs). By AI agents, Wed Nov 11 2026. No macro, syntax, notation, axiom, sorry.
-/
import Derived.Test.YtdlpifgkponnmaaDoorRows
import GoSem.ClaimSeven
namespace Go.Proofs.YtdlpifgkponnmaaDoor
namespace Rows

/-- THE TIED CARD OF 'laws.FnExactSortDeck'. -/
def fnExactSortDeckCard : Claim7 := { stood := { row := fnExactSortDeckRow, standIns := [], harness := (true, "66ca68d5b9a89af28a1a3ae1cbc86d7e84ffd5cc4b8bdef5adfdce7f66173cf5"), looks := false }, kinds := [], alts := [], laidByText := true, laidKinds := [.data, .pinned], laidTests := true, laidLooks := .later }
def FnExactSortDeckCardSaid : Prop := Claim7.holds Tryd.pinned (.plain (OpenSpec.ofChange fnExactSortDeckSpec)) fnExactSortDeckCard

/-- THE TIED CARD OF 'laws.FnExactFirstFrom'. -/
def fnExactFirstFromCard : Claim7 := { stood := { row := fnExactFirstFromRow, standIns := [], harness := (true, "66ca68d5b9a89af28a1a3ae1cbc86d7e84ffd5cc4b8bdef5adfdce7f66173cf5"), looks := false }, kinds := [], alts := [], laidByText := true, laidKinds := [.data, .pinned], laidTests := true, laidLooks := .later }
def FnExactFirstFromCardSaid : Prop := Claim7.holds Tryd.pinned (.plain (OpenSpec.ofChange fnExactFirstFromSpec)) fnExactFirstFromCard

/-- THE TIED CARD OF 'laws.FnExactMergeDecks'. -/
def fnExactMergeDecksCard : Claim7 := { stood := { row := fnExactMergeDecksRow, standIns := [], harness := (true, "66ca68d5b9a89af28a1a3ae1cbc86d7e84ffd5cc4b8bdef5adfdce7f66173cf5"), looks := false }, kinds := [], alts := [], laidByText := true, laidKinds := [.data, .pinned], laidTests := true, laidLooks := .later }
def FnExactMergeDecksCardSaid : Prop := Claim7.holds Tryd.pinned (.plain (OpenSpec.ofChange fnExactMergeDecksSpec)) fnExactMergeDecksCard

/-- THE TIED CARD OF 'laws.FnSorted'. -/
def fnSortedCard : Claim7 := { stood := { row := fnSortedRow, standIns := [], harness := (true, "66ca68d5b9a89af28a1a3ae1cbc86d7e84ffd5cc4b8bdef5adfdce7f66173cf5"), looks := false }, kinds := [], alts := [], laidByText := true, laidKinds := [.data, .pinned], laidTests := true, laidLooks := .later }
def FnSortedCardSaid : Prop := Claim7.holds Tryd.pinned (.plain (OpenSpec.ofChange fnSortedSpec)) fnSortedCard

/-- THE SECOND FORM's CARD OF 'laws.FnExactSortDeck'. -/
def fnExactSortDeckUptoCard : Claim7 := { stood := { row := fnExactSortDeckUptoRow, standIns := [], harness := (true, "66ca68d5b9a89af28a1a3ae1cbc86d7e84ffd5cc4b8bdef5adfdce7f66173cf5"), looks := false }, kinds := [], alts := [], laidByText := true, laidKinds := [.data, .pinned], laidTests := true, laidLooks := .later }
def FnExactSortDeckUptoCardSaid : Prop := Claim7.holds Tryd.pinned (.plain (OpenSpec.upto fnExactSortDeckSpec)) fnExactSortDeckUptoCard

/-- THE SECOND FORM's CARD OF 'laws.FnExactFirstFrom'. -/
def fnExactFirstFromUptoCard : Claim7 := { stood := { row := fnExactFirstFromUptoRow, standIns := [], harness := (true, "66ca68d5b9a89af28a1a3ae1cbc86d7e84ffd5cc4b8bdef5adfdce7f66173cf5"), looks := false }, kinds := [], alts := [], laidByText := true, laidKinds := [.data, .pinned], laidTests := true, laidLooks := .later }
def FnExactFirstFromUptoCardSaid : Prop := Claim7.holds Tryd.pinned (.plain (OpenSpec.upto fnExactFirstFromSpec)) fnExactFirstFromUptoCard

/-- THE SECOND FORM's CARD OF 'laws.FnExactMergeDecks'. -/
def fnExactMergeDecksUptoCard : Claim7 := { stood := { row := fnExactMergeDecksUptoRow, standIns := [], harness := (true, "66ca68d5b9a89af28a1a3ae1cbc86d7e84ffd5cc4b8bdef5adfdce7f66173cf5"), looks := false }, kinds := [], alts := [], laidByText := true, laidKinds := [.data, .pinned], laidTests := true, laidLooks := .later }
def FnExactMergeDecksUptoCardSaid : Prop := Claim7.holds Tryd.pinned (.plain (OpenSpec.upto fnExactMergeDecksSpec)) fnExactMergeDecksUptoCard

/-- THE SECOND FORM's CARD OF 'laws.FnSorted'. -/
def fnSortedUptoCard : Claim7 := { stood := { row := fnSortedUptoRow, standIns := [], harness := (true, "66ca68d5b9a89af28a1a3ae1cbc86d7e84ffd5cc4b8bdef5adfdce7f66173cf5"), looks := false }, kinds := [], alts := [], laidByText := true, laidKinds := [.data, .pinned], laidTests := true, laidLooks := .later }
def FnSortedUptoCardSaid : Prop := Claim7.holds Tryd.pinned (.plain (OpenSpec.upto fnSortedSpec)) fnSortedUptoCard
end Rows
end Go.Proofs.YtdlpifgkponnmaaDoor
