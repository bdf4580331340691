/-
  DERIVED. GIVEN WITH THE SEED: THE CARDS: each row of YtmphnocgihegbaaDoorRows.lean that lists a variable, with what it lists TIED to the program's text (the seventh form; the later family's looks); each row that meets fmt, with fmt's text TOLD by the authors' own Lean function (tested against real Go, not proved from fmt's source: count such statements apart). THE CARD IS WHAT COUNTS. Prove the row's statement (the work); the ties are given (YtmphnocgihegbaaDoorTie.lean); close each card by the builder's one call (the guide's Derived/Test/ToyasCard.lean, 'card_holds'). Laid BY PROGRAM, IN A SANDBOX (cutbox-door.mjs). By AI agents, Wed Nov 11 2026. No macro, syntax, notation, axiom, sorry.
-/
import Derived.Test.YtmphnocgihegbaaDoorRows
import GoSem.ClaimSeven
namespace Go.Proofs.YtmphnocgihegbaaDoor
namespace Rows

/-- THE TIED CARD OF 'laws.FnExactPathUp'. -/
def fnExactPathUpCard : Claim7 := { stood := { row := fnExactPathUpRow, standIns := [], harness := (true, "65576de84ed77dad5a1bf29ed91a0adffd124c28e40aaea240468680dba4db6e"), looks := false }, kinds := [], alts := [], laidByText := true, laidKinds := [.data, .pinned], laidTests := true, laidLooks := .later }
def FnExactPathUpCardSaid : Prop := Claim7.holds Tryd.pinned (.plain (OpenSpec.ofChange fnExactPathUpSpec)) fnExactPathUpCard

/-- THE TIED CARD OF 'laws.FnExactReadCatalogue'. -/
def fnExactReadCatalogueCard : Claim7 := { stood := { row := fnExactReadCatalogueRow, standIns := [], harness := (true, "65576de84ed77dad5a1bf29ed91a0adffd124c28e40aaea240468680dba4db6e"), looks := false }, kinds := [], alts := [], laidByText := true, laidKinds := [.data, .pinned], laidTests := true, laidLooks := .later }
def FnExactReadCatalogueCardSaid : Prop := Claim7.holds Tryd.pinned (.plain (OpenSpec.ofChange fnExactReadCatalogueSpec)) fnExactReadCatalogueCard

/-- THE TIED CARD OF 'laws.FnExactNarrowerOf'. -/
def fnExactNarrowerOfCard : Claim7 := { stood := { row := fnExactNarrowerOfRow, standIns := [], harness := (true, "65576de84ed77dad5a1bf29ed91a0adffd124c28e40aaea240468680dba4db6e"), looks := false }, kinds := [], alts := [], laidByText := true, laidKinds := [.data, .pinned], laidTests := true, laidLooks := .later }
def FnExactNarrowerOfCardSaid : Prop := Claim7.holds Tryd.pinned (.plain (OpenSpec.ofChange fnExactNarrowerOfSpec)) fnExactNarrowerOfCard

/-- THE TIED CARD OF 'laws.FnExactExpandEntry'. -/
def fnExactExpandEntryCard : Claim7 := { stood := { row := fnExactExpandEntryRow, standIns := [], harness := (true, "65576de84ed77dad5a1bf29ed91a0adffd124c28e40aaea240468680dba4db6e"), looks := false }, kinds := [], alts := [], laidByText := true, laidKinds := [.data, .pinned], laidTests := true, laidLooks := .later }
def FnExactExpandEntryCardSaid : Prop := Claim7.holds Tryd.pinned (.plain (OpenSpec.ofChange fnExactExpandEntrySpec)) fnExactExpandEntryCard

/-- THE TIED CARD OF 'laws.FnExactMergeEntries'. -/
def fnExactMergeEntriesCard : Claim7 := { stood := { row := fnExactMergeEntriesRow, standIns := [], harness := (true, "65576de84ed77dad5a1bf29ed91a0adffd124c28e40aaea240468680dba4db6e"), looks := false }, kinds := [], alts := [], laidByText := true, laidKinds := [.data, .pinned], laidTests := true, laidLooks := .later }
def FnExactMergeEntriesCardSaid : Prop := Claim7.holds Tryd.pinned (.plain (OpenSpec.ofChange fnExactMergeEntriesSpec)) fnExactMergeEntriesCard

/-- THE TIED CARD OF 'laws.FnMerged'. -/
def fnMergedCard : Claim7 := { stood := { row := fnMergedRow, standIns := [], harness := (true, "65576de84ed77dad5a1bf29ed91a0adffd124c28e40aaea240468680dba4db6e"), looks := false }, kinds := [], alts := [], laidByText := true, laidKinds := [.data, .pinned], laidTests := true, laidLooks := .later }
def FnMergedCardSaid : Prop := Claim7.holds Tryd.pinned (.plain (OpenSpec.ofChange fnMergedSpec)) fnMergedCard

/-- THE SECOND FORM's CARD OF 'laws.FnExactPathUp'. -/
def fnExactPathUpUptoCard : Claim7 := { stood := { row := fnExactPathUpUptoRow, standIns := [], harness := (true, "65576de84ed77dad5a1bf29ed91a0adffd124c28e40aaea240468680dba4db6e"), looks := false }, kinds := [], alts := [], laidByText := true, laidKinds := [.data, .pinned], laidTests := true, laidLooks := .later }
def FnExactPathUpUptoCardSaid : Prop := Claim7.holds Tryd.pinned (.plain (OpenSpec.upto fnExactPathUpSpec)) fnExactPathUpUptoCard

/-- THE SECOND FORM's CARD OF 'laws.FnExactReadCatalogue'. -/
def fnExactReadCatalogueUptoCard : Claim7 := { stood := { row := fnExactReadCatalogueUptoRow, standIns := [], harness := (true, "65576de84ed77dad5a1bf29ed91a0adffd124c28e40aaea240468680dba4db6e"), looks := false }, kinds := [], alts := [], laidByText := true, laidKinds := [.data, .pinned], laidTests := true, laidLooks := .later }
def FnExactReadCatalogueUptoCardSaid : Prop := Claim7.holds Tryd.pinned (.plain (OpenSpec.upto fnExactReadCatalogueSpec)) fnExactReadCatalogueUptoCard

/-- THE SECOND FORM's CARD OF 'laws.FnExactNarrowerOf'. -/
def fnExactNarrowerOfUptoCard : Claim7 := { stood := { row := fnExactNarrowerOfUptoRow, standIns := [], harness := (true, "65576de84ed77dad5a1bf29ed91a0adffd124c28e40aaea240468680dba4db6e"), looks := false }, kinds := [], alts := [], laidByText := true, laidKinds := [.data, .pinned], laidTests := true, laidLooks := .later }
def FnExactNarrowerOfUptoCardSaid : Prop := Claim7.holds Tryd.pinned (.plain (OpenSpec.upto fnExactNarrowerOfSpec)) fnExactNarrowerOfUptoCard

/-- THE SECOND FORM's CARD OF 'laws.FnExactExpandEntry'. -/
def fnExactExpandEntryUptoCard : Claim7 := { stood := { row := fnExactExpandEntryUptoRow, standIns := [], harness := (true, "65576de84ed77dad5a1bf29ed91a0adffd124c28e40aaea240468680dba4db6e"), looks := false }, kinds := [], alts := [], laidByText := true, laidKinds := [.data, .pinned], laidTests := true, laidLooks := .later }
def FnExactExpandEntryUptoCardSaid : Prop := Claim7.holds Tryd.pinned (.plain (OpenSpec.upto fnExactExpandEntrySpec)) fnExactExpandEntryUptoCard

/-- THE SECOND FORM's CARD OF 'laws.FnExactMergeEntries'. -/
def fnExactMergeEntriesUptoCard : Claim7 := { stood := { row := fnExactMergeEntriesUptoRow, standIns := [], harness := (true, "65576de84ed77dad5a1bf29ed91a0adffd124c28e40aaea240468680dba4db6e"), looks := false }, kinds := [], alts := [], laidByText := true, laidKinds := [.data, .pinned], laidTests := true, laidLooks := .later }
def FnExactMergeEntriesUptoCardSaid : Prop := Claim7.holds Tryd.pinned (.plain (OpenSpec.upto fnExactMergeEntriesSpec)) fnExactMergeEntriesUptoCard

/-- THE SECOND FORM's CARD OF 'laws.FnMerged'. -/
def fnMergedUptoCard : Claim7 := { stood := { row := fnMergedUptoRow, standIns := [], harness := (true, "65576de84ed77dad5a1bf29ed91a0adffd124c28e40aaea240468680dba4db6e"), looks := false }, kinds := [], alts := [], laidByText := true, laidKinds := [.data, .pinned], laidTests := true, laidLooks := .later }
def FnMergedUptoCardSaid : Prop := Claim7.holds Tryd.pinned (.plain (OpenSpec.upto fnMergedSpec)) fnMergedUptoCard
end Rows
end Go.Proofs.YtmphnocgihegbaaDoor
