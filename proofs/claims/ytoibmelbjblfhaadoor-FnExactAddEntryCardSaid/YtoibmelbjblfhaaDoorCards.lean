/-
  DERIVED. GIVEN WITH THE SEED: THE CARDS: each row of YtoibmelbjblfhaaDoorRows.lean that lists a variable, with what it lists TIED to the program's text (the seventh form; the later family's looks); each row that meets fmt, with fmt's text TOLD by the authors' own Lean function (tested against real Go, not proved from fmt's source: count such statements apart). THE CARD IS WHAT COUNTS. Prove the row's statement (the work); the ties are given (YtoibmelbjblfhaaDoorTie.lean); close each card by the builder's one call (the guide's Derived/Test/ToyasCard.lean, 'card_holds'). Laid BY PROGRAM, IN A SANDBOX (cutbox-door.mjs). By AI agents, Wed Nov 11 2026. No macro, syntax, notation, axiom, sorry.
-/
import Derived.Test.YtoibmelbjblfhaaDoorRows
import GoSem.ClaimSeven
namespace Go.Proofs.YtoibmelbjblfhaaDoor
namespace Rows

/-- THE TIED CARD OF 'laws.FnExactIsEntryName'. -/
def fnExactIsEntryNameCard : Claim7 := { stood := { row := fnExactIsEntryNameRow, standIns := [], harness := (true, "b4859d288c8c97dfb8e3680db1dbff5e02487eeb0e00a502a710071f5e4cdabc"), looks := false }, kinds := [], alts := [], laidByText := true, laidKinds := [.data, .pinned], laidTests := true, laidLooks := .later }
def FnExactIsEntryNameCardSaid : Prop := Claim7.holds Tryd.pinned (.plain (OpenSpec.ofChange fnExactIsEntryNameSpec)) fnExactIsEntryNameCard

/-- THE TIED CARD OF 'laws.FnExactValidCatalogue'. -/
def fnExactValidCatalogueCard : Claim7 := { stood := { row := fnExactValidCatalogueRow, standIns := [], harness := (true, "b4859d288c8c97dfb8e3680db1dbff5e02487eeb0e00a502a710071f5e4cdabc"), looks := false }, kinds := [], alts := [], laidByText := true, laidKinds := [.data, .pinned], laidTests := true, laidLooks := .later }
def FnExactValidCatalogueCardSaid : Prop := Claim7.holds Tryd.pinned (.plain (OpenSpec.ofChange fnExactValidCatalogueSpec)) fnExactValidCatalogueCard

/-- THE TIED CARD OF 'laws.FnExactFindEntry'. -/
def fnExactFindEntryCard : Claim7 := { stood := { row := fnExactFindEntryRow, standIns := [], harness := (true, "b4859d288c8c97dfb8e3680db1dbff5e02487eeb0e00a502a710071f5e4cdabc"), looks := false }, kinds := [], alts := [], laidByText := true, laidKinds := [.data, .pinned], laidTests := true, laidLooks := .later }
def FnExactFindEntryCardSaid : Prop := Claim7.holds Tryd.pinned (.plain (OpenSpec.ofChange fnExactFindEntrySpec)) fnExactFindEntryCard

/-- THE TIED CARD OF 'laws.FnExactCatalogueText'. -/
def fnExactCatalogueTextCard : Claim7 := { stood := { row := fnExactCatalogueTextRow, standIns := [], harness := (true, "b4859d288c8c97dfb8e3680db1dbff5e02487eeb0e00a502a710071f5e4cdabc"), looks := false }, kinds := [], alts := [], laidByText := true, laidKinds := [.data, .pinned], laidTests := true, laidLooks := .later }
def FnExactCatalogueTextCardSaid : Prop := Claim7.holds Tryd.pinned (.plain (OpenSpec.ofChange fnExactCatalogueTextSpec)) fnExactCatalogueTextCard

/-- THE TIED CARD OF 'laws.FnExactPreferredOf'. -/
def fnExactPreferredOfCard : Claim7 := { stood := { row := fnExactPreferredOfRow, standIns := [], harness := (true, "b4859d288c8c97dfb8e3680db1dbff5e02487eeb0e00a502a710071f5e4cdabc"), looks := false }, kinds := [], alts := [], laidByText := true, laidKinds := [.data, .pinned], laidTests := true, laidLooks := .later }
def FnExactPreferredOfCardSaid : Prop := Claim7.holds Tryd.pinned (.plain (OpenSpec.ofChange fnExactPreferredOfSpec)) fnExactPreferredOfCard

/-- THE TIED CARD OF 'laws.FnExactCompareNames'. -/
def fnExactCompareNamesCard : Claim7 := { stood := { row := fnExactCompareNamesRow, standIns := [], harness := (true, "b4859d288c8c97dfb8e3680db1dbff5e02487eeb0e00a502a710071f5e4cdabc"), looks := false }, kinds := [], alts := [], laidByText := true, laidKinds := [.data, .pinned], laidTests := true, laidLooks := .later }
def FnExactCompareNamesCardSaid : Prop := Claim7.holds Tryd.pinned (.plain (OpenSpec.ofChange fnExactCompareNamesSpec)) fnExactCompareNamesCard

/-- THE TIED CARD OF 'laws.FnExactAddEntry'. -/
def fnExactAddEntryCard : Claim7 := { stood := { row := fnExactAddEntryRow, standIns := [], harness := (true, "b4859d288c8c97dfb8e3680db1dbff5e02487eeb0e00a502a710071f5e4cdabc"), looks := false }, kinds := [], alts := [], laidByText := true, laidKinds := [.data, .pinned], laidTests := true, laidLooks := .later }
def FnExactAddEntryCardSaid : Prop := Claim7.holds Tryd.pinned (.plain (OpenSpec.ofChange fnExactAddEntrySpec)) fnExactAddEntryCard

/-- THE TIED CARD OF 'laws.FnExactTopsOf'. -/
def fnExactTopsOfCard : Claim7 := { stood := { row := fnExactTopsOfRow, standIns := [], harness := (true, "b4859d288c8c97dfb8e3680db1dbff5e02487eeb0e00a502a710071f5e4cdabc"), looks := false }, kinds := [], alts := [], laidByText := true, laidKinds := [.data, .pinned], laidTests := true, laidLooks := .later }
def FnExactTopsOfCardSaid : Prop := Claim7.holds Tryd.pinned (.plain (OpenSpec.ofChange fnExactTopsOfSpec)) fnExactTopsOfCard

/-- THE TIED CARD OF 'laws.FnExactPutBelow'. -/
def fnExactPutBelowCard : Claim7 := { stood := { row := fnExactPutBelowRow, standIns := [], harness := (true, "b4859d288c8c97dfb8e3680db1dbff5e02487eeb0e00a502a710071f5e4cdabc"), looks := false }, kinds := [], alts := [], laidByText := true, laidKinds := [.data, .pinned], laidTests := true, laidLooks := .later }
def FnExactPutBelowCardSaid : Prop := Claim7.holds Tryd.pinned (.plain (OpenSpec.ofChange fnExactPutBelowSpec)) fnExactPutBelowCard

/-- THE TIED CARD OF 'laws.FnExactCommonBroader'. -/
def fnExactCommonBroaderCard : Claim7 := { stood := { row := fnExactCommonBroaderRow, standIns := [], harness := (true, "b4859d288c8c97dfb8e3680db1dbff5e02487eeb0e00a502a710071f5e4cdabc"), looks := false }, kinds := [], alts := [], laidByText := true, laidKinds := [.data, .pinned], laidTests := true, laidLooks := .later }
def FnExactCommonBroaderCardSaid : Prop := Claim7.holds Tryd.pinned (.plain (OpenSpec.ofChange fnExactCommonBroaderSpec)) fnExactCommonBroaderCard

/-- THE TIED CARD OF 'laws.FnExactSynonymsOf'. -/
def fnExactSynonymsOfCard : Claim7 := { stood := { row := fnExactSynonymsOfRow, standIns := [], harness := (true, "b4859d288c8c97dfb8e3680db1dbff5e02487eeb0e00a502a710071f5e4cdabc"), looks := false }, kinds := [], alts := [], laidByText := true, laidKinds := [.data, .pinned], laidTests := true, laidLooks := .later }
def FnExactSynonymsOfCardSaid : Prop := Claim7.holds Tryd.pinned (.plain (OpenSpec.ofChange fnExactSynonymsOfSpec)) fnExactSynonymsOfCard

/-- THE SECOND FORM's CARD OF 'laws.FnExactIsEntryName'. -/
def fnExactIsEntryNameUptoCard : Claim7 := { stood := { row := fnExactIsEntryNameUptoRow, standIns := [], harness := (true, "b4859d288c8c97dfb8e3680db1dbff5e02487eeb0e00a502a710071f5e4cdabc"), looks := false }, kinds := [], alts := [], laidByText := true, laidKinds := [.data, .pinned], laidTests := true, laidLooks := .later }
def FnExactIsEntryNameUptoCardSaid : Prop := Claim7.holds Tryd.pinned (.plain (OpenSpec.upto fnExactIsEntryNameSpec)) fnExactIsEntryNameUptoCard

/-- THE SECOND FORM's CARD OF 'laws.FnExactValidCatalogue'. -/
def fnExactValidCatalogueUptoCard : Claim7 := { stood := { row := fnExactValidCatalogueUptoRow, standIns := [], harness := (true, "b4859d288c8c97dfb8e3680db1dbff5e02487eeb0e00a502a710071f5e4cdabc"), looks := false }, kinds := [], alts := [], laidByText := true, laidKinds := [.data, .pinned], laidTests := true, laidLooks := .later }
def FnExactValidCatalogueUptoCardSaid : Prop := Claim7.holds Tryd.pinned (.plain (OpenSpec.upto fnExactValidCatalogueSpec)) fnExactValidCatalogueUptoCard

/-- THE SECOND FORM's CARD OF 'laws.FnExactFindEntry'. -/
def fnExactFindEntryUptoCard : Claim7 := { stood := { row := fnExactFindEntryUptoRow, standIns := [], harness := (true, "b4859d288c8c97dfb8e3680db1dbff5e02487eeb0e00a502a710071f5e4cdabc"), looks := false }, kinds := [], alts := [], laidByText := true, laidKinds := [.data, .pinned], laidTests := true, laidLooks := .later }
def FnExactFindEntryUptoCardSaid : Prop := Claim7.holds Tryd.pinned (.plain (OpenSpec.upto fnExactFindEntrySpec)) fnExactFindEntryUptoCard

/-- THE SECOND FORM's CARD OF 'laws.FnExactCatalogueText'. -/
def fnExactCatalogueTextUptoCard : Claim7 := { stood := { row := fnExactCatalogueTextUptoRow, standIns := [], harness := (true, "b4859d288c8c97dfb8e3680db1dbff5e02487eeb0e00a502a710071f5e4cdabc"), looks := false }, kinds := [], alts := [], laidByText := true, laidKinds := [.data, .pinned], laidTests := true, laidLooks := .later }
def FnExactCatalogueTextUptoCardSaid : Prop := Claim7.holds Tryd.pinned (.plain (OpenSpec.upto fnExactCatalogueTextSpec)) fnExactCatalogueTextUptoCard

/-- THE SECOND FORM's CARD OF 'laws.FnExactPreferredOf'. -/
def fnExactPreferredOfUptoCard : Claim7 := { stood := { row := fnExactPreferredOfUptoRow, standIns := [], harness := (true, "b4859d288c8c97dfb8e3680db1dbff5e02487eeb0e00a502a710071f5e4cdabc"), looks := false }, kinds := [], alts := [], laidByText := true, laidKinds := [.data, .pinned], laidTests := true, laidLooks := .later }
def FnExactPreferredOfUptoCardSaid : Prop := Claim7.holds Tryd.pinned (.plain (OpenSpec.upto fnExactPreferredOfSpec)) fnExactPreferredOfUptoCard

/-- THE SECOND FORM's CARD OF 'laws.FnExactCompareNames'. -/
def fnExactCompareNamesUptoCard : Claim7 := { stood := { row := fnExactCompareNamesUptoRow, standIns := [], harness := (true, "b4859d288c8c97dfb8e3680db1dbff5e02487eeb0e00a502a710071f5e4cdabc"), looks := false }, kinds := [], alts := [], laidByText := true, laidKinds := [.data, .pinned], laidTests := true, laidLooks := .later }
def FnExactCompareNamesUptoCardSaid : Prop := Claim7.holds Tryd.pinned (.plain (OpenSpec.upto fnExactCompareNamesSpec)) fnExactCompareNamesUptoCard

/-- THE SECOND FORM's CARD OF 'laws.FnExactAddEntry'. -/
def fnExactAddEntryUptoCard : Claim7 := { stood := { row := fnExactAddEntryUptoRow, standIns := [], harness := (true, "b4859d288c8c97dfb8e3680db1dbff5e02487eeb0e00a502a710071f5e4cdabc"), looks := false }, kinds := [], alts := [], laidByText := true, laidKinds := [.data, .pinned], laidTests := true, laidLooks := .later }
def FnExactAddEntryUptoCardSaid : Prop := Claim7.holds Tryd.pinned (.plain (OpenSpec.upto fnExactAddEntrySpec)) fnExactAddEntryUptoCard

/-- THE SECOND FORM's CARD OF 'laws.FnExactTopsOf'. -/
def fnExactTopsOfUptoCard : Claim7 := { stood := { row := fnExactTopsOfUptoRow, standIns := [], harness := (true, "b4859d288c8c97dfb8e3680db1dbff5e02487eeb0e00a502a710071f5e4cdabc"), looks := false }, kinds := [], alts := [], laidByText := true, laidKinds := [.data, .pinned], laidTests := true, laidLooks := .later }
def FnExactTopsOfUptoCardSaid : Prop := Claim7.holds Tryd.pinned (.plain (OpenSpec.upto fnExactTopsOfSpec)) fnExactTopsOfUptoCard

/-- THE SECOND FORM's CARD OF 'laws.FnExactPutBelow'. -/
def fnExactPutBelowUptoCard : Claim7 := { stood := { row := fnExactPutBelowUptoRow, standIns := [], harness := (true, "b4859d288c8c97dfb8e3680db1dbff5e02487eeb0e00a502a710071f5e4cdabc"), looks := false }, kinds := [], alts := [], laidByText := true, laidKinds := [.data, .pinned], laidTests := true, laidLooks := .later }
def FnExactPutBelowUptoCardSaid : Prop := Claim7.holds Tryd.pinned (.plain (OpenSpec.upto fnExactPutBelowSpec)) fnExactPutBelowUptoCard

/-- THE SECOND FORM's CARD OF 'laws.FnExactCommonBroader'. -/
def fnExactCommonBroaderUptoCard : Claim7 := { stood := { row := fnExactCommonBroaderUptoRow, standIns := [], harness := (true, "b4859d288c8c97dfb8e3680db1dbff5e02487eeb0e00a502a710071f5e4cdabc"), looks := false }, kinds := [], alts := [], laidByText := true, laidKinds := [.data, .pinned], laidTests := true, laidLooks := .later }
def FnExactCommonBroaderUptoCardSaid : Prop := Claim7.holds Tryd.pinned (.plain (OpenSpec.upto fnExactCommonBroaderSpec)) fnExactCommonBroaderUptoCard

/-- THE SECOND FORM's CARD OF 'laws.FnExactSynonymsOf'. -/
def fnExactSynonymsOfUptoCard : Claim7 := { stood := { row := fnExactSynonymsOfUptoRow, standIns := [], harness := (true, "b4859d288c8c97dfb8e3680db1dbff5e02487eeb0e00a502a710071f5e4cdabc"), looks := false }, kinds := [], alts := [], laidByText := true, laidKinds := [.data, .pinned], laidTests := true, laidLooks := .later }
def FnExactSynonymsOfUptoCardSaid : Prop := Claim7.holds Tryd.pinned (.plain (OpenSpec.upto fnExactSynonymsOfSpec)) fnExactSynonymsOfUptoCard
end Rows
end Go.Proofs.YtoibmelbjblfhaaDoor
