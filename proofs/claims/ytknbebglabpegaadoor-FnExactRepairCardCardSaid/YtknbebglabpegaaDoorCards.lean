/-
  DERIVED. GIVEN WITH THE SEED: THE CARDS: each row of YtknbebglabpegaaDoorRows.lean that lists a variable, with what it lists TIED to the program's text (the seventh form; the later family's looks); each row that meets fmt, with fmt's text TOLD by the authors' own Lean function (tested against real Go, not proved from fmt's source: count such statements apart). THE CARD IS WHAT COUNTS. Prove the row's statement (the work); the ties are given (YtknbebglabpegaaDoorTie.lean); close each card by the builder's one call (the guide's Derived/Test/ToyasCard.lean, 'card_holds'). Laid BY PROGRAM, IN A SANDBOX (cutbox-door.mjs). By AI agents, Wed Nov 11 2026. No macro, syntax, notation, axiom, sorry.
-/
import Derived.Test.YtknbebglabpegaaDoorRows
import GoSem.ClaimSeven
namespace Go.Proofs.YtknbebglabpegaaDoor
namespace Rows

/-- THE TIED CARD OF 'laws.FnExactNearestValue'. -/
def fnExactNearestValueCard : Claim7 := { stood := { row := fnExactNearestValueRow, standIns := [], harness := (true, "8a77590966afa5f0a5d4d30be0f41815022bb8382447fb34629c907081f3fd01"), looks := false }, kinds := [], alts := [], laidByText := true, laidKinds := [.data, .pinned], laidTests := true, laidLooks := .later }
def FnExactNearestValueCardSaid : Prop := Claim7.holds Tryd.pinned (.plain (OpenSpec.ofChange fnExactNearestValueSpec)) fnExactNearestValueCard

/-- THE TIED CARD OF 'laws.FnExactIsTold'. -/
def fnExactIsToldCard : Claim7 := { stood := { row := fnExactIsToldRow, standIns := [], harness := (true, "8a77590966afa5f0a5d4d30be0f41815022bb8382447fb34629c907081f3fd01"), looks := false }, kinds := [], alts := [], laidByText := true, laidKinds := [.data, .pinned], laidTests := true, laidLooks := .later }
def FnExactIsToldCardSaid : Prop := Claim7.holds Tryd.pinned (.plain (OpenSpec.ofChange fnExactIsToldSpec)) fnExactIsToldCard

/-- THE TIED CARD OF 'laws.FnExactValuesNear'. -/
def fnExactValuesNearCard : Claim7 := { stood := { row := fnExactValuesNearRow, standIns := [], harness := (true, "8a77590966afa5f0a5d4d30be0f41815022bb8382447fb34629c907081f3fd01"), looks := false }, kinds := [], alts := [], laidByText := true, laidKinds := [.data, .pinned], laidTests := true, laidLooks := .later }
def FnExactValuesNearCardSaid : Prop := Claim7.holds Tryd.pinned (.plain (OpenSpec.ofChange fnExactValuesNearSpec)) fnExactValuesNearCard

/-- THE TIED CARD OF 'laws.FnExactRepairField'. -/
def fnExactRepairFieldCard : Claim7 := { stood := { row := fnExactRepairFieldRow, standIns := [], harness := (true, "8a77590966afa5f0a5d4d30be0f41815022bb8382447fb34629c907081f3fd01"), looks := false }, kinds := [], alts := [], laidByText := true, laidKinds := [.data, .pinned], laidTests := true, laidLooks := .later }
def FnExactRepairFieldCardSaid : Prop := Claim7.holds Tryd.pinned (.plain (OpenSpec.ofChange fnExactRepairFieldSpec)) fnExactRepairFieldCard

/-- THE TIED CARD OF 'laws.FnExactValuesOf'. -/
def fnExactValuesOfCard : Claim7 := { stood := { row := fnExactValuesOfRow, standIns := [], harness := (true, "8a77590966afa5f0a5d4d30be0f41815022bb8382447fb34629c907081f3fd01"), looks := false }, kinds := [], alts := [], laidByText := true, laidKinds := [.data, .pinned], laidTests := true, laidLooks := .later }
def FnExactValuesOfCardSaid : Prop := Claim7.holds Tryd.pinned (.plain (OpenSpec.ofChange fnExactValuesOfSpec)) fnExactValuesOfCard

/-- THE TIED CARD OF 'laws.FnExactMakeCard'. -/
def fnExactMakeCardCard : Claim7 := { stood := { row := fnExactMakeCardRow, standIns := [], harness := (true, "8a77590966afa5f0a5d4d30be0f41815022bb8382447fb34629c907081f3fd01"), looks := false }, kinds := [], alts := [], laidByText := true, laidKinds := [.data, .pinned], laidTests := true, laidLooks := .later }
def FnExactMakeCardCardSaid : Prop := Claim7.holds Tryd.pinned (.plain (OpenSpec.ofChange fnExactMakeCardSpec)) fnExactMakeCardCard

/-- THE TIED CARD OF 'laws.FnExactDoubtsOf'. -/
def fnExactDoubtsOfCard : Claim7 := { stood := { row := fnExactDoubtsOfRow, standIns := [], harness := (true, "8a77590966afa5f0a5d4d30be0f41815022bb8382447fb34629c907081f3fd01"), looks := false }, kinds := [], alts := [], laidByText := true, laidKinds := [.data, .pinned], laidTests := true, laidLooks := .later }
def FnExactDoubtsOfCardSaid : Prop := Claim7.holds Tryd.pinned (.plain (OpenSpec.ofChange fnExactDoubtsOfSpec)) fnExactDoubtsOfCard

/-- THE TIED CARD OF 'laws.FnExactRepairCard'. -/
def fnExactRepairCardCard : Claim7 := { stood := { row := fnExactRepairCardRow, standIns := [], harness := (true, "8a77590966afa5f0a5d4d30be0f41815022bb8382447fb34629c907081f3fd01"), looks := false }, kinds := [], alts := [], laidByText := true, laidKinds := [.data, .pinned], laidTests := true, laidLooks := .later }
def FnExactRepairCardCardSaid : Prop := Claim7.holds Tryd.pinned (.plain (OpenSpec.ofChange fnExactRepairCardSpec)) fnExactRepairCardCard

/-- THE SECOND FORM's CARD OF 'laws.FnExactNearestValue'. -/
def fnExactNearestValueUptoCard : Claim7 := { stood := { row := fnExactNearestValueUptoRow, standIns := [], harness := (true, "8a77590966afa5f0a5d4d30be0f41815022bb8382447fb34629c907081f3fd01"), looks := false }, kinds := [], alts := [], laidByText := true, laidKinds := [.data, .pinned], laidTests := true, laidLooks := .later }
def FnExactNearestValueUptoCardSaid : Prop := Claim7.holds Tryd.pinned (.plain (OpenSpec.upto fnExactNearestValueSpec)) fnExactNearestValueUptoCard

/-- THE SECOND FORM's CARD OF 'laws.FnExactIsTold'. -/
def fnExactIsToldUptoCard : Claim7 := { stood := { row := fnExactIsToldUptoRow, standIns := [], harness := (true, "8a77590966afa5f0a5d4d30be0f41815022bb8382447fb34629c907081f3fd01"), looks := false }, kinds := [], alts := [], laidByText := true, laidKinds := [.data, .pinned], laidTests := true, laidLooks := .later }
def FnExactIsToldUptoCardSaid : Prop := Claim7.holds Tryd.pinned (.plain (OpenSpec.upto fnExactIsToldSpec)) fnExactIsToldUptoCard

/-- THE SECOND FORM's CARD OF 'laws.FnExactValuesNear'. -/
def fnExactValuesNearUptoCard : Claim7 := { stood := { row := fnExactValuesNearUptoRow, standIns := [], harness := (true, "8a77590966afa5f0a5d4d30be0f41815022bb8382447fb34629c907081f3fd01"), looks := false }, kinds := [], alts := [], laidByText := true, laidKinds := [.data, .pinned], laidTests := true, laidLooks := .later }
def FnExactValuesNearUptoCardSaid : Prop := Claim7.holds Tryd.pinned (.plain (OpenSpec.upto fnExactValuesNearSpec)) fnExactValuesNearUptoCard

/-- THE SECOND FORM's CARD OF 'laws.FnExactRepairField'. -/
def fnExactRepairFieldUptoCard : Claim7 := { stood := { row := fnExactRepairFieldUptoRow, standIns := [], harness := (true, "8a77590966afa5f0a5d4d30be0f41815022bb8382447fb34629c907081f3fd01"), looks := false }, kinds := [], alts := [], laidByText := true, laidKinds := [.data, .pinned], laidTests := true, laidLooks := .later }
def FnExactRepairFieldUptoCardSaid : Prop := Claim7.holds Tryd.pinned (.plain (OpenSpec.upto fnExactRepairFieldSpec)) fnExactRepairFieldUptoCard

/-- THE SECOND FORM's CARD OF 'laws.FnExactValuesOf'. -/
def fnExactValuesOfUptoCard : Claim7 := { stood := { row := fnExactValuesOfUptoRow, standIns := [], harness := (true, "8a77590966afa5f0a5d4d30be0f41815022bb8382447fb34629c907081f3fd01"), looks := false }, kinds := [], alts := [], laidByText := true, laidKinds := [.data, .pinned], laidTests := true, laidLooks := .later }
def FnExactValuesOfUptoCardSaid : Prop := Claim7.holds Tryd.pinned (.plain (OpenSpec.upto fnExactValuesOfSpec)) fnExactValuesOfUptoCard

/-- THE SECOND FORM's CARD OF 'laws.FnExactMakeCard'. -/
def fnExactMakeCardUptoCard : Claim7 := { stood := { row := fnExactMakeCardUptoRow, standIns := [], harness := (true, "8a77590966afa5f0a5d4d30be0f41815022bb8382447fb34629c907081f3fd01"), looks := false }, kinds := [], alts := [], laidByText := true, laidKinds := [.data, .pinned], laidTests := true, laidLooks := .later }
def FnExactMakeCardUptoCardSaid : Prop := Claim7.holds Tryd.pinned (.plain (OpenSpec.upto fnExactMakeCardSpec)) fnExactMakeCardUptoCard

/-- THE SECOND FORM's CARD OF 'laws.FnExactDoubtsOf'. -/
def fnExactDoubtsOfUptoCard : Claim7 := { stood := { row := fnExactDoubtsOfUptoRow, standIns := [], harness := (true, "8a77590966afa5f0a5d4d30be0f41815022bb8382447fb34629c907081f3fd01"), looks := false }, kinds := [], alts := [], laidByText := true, laidKinds := [.data, .pinned], laidTests := true, laidLooks := .later }
def FnExactDoubtsOfUptoCardSaid : Prop := Claim7.holds Tryd.pinned (.plain (OpenSpec.upto fnExactDoubtsOfSpec)) fnExactDoubtsOfUptoCard

/-- THE SECOND FORM's CARD OF 'laws.FnExactRepairCard'. -/
def fnExactRepairCardUptoCard : Claim7 := { stood := { row := fnExactRepairCardUptoRow, standIns := [], harness := (true, "8a77590966afa5f0a5d4d30be0f41815022bb8382447fb34629c907081f3fd01"), looks := false }, kinds := [], alts := [], laidByText := true, laidKinds := [.data, .pinned], laidTests := true, laidLooks := .later }
def FnExactRepairCardUptoCardSaid : Prop := Claim7.holds Tryd.pinned (.plain (OpenSpec.upto fnExactRepairCardSpec)) fnExactRepairCardUptoCard
end Rows
end Go.Proofs.YtknbebglabpegaaDoor
