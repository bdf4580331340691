/-
  DERIVED. GIVEN WITH THE SEED: THE CARDS: each row of YtbmompanhigmnaaDoorRows.lean that lists a variable, with what it lists TIED to the program's text (the seventh form; the later family's looks); each row that meets fmt, with fmt's text TOLD by the authors' own Lean function (tested against real Go, not proved from fmt's source: count such statements apart). THE CARD IS WHAT COUNTS. Prove the row's statement (the work); the ties are given (YtbmompanhigmnaaDoorTie.lean); close each card by the builder's one call (the guide's Derived/Test/ToyasCard.lean, 'card_holds'). Laid BY PROGRAM, IN A SANDBOX (cutbox-door.mjs). By AI agents, Wed Nov 11 2026. No macro, syntax, notation, axiom, sorry.
-/
import Derived.Test.YtbmompanhigmnaaDoorRows
import GoSem.ClaimSeven
namespace Go.Proofs.YtbmompanhigmnaaDoor
namespace Rows

/-- THE TIED CARD OF 'laws.FnExactMixLot'. -/
def fnExactMixLotCard : Claim7 := { stood := { row := fnExactMixLotRow, standIns := [], harness := (true, "a38b965707500007bf548bb079f280c91c0aa3d2f2ea9fccb2c83ee319265c37"), looks := false }, kinds := [], alts := [], laidByText := true, laidKinds := [.data, .pinned], laidTests := true, laidLooks := .later }
def FnExactMixLotCardSaid : Prop := Claim7.holds Tryd.pinned (.plain (OpenSpec.ofChange fnExactMixLotSpec)) fnExactMixLotCard

/-- THE TIED CARD OF 'laws.FnExactDroppedOf'. -/
def fnExactDroppedOfCard : Claim7 := { stood := { row := fnExactDroppedOfRow, standIns := [], harness := (true, "a38b965707500007bf548bb079f280c91c0aa3d2f2ea9fccb2c83ee319265c37"), looks := false }, kinds := [], alts := [], laidByText := true, laidKinds := [.data, .pinned], laidTests := true, laidLooks := .later }
def FnExactDroppedOfCardSaid : Prop := Claim7.holds Tryd.pinned (.plain (OpenSpec.ofChange fnExactDroppedOfSpec)) fnExactDroppedOfCard

/-- THE TIED CARD OF 'laws.FnExactSureWords'. -/
def fnExactSureWordsCard : Claim7 := { stood := { row := fnExactSureWordsRow, standIns := [], harness := (true, "a38b965707500007bf548bb079f280c91c0aa3d2f2ea9fccb2c83ee319265c37"), looks := false }, kinds := [], alts := [], laidByText := true, laidKinds := [.data, .pinned], laidTests := true, laidLooks := .later }
def FnExactSureWordsCardSaid : Prop := Claim7.holds Tryd.pinned (.plain (OpenSpec.ofChange fnExactSureWordsSpec)) fnExactSureWordsCard

/-- THE TIED CARD OF 'laws.FnExactFalseOf'. -/
def fnExactFalseOfCard : Claim7 := { stood := { row := fnExactFalseOfRow, standIns := [], harness := (true, "a38b965707500007bf548bb079f280c91c0aa3d2f2ea9fccb2c83ee319265c37"), looks := false }, kinds := [], alts := [], laidByText := true, laidKinds := [.data, .pinned], laidTests := true, laidLooks := .later }
def FnExactFalseOfCardSaid : Prop := Claim7.holds Tryd.pinned (.plain (OpenSpec.ofChange fnExactFalseOfSpec)) fnExactFalseOfCard

/-- THE TIED CARD OF 'laws.FnExactExplainMask'. -/
def fnExactExplainMaskCard : Claim7 := { stood := { row := fnExactExplainMaskRow, standIns := [], harness := (true, "a38b965707500007bf548bb079f280c91c0aa3d2f2ea9fccb2c83ee319265c37"), looks := false }, kinds := [], alts := [], laidByText := true, laidKinds := [.data, .pinned], laidTests := true, laidLooks := .later }
def FnExactExplainMaskCardSaid : Prop := Claim7.holds Tryd.pinned (.plain (OpenSpec.ofChange fnExactExplainMaskSpec)) fnExactExplainMaskCard

/-- THE TIED CARD OF 'laws.FnExactCountFalse'. -/
def fnExactCountFalseCard : Claim7 := { stood := { row := fnExactCountFalseRow, standIns := [], harness := (true, "a38b965707500007bf548bb079f280c91c0aa3d2f2ea9fccb2c83ee319265c37"), looks := false }, kinds := [], alts := [], laidByText := true, laidKinds := [.data, .pinned], laidTests := true, laidLooks := .later }
def FnExactCountFalseCardSaid : Prop := Claim7.holds Tryd.pinned (.plain (OpenSpec.ofChange fnExactCountFalseSpec)) fnExactCountFalseCard

/-- THE TIED CARD OF 'laws.FnExactBestPer'. -/
def fnExactBestPerCard : Claim7 := { stood := { row := fnExactBestPerRow, standIns := [], harness := (true, "a38b965707500007bf548bb079f280c91c0aa3d2f2ea9fccb2c83ee319265c37"), looks := false }, kinds := [], alts := [], laidByText := true, laidKinds := [.data, .pinned], laidTests := true, laidLooks := .later }
def FnExactBestPerCardSaid : Prop := Claim7.holds Tryd.pinned (.plain (OpenSpec.ofChange fnExactBestPerSpec)) fnExactBestPerCard

/-- THE SECOND FORM's CARD OF 'laws.FnExactMixLot'. -/
def fnExactMixLotUptoCard : Claim7 := { stood := { row := fnExactMixLotUptoRow, standIns := [], harness := (true, "a38b965707500007bf548bb079f280c91c0aa3d2f2ea9fccb2c83ee319265c37"), looks := false }, kinds := [], alts := [], laidByText := true, laidKinds := [.data, .pinned], laidTests := true, laidLooks := .later }
def FnExactMixLotUptoCardSaid : Prop := Claim7.holds Tryd.pinned (.plain (OpenSpec.upto fnExactMixLotSpec)) fnExactMixLotUptoCard

/-- THE SECOND FORM's CARD OF 'laws.FnExactDroppedOf'. -/
def fnExactDroppedOfUptoCard : Claim7 := { stood := { row := fnExactDroppedOfUptoRow, standIns := [], harness := (true, "a38b965707500007bf548bb079f280c91c0aa3d2f2ea9fccb2c83ee319265c37"), looks := false }, kinds := [], alts := [], laidByText := true, laidKinds := [.data, .pinned], laidTests := true, laidLooks := .later }
def FnExactDroppedOfUptoCardSaid : Prop := Claim7.holds Tryd.pinned (.plain (OpenSpec.upto fnExactDroppedOfSpec)) fnExactDroppedOfUptoCard

/-- THE SECOND FORM's CARD OF 'laws.FnExactSureWords'. -/
def fnExactSureWordsUptoCard : Claim7 := { stood := { row := fnExactSureWordsUptoRow, standIns := [], harness := (true, "a38b965707500007bf548bb079f280c91c0aa3d2f2ea9fccb2c83ee319265c37"), looks := false }, kinds := [], alts := [], laidByText := true, laidKinds := [.data, .pinned], laidTests := true, laidLooks := .later }
def FnExactSureWordsUptoCardSaid : Prop := Claim7.holds Tryd.pinned (.plain (OpenSpec.upto fnExactSureWordsSpec)) fnExactSureWordsUptoCard

/-- THE SECOND FORM's CARD OF 'laws.FnExactFalseOf'. -/
def fnExactFalseOfUptoCard : Claim7 := { stood := { row := fnExactFalseOfUptoRow, standIns := [], harness := (true, "a38b965707500007bf548bb079f280c91c0aa3d2f2ea9fccb2c83ee319265c37"), looks := false }, kinds := [], alts := [], laidByText := true, laidKinds := [.data, .pinned], laidTests := true, laidLooks := .later }
def FnExactFalseOfUptoCardSaid : Prop := Claim7.holds Tryd.pinned (.plain (OpenSpec.upto fnExactFalseOfSpec)) fnExactFalseOfUptoCard

/-- THE SECOND FORM's CARD OF 'laws.FnExactExplainMask'. -/
def fnExactExplainMaskUptoCard : Claim7 := { stood := { row := fnExactExplainMaskUptoRow, standIns := [], harness := (true, "a38b965707500007bf548bb079f280c91c0aa3d2f2ea9fccb2c83ee319265c37"), looks := false }, kinds := [], alts := [], laidByText := true, laidKinds := [.data, .pinned], laidTests := true, laidLooks := .later }
def FnExactExplainMaskUptoCardSaid : Prop := Claim7.holds Tryd.pinned (.plain (OpenSpec.upto fnExactExplainMaskSpec)) fnExactExplainMaskUptoCard

/-- THE SECOND FORM's CARD OF 'laws.FnExactCountFalse'. -/
def fnExactCountFalseUptoCard : Claim7 := { stood := { row := fnExactCountFalseUptoRow, standIns := [], harness := (true, "a38b965707500007bf548bb079f280c91c0aa3d2f2ea9fccb2c83ee319265c37"), looks := false }, kinds := [], alts := [], laidByText := true, laidKinds := [.data, .pinned], laidTests := true, laidLooks := .later }
def FnExactCountFalseUptoCardSaid : Prop := Claim7.holds Tryd.pinned (.plain (OpenSpec.upto fnExactCountFalseSpec)) fnExactCountFalseUptoCard

/-- THE SECOND FORM's CARD OF 'laws.FnExactBestPer'. -/
def fnExactBestPerUptoCard : Claim7 := { stood := { row := fnExactBestPerUptoRow, standIns := [], harness := (true, "a38b965707500007bf548bb079f280c91c0aa3d2f2ea9fccb2c83ee319265c37"), looks := false }, kinds := [], alts := [], laidByText := true, laidKinds := [.data, .pinned], laidTests := true, laidLooks := .later }
def FnExactBestPerUptoCardSaid : Prop := Claim7.holds Tryd.pinned (.plain (OpenSpec.upto fnExactBestPerSpec)) fnExactBestPerUptoCard
end Rows
end Go.Proofs.YtbmompanhigmnaaDoor
