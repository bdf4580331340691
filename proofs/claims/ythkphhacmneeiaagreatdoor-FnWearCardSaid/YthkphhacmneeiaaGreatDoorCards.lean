/-
  DERIVED. GIVEN WITH THE SEED: THE CARDS: each row of YthkphhacmneeiaaGreatDoorRows.lean that lists a variable, with what it lists TIED to the program's text (the seventh form; the later family's looks); each row that meets fmt, with fmt's text TOLD by the authors' own Lean function (tested against real Go, not proved from fmt's source: count such statements apart). THE CARD IS WHAT COUNTS. Prove the row's statement (the work); the ties are given (YthkphhacmneeiaaGreatDoorTie.lean); close each card by the builder's one call (the guide's Derived/Test/ToyasCard.lean, 'card_holds'). Laid BY PROGRAM, IN A SANDBOX (cutbox-door.mjs). By AI agents, Wed Nov 11 2026. No macro, syntax, notation, axiom, sorry.
-/
import Derived.Test.YthkphhacmneeiaaGreatDoorRows
import GoSem.ClaimSeven
namespace Go.Proofs.YthkphhacmneeiaaGreatDoor
namespace Rows

/-- THE TIED CARD OF 'laws.FnWear'. -/
def fnWearCard : Claim7 := { stood := { row := fnWearRow, standIns := [], harness := (true, "f5457c82c6b0b6d8a4add1c567a909b217bebc298b0a2c70b8831f853c26d642"), looks := true }, kinds := [], alts := [], laidByText := true, laidKinds := [.data, .data, .data, .data, .sentinel, .sentinel, .pinned], laidTests := true, laidLooks := .later }
def FnWearCardSaid : Prop := Claim7.holds Tryz.pinned (.plain (OpenSpec.ofChange fnWearSpec)) fnWearCard

/-- THE SECOND FORM's CARD OF 'laws.FnWear'. -/
def fnWearUptoCard : Claim7 := { stood := { row := fnWearUptoRow, standIns := [], harness := (true, "f5457c82c6b0b6d8a4add1c567a909b217bebc298b0a2c70b8831f853c26d642"), looks := true }, kinds := [], alts := [], laidByText := true, laidKinds := [.data, .data, .data, .data, .sentinel, .sentinel, .pinned], laidTests := true, laidLooks := .later }
def FnWearUptoCardSaid : Prop := Claim7.holds Tryz.pinned (.plain (OpenSpec.upto fnWearSpec)) fnWearUptoCard
end Rows
end Go.Proofs.YthkphhacmneeiaaGreatDoor
