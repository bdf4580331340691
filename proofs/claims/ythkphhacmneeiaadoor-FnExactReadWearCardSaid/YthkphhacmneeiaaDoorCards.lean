/-
  DERIVED. GIVEN WITH THE SEED: THE CARDS: each row of YthkphhacmneeiaaDoorRows.lean that lists a variable, with what it lists TIED to the program's text (the seventh form; the later family's looks); each row that meets fmt, with fmt's text TOLD by the authors' own Lean function (tested against real Go, not proved from fmt's source: count such statements apart). THE CARD IS WHAT COUNTS. Prove the row's statement (the work); the ties are given (YthkphhacmneeiaaDoorTie.lean); close each card by the builder's one call (the guide's Derived/Test/ToyasCard.lean, 'card_holds'). Laid BY PROGRAM, IN A SANDBOX (cutbox-door.mjs). By AI agents, Wed Nov 11 2026. No macro, syntax, notation, axiom, sorry.
-/
import Derived.Test.YthkphhacmneeiaaDoorRows
import GoSem.ClaimSeven
namespace Go.Proofs.YthkphhacmneeiaaDoor
namespace Rows

/-- THE TIED CARD OF 'laws.FnExactWearText'. -/
def fnExactWearTextCard : Claim7 := { stood := { row := fnExactWearTextRow, standIns := [], harness := (true, "b9dd9851dc3090a0f86ce5c0d657e770d62cb7f36770a08c66f0959944c2b623"), looks := true }, kinds := [], alts := [], laidByText := true, laidKinds := [.data, .data, .data], laidTests := true, laidLooks := .later }
def FnExactWearTextCardSaid : Prop := Claim7.holds Tryd.pinned (.plain (OpenSpec.ofChange fnExactWearTextSpec)) fnExactWearTextCard

/-- THE TIED CARD OF 'laws.FnExactReadWear'. -/
def fnExactReadWearCard : Claim7 := { stood := { row := fnExactReadWearRow, standIns := [], harness := (true, "b9dd9851dc3090a0f86ce5c0d657e770d62cb7f36770a08c66f0959944c2b623"), looks := true }, kinds := [], alts := [], laidByText := true, laidKinds := [.data, .data, .data, .data, .sentinel, .sentinel, .pinned], laidTests := true, laidLooks := .later }
def FnExactReadWearCardSaid : Prop := Claim7.holds Tryd.pinned (.plain (OpenSpec.ofChange fnExactReadWearSpec)) fnExactReadWearCard

/-- THE SECOND FORM's CARD OF 'laws.FnExactWearText'. -/
def fnExactWearTextUptoCard : Claim7 := { stood := { row := fnExactWearTextUptoRow, standIns := [], harness := (true, "b9dd9851dc3090a0f86ce5c0d657e770d62cb7f36770a08c66f0959944c2b623"), looks := true }, kinds := [], alts := [], laidByText := true, laidKinds := [.data, .data, .data], laidTests := true, laidLooks := .later }
def FnExactWearTextUptoCardSaid : Prop := Claim7.holds Tryd.pinned (.plain (OpenSpec.upto fnExactWearTextSpec)) fnExactWearTextUptoCard

/-- THE SECOND FORM's CARD OF 'laws.FnExactReadWear'. -/
def fnExactReadWearUptoCard : Claim7 := { stood := { row := fnExactReadWearUptoRow, standIns := [], harness := (true, "b9dd9851dc3090a0f86ce5c0d657e770d62cb7f36770a08c66f0959944c2b623"), looks := true }, kinds := [], alts := [], laidByText := true, laidKinds := [.data, .data, .data, .data, .sentinel, .sentinel, .pinned], laidTests := true, laidLooks := .later }
def FnExactReadWearUptoCardSaid : Prop := Claim7.holds Tryd.pinned (.plain (OpenSpec.upto fnExactReadWearSpec)) fnExactReadWearUptoCard
end Rows
end Go.Proofs.YthkphhacmneeiaaDoor
