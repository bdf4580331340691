/-
  DERIVED. GIVEN WITH THE SEED: THE CARDS: each row of YtmphcmdnpldcpaaDoorRows.lean that lists a variable, with what it lists TIED to the program's text (the seventh form; the later family's looks); each row that meets fmt, with fmt's text TOLD by the authors' own Lean function (tested against real Go, not proved from fmt's source: count such statements apart). THE CARD IS WHAT COUNTS. Prove the row's statement (the work); the ties are given (YtmphcmdnpldcpaaDoorTie.lean); close each card by the builder's one call (the guide's Derived/Test/ToyasCard.lean, 'card_holds'). Laid BY PROGRAM, IN A SANDBOX (cutbox-door.mjs). By AI agents, Wed Nov 11 2026. No macro, syntax, notation, axiom, sorry.
-/
import Derived.Test.YtmphcmdnpldcpaaDoorRows
import GoSem.ClaimSeven
namespace Go.Proofs.YtmphcmdnpldcpaaDoor
namespace Rows

/-- THE TIED CARD OF 'laws.FnExactWearCard'. -/
def fnExactWearCardCard : Claim7 := { stood := { row := fnExactWearCardRow, standIns := [], harness := (true, "6988484b6513a2e6441786d987d73c187a6315d6a7fcf7a5d1d307e048e26861"), looks := false }, kinds := [], alts := [], laidByText := true, laidKinds := [.data, .pinned], laidTests := true, laidLooks := .later }
def FnExactWearCardCardSaid : Prop := Claim7.holds Tryd.pinned (.plain (OpenSpec.ofChange fnExactWearCardSpec)) fnExactWearCardCard

/-- THE TIED CARD OF 'laws.FnExactWearText'. -/
def fnExactWearTextCard : Claim7 := { stood := { row := fnExactWearTextRow, standIns := [], harness := (true, "6988484b6513a2e6441786d987d73c187a6315d6a7fcf7a5d1d307e048e26861"), looks := false }, kinds := [], alts := [], laidByText := true, laidKinds := [.data, .data, .data], laidTests := true, laidLooks := .later }
def FnExactWearTextCardSaid : Prop := Claim7.holds Tryd.pinned (.plain (OpenSpec.ofChange fnExactWearTextSpec)) fnExactWearTextCard

/-- THE TIED CARD OF 'laws.FnExactChanceWear'. -/
def fnExactChanceWearCard : Claim7 := { stood := { row := fnExactChanceWearRow, standIns := [], harness := (true, "6988484b6513a2e6441786d987d73c187a6315d6a7fcf7a5d1d307e048e26861"), looks := false }, kinds := [], alts := [], laidByText := true, laidKinds := [.data, .pinned], laidTests := true, laidLooks := .later }
def FnExactChanceWearCardSaid : Prop := Claim7.holds Tryd.pinned (.plain (OpenSpec.ofChange fnExactChanceWearSpec)) fnExactChanceWearCard

/-- THE SECOND FORM's CARD OF 'laws.FnExactWearCard'. -/
def fnExactWearCardUptoCard : Claim7 := { stood := { row := fnExactWearCardUptoRow, standIns := [], harness := (true, "6988484b6513a2e6441786d987d73c187a6315d6a7fcf7a5d1d307e048e26861"), looks := false }, kinds := [], alts := [], laidByText := true, laidKinds := [.data, .pinned], laidTests := true, laidLooks := .later }
def FnExactWearCardUptoCardSaid : Prop := Claim7.holds Tryd.pinned (.plain (OpenSpec.upto fnExactWearCardSpec)) fnExactWearCardUptoCard

/-- THE SECOND FORM's CARD OF 'laws.FnExactWearText'. -/
def fnExactWearTextUptoCard : Claim7 := { stood := { row := fnExactWearTextUptoRow, standIns := [], harness := (true, "6988484b6513a2e6441786d987d73c187a6315d6a7fcf7a5d1d307e048e26861"), looks := false }, kinds := [], alts := [], laidByText := true, laidKinds := [.data, .data, .data], laidTests := true, laidLooks := .later }
def FnExactWearTextUptoCardSaid : Prop := Claim7.holds Tryd.pinned (.plain (OpenSpec.upto fnExactWearTextSpec)) fnExactWearTextUptoCard

/-- THE SECOND FORM's CARD OF 'laws.FnExactChanceWear'. -/
def fnExactChanceWearUptoCard : Claim7 := { stood := { row := fnExactChanceWearUptoRow, standIns := [], harness := (true, "6988484b6513a2e6441786d987d73c187a6315d6a7fcf7a5d1d307e048e26861"), looks := false }, kinds := [], alts := [], laidByText := true, laidKinds := [.data, .pinned], laidTests := true, laidLooks := .later }
def FnExactChanceWearUptoCardSaid : Prop := Claim7.holds Tryd.pinned (.plain (OpenSpec.upto fnExactChanceWearSpec)) fnExactChanceWearUptoCard
end Rows
end Go.Proofs.YtmphcmdnpldcpaaDoor
