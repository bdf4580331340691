/-
  No cell of these rows narrows 'for every input' (looked for: loops, veiled, ifaces, maps, wideKeys, modest, calm, conditions, laid).
  DERIVED. THE GIVEN ROWS OF THIS SEAT. 9 by the template 'for every input the law returns true; each argument reads behind the call as it read before'; 0 by the template 'total and deterministic' (their statements: YtmphcmdnpldcpaaTotals.lean).
  GIVEN WITH THE SEED: the statements are not yours to turn. If you find one false, say at which input.
  Laid BY PROGRAM, IN A SANDBOX (cutbox-rows.mjs): the forced cells as the released guide's own fill.sh prints them over the translation 80d0340c5b69cc9b… (all of the seat's roots in one cut). By AI agents, Wed Nov 11 2026. No macro, syntax, notation, axiom, sorry.
-/
import Derived.Test.YtmphcmdnpldcpaaChecked
import GoSem.Claim
import GoSem.ClaimJoined
import GoSem.ClaimMapViews
import Derived.JoinedTies
import Derived.KernelRfl
namespace Go.Proofs.Ytmphcmdnpldcpaa
/- THE CELL 'sum', in the pinned program and in every row, IS THE sha256 OF THE DUMP (.gsa) THAT YtmphcmdnpldcpaaProg.lean LOADS. Nothing in Lean hashes anything: it is a label: what it is worth is what the hold of that sum in a sandbox is worth. -/
noncomputable def Try.pinned : Pinned := { name := "ytmphcmdnpldcpaa", sum := "80d0340c5b69cc9b7e1f08fabd977f09abfb182246b14a3b61358887310756fc", checked := Try.checked }
namespace Rows
def none {H : Type} : Left H := { results := [], args := [] }

/-- 'laws.FnExactValidWear': WHATEVER THE INPUT: true; the input reads as it did. -/
def fnExactValidWearSpec : ChangeSpec := { name := "fnExactValidWear", fn := fun _ => fun
  | [d] => { results := [.lit (.bool true)], args := [d] }
  | _ => none }
def fnExactValidWearRow : OpenClaim := { program := "ytmphcmdnpldcpaa", sum := "80d0340c5b69cc9b7e1f08fabd977f09abfb182246b14a3b61358887310756fc", func := "loop.example/g01261/laws.FnExactValidWear", spec := "fnExactValidWear", apart := false }
def FnExactValidWearSaid : Prop := fnExactValidWearRow.holds Try.pinned (OpenSpec.ofChange fnExactValidWearSpec)

/-- ITS FALSE NEIGHBOUR: 'it returns false'. Refute it at one input. -/
def fnExactValidWearWrong : ChangeSpec := { name := "fnExactValidWear", fn := fun _ => fun
  | [d] => { results := [.lit (.bool false)], args := [d] }
  | _ => none }
def FnExactValidWearWrongFalsely : Prop := fnExactValidWearRow.holds Try.pinned (OpenSpec.ofChange fnExactValidWearWrong)

/-- 'laws.FnExactWearBetween': WHATEVER THE INPUT: true; the input reads as it did. -/
def fnExactWearBetweenSpec : ChangeSpec := { name := "fnExactWearBetween", fn := fun _ => fun
  | [d1, d2] => { results := [.lit (.bool true)], args := [d1, d2] }
  | _ => none }
def fnExactWearBetweenRow : OpenClaim := { program := "ytmphcmdnpldcpaa", sum := "80d0340c5b69cc9b7e1f08fabd977f09abfb182246b14a3b61358887310756fc", func := "loop.example/g01261/laws.FnExactWearBetween", spec := "fnExactWearBetween", apart := false }
def FnExactWearBetweenSaid : Prop := fnExactWearBetweenRow.holds Try.pinned (OpenSpec.ofChange fnExactWearBetweenSpec)

/-- ITS FALSE NEIGHBOUR: 'it returns false'. Refute it at one input. -/
def fnExactWearBetweenWrong : ChangeSpec := { name := "fnExactWearBetween", fn := fun _ => fun
  | [d1, d2] => { results := [.lit (.bool false)], args := [d1, d2] }
  | _ => none }
def FnExactWearBetweenWrongFalsely : Prop := fnExactWearBetweenRow.holds Try.pinned (OpenSpec.ofChange fnExactWearBetweenWrong)

/-- 'laws.FnExactUndoWear': WHATEVER THE INPUT: true; the input reads as it did. -/
def fnExactUndoWearSpec : ChangeSpec := { name := "fnExactUndoWear", fn := fun _ => fun
  | [d] => { results := [.lit (.bool true)], args := [d] }
  | _ => none }
def fnExactUndoWearRow : OpenClaim := { program := "ytmphcmdnpldcpaa", sum := "80d0340c5b69cc9b7e1f08fabd977f09abfb182246b14a3b61358887310756fc", func := "loop.example/g01261/laws.FnExactUndoWear", spec := "fnExactUndoWear", apart := false }
def FnExactUndoWearSaid : Prop := fnExactUndoWearRow.holds Try.pinned (OpenSpec.ofChange fnExactUndoWearSpec)

/-- ITS FALSE NEIGHBOUR: 'it returns false'. Refute it at one input. -/
def fnExactUndoWearWrong : ChangeSpec := { name := "fnExactUndoWear", fn := fun _ => fun
  | [d] => { results := [.lit (.bool false)], args := [d] }
  | _ => none }
def FnExactUndoWearWrongFalsely : Prop := fnExactUndoWearRow.holds Try.pinned (OpenSpec.ofChange fnExactUndoWearWrong)

/-- 'laws.FnExactAfterWear': WHATEVER THE INPUT: true; the input reads as it did. -/
def fnExactAfterWearSpec : ChangeSpec := { name := "fnExactAfterWear", fn := fun _ => fun
  | [d1, d2] => { results := [.lit (.bool true)], args := [d1, d2] }
  | _ => none }
def fnExactAfterWearRow : OpenClaim := { program := "ytmphcmdnpldcpaa", sum := "80d0340c5b69cc9b7e1f08fabd977f09abfb182246b14a3b61358887310756fc", func := "loop.example/g01261/laws.FnExactAfterWear", spec := "fnExactAfterWear", apart := false }
def FnExactAfterWearSaid : Prop := fnExactAfterWearRow.holds Try.pinned (OpenSpec.ofChange fnExactAfterWearSpec)

/-- ITS FALSE NEIGHBOUR: 'it returns false'. Refute it at one input. -/
def fnExactAfterWearWrong : ChangeSpec := { name := "fnExactAfterWear", fn := fun _ => fun
  | [d1, d2] => { results := [.lit (.bool false)], args := [d1, d2] }
  | _ => none }
def FnExactAfterWearWrongFalsely : Prop := fnExactAfterWearRow.holds Try.pinned (OpenSpec.ofChange fnExactAfterWearWrong)

/-- 'laws.FnExactCountWear': WHATEVER THE INPUT: true; the input reads as it did. -/
def fnExactCountWearSpec : ChangeSpec := { name := "fnExactCountWear", fn := fun _ => fun
  | [d] => { results := [.lit (.bool true)], args := [d] }
  | _ => none }
def fnExactCountWearRow : OpenClaim := { program := "ytmphcmdnpldcpaa", sum := "80d0340c5b69cc9b7e1f08fabd977f09abfb182246b14a3b61358887310756fc", func := "loop.example/g01261/laws.FnExactCountWear", spec := "fnExactCountWear", apart := false }
def FnExactCountWearSaid : Prop := fnExactCountWearRow.holds Try.pinned (OpenSpec.ofChange fnExactCountWearSpec)

/-- ITS FALSE NEIGHBOUR: 'it returns false'. Refute it at one input. -/
def fnExactCountWearWrong : ChangeSpec := { name := "fnExactCountWear", fn := fun _ => fun
  | [d] => { results := [.lit (.bool false)], args := [d] }
  | _ => none }
def FnExactCountWearWrongFalsely : Prop := fnExactCountWearRow.holds Try.pinned (OpenSpec.ofChange fnExactCountWearWrong)

/-- 'laws.FnExactVotesFor': WHATEVER THE INPUT: true; the input reads as it did. -/
def fnExactVotesForSpec : ChangeSpec := { name := "fnExactVotesFor", fn := fun _ => fun
  | [d1, d2] => { results := [.lit (.bool true)], args := [d1, d2] }
  | _ => none }
def fnExactVotesForRow : OpenClaim := { program := "ytmphcmdnpldcpaa", sum := "80d0340c5b69cc9b7e1f08fabd977f09abfb182246b14a3b61358887310756fc", func := "loop.example/g01261/laws.FnExactVotesFor", spec := "fnExactVotesFor", unfollowed := true, recurses := true, apart := false }
def FnExactVotesForSaid : Prop := fnExactVotesForRow.holds Try.pinned (OpenSpec.ofChange fnExactVotesForSpec)

/-- ITS FALSE NEIGHBOUR: 'it returns false'. Refute it at one input. -/
def fnExactVotesForWrong : ChangeSpec := { name := "fnExactVotesFor", fn := fun _ => fun
  | [d1, d2] => { results := [.lit (.bool false)], args := [d1, d2] }
  | _ => none }
def FnExactVotesForWrongFalsely : Prop := fnExactVotesForRow.holds Try.pinned (OpenSpec.ofChange fnExactVotesForWrong)

/-- 'laws.FnExactLonelyHoles': WHATEVER THE INPUT: true; the input reads as it did. -/
def fnExactLonelyHolesSpec : ChangeSpec := { name := "fnExactLonelyHoles", fn := fun _ => fun
  | [d] => { results := [.lit (.bool true)], args := [d] }
  | _ => none }
def fnExactLonelyHolesRow : OpenClaim := { program := "ytmphcmdnpldcpaa", sum := "80d0340c5b69cc9b7e1f08fabd977f09abfb182246b14a3b61358887310756fc", func := "loop.example/g01261/laws.FnExactLonelyHoles", spec := "fnExactLonelyHoles", unfollowed := true, recurses := true, apart := false }
def FnExactLonelyHolesSaid : Prop := fnExactLonelyHolesRow.holds Try.pinned (OpenSpec.ofChange fnExactLonelyHolesSpec)

/-- ITS FALSE NEIGHBOUR: 'it returns false'. Refute it at one input. -/
def fnExactLonelyHolesWrong : ChangeSpec := { name := "fnExactLonelyHoles", fn := fun _ => fun
  | [d] => { results := [.lit (.bool false)], args := [d] }
  | _ => none }
def FnExactLonelyHolesWrongFalsely : Prop := fnExactLonelyHolesRow.holds Try.pinned (OpenSpec.ofChange fnExactLonelyHolesWrong)

/-- 'laws.FnExactMajorityOf': WHATEVER THE INPUT: true; the input reads as it did. -/
def fnExactMajorityOfSpec : ChangeSpec := { name := "fnExactMajorityOf", fn := fun _ => fun
  | [d] => { results := [.lit (.bool true)], args := [d] }
  | _ => none }
def fnExactMajorityOfRow : OpenClaim := { program := "ytmphcmdnpldcpaa", sum := "80d0340c5b69cc9b7e1f08fabd977f09abfb182246b14a3b61358887310756fc", func := "loop.example/g01261/laws.FnExactMajorityOf", spec := "fnExactMajorityOf", unfollowed := true, recurses := true, apart := false }
def FnExactMajorityOfSaid : Prop := fnExactMajorityOfRow.holds Try.pinned (OpenSpec.ofChange fnExactMajorityOfSpec)

/-- ITS FALSE NEIGHBOUR: 'it returns false'. Refute it at one input. -/
def fnExactMajorityOfWrong : ChangeSpec := { name := "fnExactMajorityOf", fn := fun _ => fun
  | [d] => { results := [.lit (.bool false)], args := [d] }
  | _ => none }
def FnExactMajorityOfWrongFalsely : Prop := fnExactMajorityOfRow.holds Try.pinned (OpenSpec.ofChange fnExactMajorityOfWrong)

/-- 'laws.FnVotes': WHATEVER THE INPUT: true; the input reads as it did. -/
def fnVotesSpec : ChangeSpec := { name := "fnVotes", fn := fun _ => fun
  | [d1, d2] => { results := [.lit (.bool true)], args := [d1, d2] }
  | _ => none }
def fnVotesRow : OpenClaim := { program := "ytmphcmdnpldcpaa", sum := "80d0340c5b69cc9b7e1f08fabd977f09abfb182246b14a3b61358887310756fc", func := "loop.example/g01261/laws.FnVotes", spec := "fnVotes", unfollowed := true, recurses := true, apart := false }
def FnVotesSaid : Prop := fnVotesRow.holds Try.pinned (OpenSpec.ofChange fnVotesSpec)

/-- ITS FALSE NEIGHBOUR: 'it returns false'. Refute it at one input. -/
def fnVotesWrong : ChangeSpec := { name := "fnVotes", fn := fun _ => fun
  | [d1, d2] => { results := [.lit (.bool false)], args := [d1, d2] }
  | _ => none }
def FnVotesWrongFalsely : Prop := fnVotesRow.holds Try.pinned (OpenSpec.ofChange fnVotesWrong)

/- THE SECOND FORM. 'bulk': how many values and letters a reading holds, each counted each time it is reached (what is shared counts as often as it is met; a slice's spare places count too). A statement '..UptoSaid' is the law's where the arguments, and the package variables that the reading takes, are together of bulk at most 1048576: NARROWER than '..Said'. Prove '..Said' where nothing that the law and all that it calls make is longer than what came in: it says more and counts as full. Else prove '..UptoSaid'. A law counts once. -/
mutual
def uptoBulk {H : Type} : DataW H → Nat
  | .lit (.string bytes) => bytes.length + 1
  | .lit _ => 1
  | .nil => 1
  | .ptr d => uptoBulk d + 1
  | .slice elems spare => uptoBulkAll elems + uptoBulkAll spare + 1
  | .agg parts => uptoBulkAll parts + 1
  | .iface _ d => uptoBulk d + 1
  | .map entries => uptoBulkEntries entries + 1
  | .held _ => 1
def uptoBulkAll {H : Type} : List (DataW H) → Nat
  | [] => 0
  | d :: r => uptoBulk d + uptoBulkAll r
def uptoBulkEntries {H : Type} : List (Lit × DataW H) → Nat
  | [] => 0
  | x :: r => uptoBulkEntry x + uptoBulkEntries r
def uptoBulkEntry {H : Type} : Lit × DataW H → Nat
  | (.string bytes, d) => bytes.length + uptoBulk d + 1
  | (_, d) => uptoBulk d + 1
 end
def uptoSmall : (H : Type) → List (DataW H) → Bool := fun _ ds => decide (uptoBulkAll ds ≤ 1048576)
def OpenSpec.upto (s : _root_.Go.ChangeSpec) : _root_.Go.OpenSpec := { _root_.Go.OpenSpec.ofChange s with cond := some uptoSmall }

/-- 'laws.FnExactValidWear', WHERE WHAT IT READS IS OF BULK AT MOST 1048576: true; the input reads as it did. -/
def fnExactValidWearUptoRow : OpenClaim := { program := "ytmphcmdnpldcpaa", sum := "80d0340c5b69cc9b7e1f08fabd977f09abfb182246b14a3b61358887310756fc", func := "loop.example/g01261/laws.FnExactValidWear", spec := "fnExactValidWear", apart := false, narrowed := true }
def FnExactValidWearUptoSaid : Prop := fnExactValidWearUptoRow.holds Try.pinned (OpenSpec.upto fnExactValidWearSpec)

/-- 'laws.FnExactWearBetween', WHERE WHAT IT READS IS OF BULK AT MOST 1048576: true; the input reads as it did. -/
def fnExactWearBetweenUptoRow : OpenClaim := { program := "ytmphcmdnpldcpaa", sum := "80d0340c5b69cc9b7e1f08fabd977f09abfb182246b14a3b61358887310756fc", func := "loop.example/g01261/laws.FnExactWearBetween", spec := "fnExactWearBetween", apart := false, narrowed := true }
def FnExactWearBetweenUptoSaid : Prop := fnExactWearBetweenUptoRow.holds Try.pinned (OpenSpec.upto fnExactWearBetweenSpec)

/-- 'laws.FnExactUndoWear', WHERE WHAT IT READS IS OF BULK AT MOST 1048576: true; the input reads as it did. -/
def fnExactUndoWearUptoRow : OpenClaim := { program := "ytmphcmdnpldcpaa", sum := "80d0340c5b69cc9b7e1f08fabd977f09abfb182246b14a3b61358887310756fc", func := "loop.example/g01261/laws.FnExactUndoWear", spec := "fnExactUndoWear", apart := false, narrowed := true }
def FnExactUndoWearUptoSaid : Prop := fnExactUndoWearUptoRow.holds Try.pinned (OpenSpec.upto fnExactUndoWearSpec)

/-- 'laws.FnExactAfterWear', WHERE WHAT IT READS IS OF BULK AT MOST 1048576: true; the input reads as it did. -/
def fnExactAfterWearUptoRow : OpenClaim := { program := "ytmphcmdnpldcpaa", sum := "80d0340c5b69cc9b7e1f08fabd977f09abfb182246b14a3b61358887310756fc", func := "loop.example/g01261/laws.FnExactAfterWear", spec := "fnExactAfterWear", apart := false, narrowed := true }
def FnExactAfterWearUptoSaid : Prop := fnExactAfterWearUptoRow.holds Try.pinned (OpenSpec.upto fnExactAfterWearSpec)

/-- 'laws.FnExactCountWear', WHERE WHAT IT READS IS OF BULK AT MOST 1048576: true; the input reads as it did. -/
def fnExactCountWearUptoRow : OpenClaim := { program := "ytmphcmdnpldcpaa", sum := "80d0340c5b69cc9b7e1f08fabd977f09abfb182246b14a3b61358887310756fc", func := "loop.example/g01261/laws.FnExactCountWear", spec := "fnExactCountWear", apart := false, narrowed := true }
def FnExactCountWearUptoSaid : Prop := fnExactCountWearUptoRow.holds Try.pinned (OpenSpec.upto fnExactCountWearSpec)

/-- 'laws.FnExactVotesFor', WHERE WHAT IT READS IS OF BULK AT MOST 1048576: true; the input reads as it did. -/
def fnExactVotesForUptoRow : OpenClaim := { program := "ytmphcmdnpldcpaa", sum := "80d0340c5b69cc9b7e1f08fabd977f09abfb182246b14a3b61358887310756fc", func := "loop.example/g01261/laws.FnExactVotesFor", spec := "fnExactVotesFor", unfollowed := true, recurses := true, apart := false, narrowed := true }
def FnExactVotesForUptoSaid : Prop := fnExactVotesForUptoRow.holds Try.pinned (OpenSpec.upto fnExactVotesForSpec)

/-- 'laws.FnExactLonelyHoles', WHERE WHAT IT READS IS OF BULK AT MOST 1048576: true; the input reads as it did. -/
def fnExactLonelyHolesUptoRow : OpenClaim := { program := "ytmphcmdnpldcpaa", sum := "80d0340c5b69cc9b7e1f08fabd977f09abfb182246b14a3b61358887310756fc", func := "loop.example/g01261/laws.FnExactLonelyHoles", spec := "fnExactLonelyHoles", unfollowed := true, recurses := true, apart := false, narrowed := true }
def FnExactLonelyHolesUptoSaid : Prop := fnExactLonelyHolesUptoRow.holds Try.pinned (OpenSpec.upto fnExactLonelyHolesSpec)

/-- 'laws.FnExactMajorityOf', WHERE WHAT IT READS IS OF BULK AT MOST 1048576: true; the input reads as it did. -/
def fnExactMajorityOfUptoRow : OpenClaim := { program := "ytmphcmdnpldcpaa", sum := "80d0340c5b69cc9b7e1f08fabd977f09abfb182246b14a3b61358887310756fc", func := "loop.example/g01261/laws.FnExactMajorityOf", spec := "fnExactMajorityOf", unfollowed := true, recurses := true, apart := false, narrowed := true }
def FnExactMajorityOfUptoSaid : Prop := fnExactMajorityOfUptoRow.holds Try.pinned (OpenSpec.upto fnExactMajorityOfSpec)

/-- 'laws.FnVotes', WHERE WHAT IT READS IS OF BULK AT MOST 1048576: true; the input reads as it did. -/
def fnVotesUptoRow : OpenClaim := { program := "ytmphcmdnpldcpaa", sum := "80d0340c5b69cc9b7e1f08fabd977f09abfb182246b14a3b61358887310756fc", func := "loop.example/g01261/laws.FnVotes", spec := "fnVotes", unfollowed := true, recurses := true, apart := false, narrowed := true }
def FnVotesUptoSaid : Prop := fnVotesUptoRow.holds Try.pinned (OpenSpec.upto fnVotesSpec)

end Rows
end Go.Proofs.Ytmphcmdnpldcpaa
