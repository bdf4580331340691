/-
  NARROWER THAN 'FOR EVERY INPUT', by the rows' own cells (each row's printed sentence says how): FnExactNearestValue: laid · FnExactIsTold: laid · FnExactValuesNear: laid · FnExactRepairField: laid · FnExactValuesOf: laid · FnExactMakeCard: laid · FnExactDoubtsOf: laid · FnExactRepairCard: laid.
  DERIVED. THE GIVEN ROWS OF THIS SEAT. 8 by the template 'for every input the law returns true; each argument reads behind the call as it read before'; 0 by the template 'total and deterministic' (their statements: YtknbebglabpegaaDoorTotals.lean).
  GIVEN WITH THE SEED: the statements are not yours to turn. If you find one false, say at which input.
  Laid BY PROGRAM, IN A SANDBOX (cutbox-rows.mjs): the forced cells as the released guide's own fill.sh prints them over the translation 35b56122b90506da… (all of the seat's roots in one cut). By AI agents, Wed Nov 11 2026. No macro, syntax, notation, axiom, sorry.
-/
import Derived.Test.YtknbebglabpegaaDoorChecked
import GoSem.PinnedTables
import GoSem.Claim
import GoSem.ClaimJoined
import GoSem.ClaimMapViews
import Derived.JoinedTies
import Derived.KernelRfl
namespace Go.Proofs.YtknbebglabpegaaDoor
/- THE CELL 'sum', in the pinned program and in every row, IS THE sha256 OF THE DUMP (.gsa) THAT YtknbebglabpegaaDoorProg.lean LOADS. Nothing in Lean hashes anything: it is a label: what it is worth is what the hold of that sum in a sandbox is worth. -/
noncomputable def Tryd.pinned : Pinned := { name := "ytknbebglabpegaadoor", sum := "35b56122b90506dafeda10af80840ff7972697edf9b998e5e6415bcb7a286ce0", checked := Tryd.checked }
namespace Rows
def none {H : Type} : Left H := { results := [], args := [] }

/- WHAT THE LISTED PACKAGE-LEVEL VARIABLES READ AS WHEN THE CALL BEGINS. Each datum BY PROGRAM (the guide's laid-datum.mjs) off the statement by which the dump's own 'gosem.cut.vars' lays the variable. In a bare row this is a premise. The card (YtknbebglabpegaaDoorCards.lean) ties it to the program's text. -/
def laid_unicode_utf8_acceptRanges {H : Type} : DataW H := .agg [.agg [.lit (.int .u8 128), .lit (.int .u8 191)], .agg [.lit (.int .u8 160), .lit (.int .u8 191)], .agg [.lit (.int .u8 128), .lit (.int .u8 159)], .agg [.lit (.int .u8 144), .lit (.int .u8 191)], .agg [.lit (.int .u8 128), .lit (.int .u8 143)], .agg [.lit (.int .u8 0), .lit (.int .u8 0)], .agg [.lit (.int .u8 0), .lit (.int .u8 0)], .agg [.lit (.int .u8 0), .lit (.int .u8 0)], .agg [.lit (.int .u8 0), .lit (.int .u8 0)], .agg [.lit (.int .u8 0), .lit (.int .u8 0)], .agg [.lit (.int .u8 0), .lit (.int .u8 0)], .agg [.lit (.int .u8 0), .lit (.int .u8 0)], .agg [.lit (.int .u8 0), .lit (.int .u8 0)], .agg [.lit (.int .u8 0), .lit (.int .u8 0)], .agg [.lit (.int .u8 0), .lit (.int .u8 0)], .agg [.lit (.int .u8 0), .lit (.int .u8 0)]]
/-- One of Go's own tables, pinned by name: the form's constant. -/
def laid_unicode_utf8_first : DataW Unit := Go.Pinned.utf8First

/-- 'laws.FnExactNearestValue': WHATEVER THE INPUT: true; the input reads as it did. -/
def fnExactNearestValueSpec : ChangeSpec := { name := "fnExactNearestValue", fn := fun _ => fun
  | [d1, d2] => { results := [.lit (.bool true)], args := [d1, d2] }
  | _ => none }
def fnExactNearestValueRow : OpenClaim := { program := "ytknbebglabpegaadoor", sum := "35b56122b90506dafeda10af80840ff7972697edf9b998e5e6415bcb7a286ce0", func := "loop.example/g01261/laws.FnExactNearestValue", spec := "fnExactNearestValue", inPlace := ["internal/bytealg.IndexByteString", "internal/bytealg.IndexString"], named := ["unicode/utf8.first", "unicode/utf8.acceptRanges", "internal/bytealg.MaxLen"], apart := false, laid := [("unicode/utf8.acceptRanges", laid_unicode_utf8_acceptRanges), ("unicode/utf8.first", laid_unicode_utf8_first)] }
def FnExactNearestValueSaid : Prop := fnExactNearestValueRow.holds Tryd.pinned (OpenSpec.ofChange fnExactNearestValueSpec)

/-- ITS FALSE NEIGHBOUR: 'it returns false'. Refute it at one input. -/
def fnExactNearestValueWrong : ChangeSpec := { name := "fnExactNearestValue", fn := fun _ => fun
  | [d1, d2] => { results := [.lit (.bool false)], args := [d1, d2] }
  | _ => none }
def FnExactNearestValueWrongFalsely : Prop := fnExactNearestValueRow.holds Tryd.pinned (OpenSpec.ofChange fnExactNearestValueWrong)

/-- 'laws.FnExactIsTold': WHATEVER THE INPUT: true; the input reads as it did. -/
def fnExactIsToldSpec : ChangeSpec := { name := "fnExactIsTold", fn := fun _ => fun
  | [d1, d2, d3] => { results := [.lit (.bool true)], args := [d1, d2, d3] }
  | _ => none }
def fnExactIsToldRow : OpenClaim := { program := "ytknbebglabpegaadoor", sum := "35b56122b90506dafeda10af80840ff7972697edf9b998e5e6415bcb7a286ce0", func := "loop.example/g01261/laws.FnExactIsTold", spec := "fnExactIsTold", inPlace := ["internal/bytealg.IndexByteString", "internal/bytealg.IndexString"], named := ["unicode/utf8.first", "unicode/utf8.acceptRanges", "internal/bytealg.MaxLen"], apart := false, laid := [("unicode/utf8.acceptRanges", laid_unicode_utf8_acceptRanges), ("unicode/utf8.first", laid_unicode_utf8_first)] }
def FnExactIsToldSaid : Prop := fnExactIsToldRow.holds Tryd.pinned (OpenSpec.ofChange fnExactIsToldSpec)

/-- ITS FALSE NEIGHBOUR: 'it returns false'. Refute it at one input. -/
def fnExactIsToldWrong : ChangeSpec := { name := "fnExactIsTold", fn := fun _ => fun
  | [d1, d2, d3] => { results := [.lit (.bool false)], args := [d1, d2, d3] }
  | _ => none }
def FnExactIsToldWrongFalsely : Prop := fnExactIsToldRow.holds Tryd.pinned (OpenSpec.ofChange fnExactIsToldWrong)

/-- 'laws.FnExactValuesNear': WHATEVER THE INPUT: true; the input reads as it did. -/
def fnExactValuesNearSpec : ChangeSpec := { name := "fnExactValuesNear", fn := fun _ => fun
  | [d1, d2, d3] => { results := [.lit (.bool true)], args := [d1, d2, d3] }
  | _ => none }
def fnExactValuesNearRow : OpenClaim := { program := "ytknbebglabpegaadoor", sum := "35b56122b90506dafeda10af80840ff7972697edf9b998e5e6415bcb7a286ce0", func := "loop.example/g01261/laws.FnExactValuesNear", spec := "fnExactValuesNear", inPlace := ["internal/bytealg.IndexByteString", "internal/bytealg.IndexString"], named := ["unicode/utf8.first", "unicode/utf8.acceptRanges", "internal/bytealg.MaxLen"], apart := false, laid := [("unicode/utf8.acceptRanges", laid_unicode_utf8_acceptRanges), ("unicode/utf8.first", laid_unicode_utf8_first)] }
def FnExactValuesNearSaid : Prop := fnExactValuesNearRow.holds Tryd.pinned (OpenSpec.ofChange fnExactValuesNearSpec)

/-- ITS FALSE NEIGHBOUR: 'it returns false'. Refute it at one input. -/
def fnExactValuesNearWrong : ChangeSpec := { name := "fnExactValuesNear", fn := fun _ => fun
  | [d1, d2, d3] => { results := [.lit (.bool false)], args := [d1, d2, d3] }
  | _ => none }
def FnExactValuesNearWrongFalsely : Prop := fnExactValuesNearRow.holds Tryd.pinned (OpenSpec.ofChange fnExactValuesNearWrong)

/-- 'laws.FnExactRepairField': WHATEVER THE INPUT: true; the input reads as it did. -/
def fnExactRepairFieldSpec : ChangeSpec := { name := "fnExactRepairField", fn := fun _ => fun
  | [d1, d2, d3] => { results := [.lit (.bool true)], args := [d1, d2, d3] }
  | _ => none }
def fnExactRepairFieldRow : OpenClaim := { program := "ytknbebglabpegaadoor", sum := "35b56122b90506dafeda10af80840ff7972697edf9b998e5e6415bcb7a286ce0", func := "loop.example/g01261/laws.FnExactRepairField", spec := "fnExactRepairField", inPlace := ["internal/bytealg.IndexByteString", "internal/bytealg.IndexString"], unfollowed := true, recurses := true, named := ["unicode/utf8.first", "unicode/utf8.acceptRanges", "internal/bytealg.MaxLen"], apart := false, laid := [("unicode/utf8.acceptRanges", laid_unicode_utf8_acceptRanges), ("unicode/utf8.first", laid_unicode_utf8_first)] }
def FnExactRepairFieldSaid : Prop := fnExactRepairFieldRow.holds Tryd.pinned (OpenSpec.ofChange fnExactRepairFieldSpec)

/-- ITS FALSE NEIGHBOUR: 'it returns false'. Refute it at one input. -/
def fnExactRepairFieldWrong : ChangeSpec := { name := "fnExactRepairField", fn := fun _ => fun
  | [d1, d2, d3] => { results := [.lit (.bool false)], args := [d1, d2, d3] }
  | _ => none }
def FnExactRepairFieldWrongFalsely : Prop := fnExactRepairFieldRow.holds Tryd.pinned (OpenSpec.ofChange fnExactRepairFieldWrong)

/-- 'laws.FnExactValuesOf': WHATEVER THE INPUT: true; the input reads as it did. -/
def fnExactValuesOfSpec : ChangeSpec := { name := "fnExactValuesOf", fn := fun _ => fun
  | [d1, d2] => { results := [.lit (.bool true)], args := [d1, d2] }
  | _ => none }
def fnExactValuesOfRow : OpenClaim := { program := "ytknbebglabpegaadoor", sum := "35b56122b90506dafeda10af80840ff7972697edf9b998e5e6415bcb7a286ce0", func := "loop.example/g01261/laws.FnExactValuesOf", spec := "fnExactValuesOf", inPlace := ["internal/bytealg.IndexByteString", "internal/bytealg.IndexString"], unfollowed := true, recurses := true, named := ["unicode/utf8.first", "unicode/utf8.acceptRanges", "internal/bytealg.MaxLen"], apart := false, laid := [("unicode/utf8.acceptRanges", laid_unicode_utf8_acceptRanges), ("unicode/utf8.first", laid_unicode_utf8_first)] }
def FnExactValuesOfSaid : Prop := fnExactValuesOfRow.holds Tryd.pinned (OpenSpec.ofChange fnExactValuesOfSpec)

/-- ITS FALSE NEIGHBOUR: 'it returns false'. Refute it at one input. -/
def fnExactValuesOfWrong : ChangeSpec := { name := "fnExactValuesOf", fn := fun _ => fun
  | [d1, d2] => { results := [.lit (.bool false)], args := [d1, d2] }
  | _ => none }
def FnExactValuesOfWrongFalsely : Prop := fnExactValuesOfRow.holds Tryd.pinned (OpenSpec.ofChange fnExactValuesOfWrong)

/-- 'laws.FnExactMakeCard': WHATEVER THE INPUT: true; the input reads as it did. -/
def fnExactMakeCardSpec : ChangeSpec := { name := "fnExactMakeCard", fn := fun _ => fun
  | [d1, d2, d3] => { results := [.lit (.bool true)], args := [d1, d2, d3] }
  | _ => none }
def fnExactMakeCardRow : OpenClaim := { program := "ytknbebglabpegaadoor", sum := "35b56122b90506dafeda10af80840ff7972697edf9b998e5e6415bcb7a286ce0", func := "loop.example/g01261/laws.FnExactMakeCard", spec := "fnExactMakeCard", inPlace := ["internal/bytealg.IndexByteString", "internal/bytealg.IndexString"], unfollowed := true, recurses := true, named := ["unicode/utf8.first", "unicode/utf8.acceptRanges", "internal/bytealg.MaxLen"], apart := false, laid := [("unicode/utf8.acceptRanges", laid_unicode_utf8_acceptRanges), ("unicode/utf8.first", laid_unicode_utf8_first)] }
def FnExactMakeCardSaid : Prop := fnExactMakeCardRow.holds Tryd.pinned (OpenSpec.ofChange fnExactMakeCardSpec)

/-- ITS FALSE NEIGHBOUR: 'it returns false'. Refute it at one input. -/
def fnExactMakeCardWrong : ChangeSpec := { name := "fnExactMakeCard", fn := fun _ => fun
  | [d1, d2, d3] => { results := [.lit (.bool false)], args := [d1, d2, d3] }
  | _ => none }
def FnExactMakeCardWrongFalsely : Prop := fnExactMakeCardRow.holds Tryd.pinned (OpenSpec.ofChange fnExactMakeCardWrong)

/-- 'laws.FnExactDoubtsOf': WHATEVER THE INPUT: true; the input reads as it did. -/
def fnExactDoubtsOfSpec : ChangeSpec := { name := "fnExactDoubtsOf", fn := fun _ => fun
  | [d1, d2] => { results := [.lit (.bool true)], args := [d1, d2] }
  | _ => none }
def fnExactDoubtsOfRow : OpenClaim := { program := "ytknbebglabpegaadoor", sum := "35b56122b90506dafeda10af80840ff7972697edf9b998e5e6415bcb7a286ce0", func := "loop.example/g01261/laws.FnExactDoubtsOf", spec := "fnExactDoubtsOf", inPlace := ["internal/bytealg.IndexByteString", "internal/bytealg.IndexString"], unfollowed := true, recurses := true, named := ["unicode/utf8.first", "unicode/utf8.acceptRanges", "internal/bytealg.MaxLen"], apart := false, laid := [("unicode/utf8.acceptRanges", laid_unicode_utf8_acceptRanges), ("unicode/utf8.first", laid_unicode_utf8_first)] }
def FnExactDoubtsOfSaid : Prop := fnExactDoubtsOfRow.holds Tryd.pinned (OpenSpec.ofChange fnExactDoubtsOfSpec)

/-- ITS FALSE NEIGHBOUR: 'it returns false'. Refute it at one input. -/
def fnExactDoubtsOfWrong : ChangeSpec := { name := "fnExactDoubtsOf", fn := fun _ => fun
  | [d1, d2] => { results := [.lit (.bool false)], args := [d1, d2] }
  | _ => none }
def FnExactDoubtsOfWrongFalsely : Prop := fnExactDoubtsOfRow.holds Tryd.pinned (OpenSpec.ofChange fnExactDoubtsOfWrong)

/-- 'laws.FnExactRepairCard': WHATEVER THE INPUT: true; the input reads as it did. -/
def fnExactRepairCardSpec : ChangeSpec := { name := "fnExactRepairCard", fn := fun _ => fun
  | [d1, d2, d3] => { results := [.lit (.bool true)], args := [d1, d2, d3] }
  | _ => none }
def fnExactRepairCardRow : OpenClaim := { program := "ytknbebglabpegaadoor", sum := "35b56122b90506dafeda10af80840ff7972697edf9b998e5e6415bcb7a286ce0", func := "loop.example/g01261/laws.FnExactRepairCard", spec := "fnExactRepairCard", inPlace := ["internal/bytealg.IndexByteString", "internal/bytealg.IndexString"], unfollowed := true, recurses := true, named := ["unicode/utf8.first", "unicode/utf8.acceptRanges", "internal/bytealg.MaxLen"], apart := false, laid := [("unicode/utf8.acceptRanges", laid_unicode_utf8_acceptRanges), ("unicode/utf8.first", laid_unicode_utf8_first)] }
def FnExactRepairCardSaid : Prop := fnExactRepairCardRow.holds Tryd.pinned (OpenSpec.ofChange fnExactRepairCardSpec)

/-- ITS FALSE NEIGHBOUR: 'it returns false'. Refute it at one input. -/
def fnExactRepairCardWrong : ChangeSpec := { name := "fnExactRepairCard", fn := fun _ => fun
  | [d1, d2, d3] => { results := [.lit (.bool false)], args := [d1, d2, d3] }
  | _ => none }
def FnExactRepairCardWrongFalsely : Prop := fnExactRepairCardRow.holds Tryd.pinned (OpenSpec.ofChange fnExactRepairCardWrong)

/- THE SECOND FORM. 'bulk': how many values and letters a reading holds, each counted each time it is reached (what is shared counts as often as it is met; a slice's spare places count too). A statement '..UptoSaid' is the law's where the arguments, and the package variables that the reading takes, are together of bulk at most 1048576: NARROWER than '..Said'. Prove '..Said' where nothing that the law and all that it calls make is longer than what came in: it says more and counts as full. Else prove '..UptoSaid'. A law counts once. -/
mutual
def uptoBulk {H : Type} : DataW H → Nat
  | .lit (.string bytes) => bytes.length + 1
  | .lit _ => 1
  | .nil => 1
  | .ptr d => uptoBulk d + 1
  | .slice elems spare => uptoBulkAll elems + uptoBulkAll spare + 1
  | .agg parts => uptoBulkAll parts + 1
  | .iface _ d => uptoBulk d + 1
  | .map entries => uptoBulkEntries entries + 1
  | .held _ => 1
def uptoBulkAll {H : Type} : List (DataW H) → Nat
  | [] => 0
  | d :: r => uptoBulk d + uptoBulkAll r
def uptoBulkEntries {H : Type} : List (Lit × DataW H) → Nat
  | [] => 0
  | x :: r => uptoBulkEntry x + uptoBulkEntries r
def uptoBulkEntry {H : Type} : Lit × DataW H → Nat
  | (.string bytes, d) => bytes.length + uptoBulk d + 1
  | (_, d) => uptoBulk d + 1
 end
def uptoSmall : (H : Type) → List (DataW H) → Bool := fun _ ds => decide (uptoBulkAll ds ≤ 1048576)
def OpenSpec.upto (s : _root_.Go.ChangeSpec) : _root_.Go.OpenSpec := { _root_.Go.OpenSpec.ofChange s with cond := some uptoSmall }

/-- 'laws.FnExactNearestValue', WHERE WHAT IT READS IS OF BULK AT MOST 1048576: true; the input reads as it did. -/
def fnExactNearestValueUptoRow : OpenClaim := { program := "ytknbebglabpegaadoor", sum := "35b56122b90506dafeda10af80840ff7972697edf9b998e5e6415bcb7a286ce0", func := "loop.example/g01261/laws.FnExactNearestValue", spec := "fnExactNearestValue", inPlace := ["internal/bytealg.IndexByteString", "internal/bytealg.IndexString"], named := ["unicode/utf8.first", "unicode/utf8.acceptRanges", "internal/bytealg.MaxLen"], apart := false, laid := [("unicode/utf8.acceptRanges", laid_unicode_utf8_acceptRanges), ("unicode/utf8.first", laid_unicode_utf8_first)], narrowed := true }
def FnExactNearestValueUptoSaid : Prop := fnExactNearestValueUptoRow.holds Tryd.pinned (OpenSpec.upto fnExactNearestValueSpec)

/-- 'laws.FnExactIsTold', WHERE WHAT IT READS IS OF BULK AT MOST 1048576: true; the input reads as it did. -/
def fnExactIsToldUptoRow : OpenClaim := { program := "ytknbebglabpegaadoor", sum := "35b56122b90506dafeda10af80840ff7972697edf9b998e5e6415bcb7a286ce0", func := "loop.example/g01261/laws.FnExactIsTold", spec := "fnExactIsTold", inPlace := ["internal/bytealg.IndexByteString", "internal/bytealg.IndexString"], named := ["unicode/utf8.first", "unicode/utf8.acceptRanges", "internal/bytealg.MaxLen"], apart := false, laid := [("unicode/utf8.acceptRanges", laid_unicode_utf8_acceptRanges), ("unicode/utf8.first", laid_unicode_utf8_first)], narrowed := true }
def FnExactIsToldUptoSaid : Prop := fnExactIsToldUptoRow.holds Tryd.pinned (OpenSpec.upto fnExactIsToldSpec)

/-- 'laws.FnExactValuesNear', WHERE WHAT IT READS IS OF BULK AT MOST 1048576: true; the input reads as it did. -/
def fnExactValuesNearUptoRow : OpenClaim := { program := "ytknbebglabpegaadoor", sum := "35b56122b90506dafeda10af80840ff7972697edf9b998e5e6415bcb7a286ce0", func := "loop.example/g01261/laws.FnExactValuesNear", spec := "fnExactValuesNear", inPlace := ["internal/bytealg.IndexByteString", "internal/bytealg.IndexString"], named := ["unicode/utf8.first", "unicode/utf8.acceptRanges", "internal/bytealg.MaxLen"], apart := false, laid := [("unicode/utf8.acceptRanges", laid_unicode_utf8_acceptRanges), ("unicode/utf8.first", laid_unicode_utf8_first)], narrowed := true }
def FnExactValuesNearUptoSaid : Prop := fnExactValuesNearUptoRow.holds Tryd.pinned (OpenSpec.upto fnExactValuesNearSpec)

/-- 'laws.FnExactRepairField', WHERE WHAT IT READS IS OF BULK AT MOST 1048576: true; the input reads as it did. -/
def fnExactRepairFieldUptoRow : OpenClaim := { program := "ytknbebglabpegaadoor", sum := "35b56122b90506dafeda10af80840ff7972697edf9b998e5e6415bcb7a286ce0", func := "loop.example/g01261/laws.FnExactRepairField", spec := "fnExactRepairField", inPlace := ["internal/bytealg.IndexByteString", "internal/bytealg.IndexString"], unfollowed := true, recurses := true, named := ["unicode/utf8.first", "unicode/utf8.acceptRanges", "internal/bytealg.MaxLen"], apart := false, laid := [("unicode/utf8.acceptRanges", laid_unicode_utf8_acceptRanges), ("unicode/utf8.first", laid_unicode_utf8_first)], narrowed := true }
def FnExactRepairFieldUptoSaid : Prop := fnExactRepairFieldUptoRow.holds Tryd.pinned (OpenSpec.upto fnExactRepairFieldSpec)

/-- 'laws.FnExactValuesOf', WHERE WHAT IT READS IS OF BULK AT MOST 1048576: true; the input reads as it did. -/
def fnExactValuesOfUptoRow : OpenClaim := { program := "ytknbebglabpegaadoor", sum := "35b56122b90506dafeda10af80840ff7972697edf9b998e5e6415bcb7a286ce0", func := "loop.example/g01261/laws.FnExactValuesOf", spec := "fnExactValuesOf", inPlace := ["internal/bytealg.IndexByteString", "internal/bytealg.IndexString"], unfollowed := true, recurses := true, named := ["unicode/utf8.first", "unicode/utf8.acceptRanges", "internal/bytealg.MaxLen"], apart := false, laid := [("unicode/utf8.acceptRanges", laid_unicode_utf8_acceptRanges), ("unicode/utf8.first", laid_unicode_utf8_first)], narrowed := true }
def FnExactValuesOfUptoSaid : Prop := fnExactValuesOfUptoRow.holds Tryd.pinned (OpenSpec.upto fnExactValuesOfSpec)

/-- 'laws.FnExactMakeCard', WHERE WHAT IT READS IS OF BULK AT MOST 1048576: true; the input reads as it did. -/
def fnExactMakeCardUptoRow : OpenClaim := { program := "ytknbebglabpegaadoor", sum := "35b56122b90506dafeda10af80840ff7972697edf9b998e5e6415bcb7a286ce0", func := "loop.example/g01261/laws.FnExactMakeCard", spec := "fnExactMakeCard", inPlace := ["internal/bytealg.IndexByteString", "internal/bytealg.IndexString"], unfollowed := true, recurses := true, named := ["unicode/utf8.first", "unicode/utf8.acceptRanges", "internal/bytealg.MaxLen"], apart := false, laid := [("unicode/utf8.acceptRanges", laid_unicode_utf8_acceptRanges), ("unicode/utf8.first", laid_unicode_utf8_first)], narrowed := true }
def FnExactMakeCardUptoSaid : Prop := fnExactMakeCardUptoRow.holds Tryd.pinned (OpenSpec.upto fnExactMakeCardSpec)

/-- 'laws.FnExactDoubtsOf', WHERE WHAT IT READS IS OF BULK AT MOST 1048576: true; the input reads as it did. -/
def fnExactDoubtsOfUptoRow : OpenClaim := { program := "ytknbebglabpegaadoor", sum := "35b56122b90506dafeda10af80840ff7972697edf9b998e5e6415bcb7a286ce0", func := "loop.example/g01261/laws.FnExactDoubtsOf", spec := "fnExactDoubtsOf", inPlace := ["internal/bytealg.IndexByteString", "internal/bytealg.IndexString"], unfollowed := true, recurses := true, named := ["unicode/utf8.first", "unicode/utf8.acceptRanges", "internal/bytealg.MaxLen"], apart := false, laid := [("unicode/utf8.acceptRanges", laid_unicode_utf8_acceptRanges), ("unicode/utf8.first", laid_unicode_utf8_first)], narrowed := true }
def FnExactDoubtsOfUptoSaid : Prop := fnExactDoubtsOfUptoRow.holds Tryd.pinned (OpenSpec.upto fnExactDoubtsOfSpec)

/-- 'laws.FnExactRepairCard', WHERE WHAT IT READS IS OF BULK AT MOST 1048576: true; the input reads as it did. -/
def fnExactRepairCardUptoRow : OpenClaim := { program := "ytknbebglabpegaadoor", sum := "35b56122b90506dafeda10af80840ff7972697edf9b998e5e6415bcb7a286ce0", func := "loop.example/g01261/laws.FnExactRepairCard", spec := "fnExactRepairCard", inPlace := ["internal/bytealg.IndexByteString", "internal/bytealg.IndexString"], unfollowed := true, recurses := true, named := ["unicode/utf8.first", "unicode/utf8.acceptRanges", "internal/bytealg.MaxLen"], apart := false, laid := [("unicode/utf8.acceptRanges", laid_unicode_utf8_acceptRanges), ("unicode/utf8.first", laid_unicode_utf8_first)], narrowed := true }
def FnExactRepairCardUptoSaid : Prop := fnExactRepairCardUptoRow.holds Tryd.pinned (OpenSpec.upto fnExactRepairCardSpec)

end Rows
end Go.Proofs.YtknbebglabpegaaDoor
