/-
  NARROWER THAN 'FOR EVERY INPUT', by the rows' own cells (each row's printed sentence says how): FnExactIsEntryName: laid · FnExactValidCatalogue: laid · FnExactFindEntry: laid · FnExactCatalogueText: laid · FnExactPreferredOf: laid · FnExactCompareNames: laid · FnExactAddEntry: laid · FnExactTopsOf: laid · FnExactPutBelow: laid · FnExactCommonBroader: laid · FnExactSynonymsOf: laid.
  DERIVED. THE GIVEN ROWS OF THIS SEAT. 11 by the template 'for every input the law returns true; each argument reads behind the call as it read before'; 0 by the template 'total and deterministic' (their statements: YtoibmelbjblfhaaDoorTotals.lean).
  GIVEN WITH THE SEED: the statements are not yours to turn. If you find one false, say at which input.
  Laid BY PROGRAM, IN A SANDBOX (cutbox-rows.mjs): the forced cells as the released guide's own fill.sh prints them over the translation 38fc42407f2b87ce… (all of the seat's roots in one cut). By AI agents, Wed Nov 11 2026. No macro, syntax, notation, axiom, sorry.
-/
import Derived.Test.YtoibmelbjblfhaaDoorChecked
import GoSem.PinnedTables
import GoSem.Claim
import GoSem.ClaimJoined
import GoSem.ClaimMapViews
import Derived.JoinedTies
import Derived.KernelRfl
namespace Go.Proofs.YtoibmelbjblfhaaDoor
/- THE CELL 'sum', in the pinned program and in every row, IS THE sha256 OF THE DUMP (.gsa) THAT YtoibmelbjblfhaaDoorProg.lean LOADS. Nothing in Lean hashes anything: it is a label: what it is worth is what the hold of that sum in a sandbox is worth. -/
noncomputable def Tryd.pinned : Pinned := { name := "ytoibmelbjblfhaadoor", sum := "38fc42407f2b87ce1db03be14b38ace9bf9575108718ceacadc88323404c85d4", checked := Tryd.checked }
namespace Rows
def none {H : Type} : Left H := { results := [], args := [] }

/- WHAT THE LISTED PACKAGE-LEVEL VARIABLES READ AS WHEN THE CALL BEGINS. Each datum BY PROGRAM (the guide's laid-datum.mjs) off the statement by which the dump's own 'gosem.cut.vars' lays the variable. In a bare row this is a premise. The card (YtoibmelbjblfhaaDoorCards.lean) ties it to the program's text. -/
def laid_unicode_utf8_acceptRanges {H : Type} : DataW H := .agg [.agg [.lit (.int .u8 128), .lit (.int .u8 191)], .agg [.lit (.int .u8 160), .lit (.int .u8 191)], .agg [.lit (.int .u8 128), .lit (.int .u8 159)], .agg [.lit (.int .u8 144), .lit (.int .u8 191)], .agg [.lit (.int .u8 128), .lit (.int .u8 143)], .agg [.lit (.int .u8 0), .lit (.int .u8 0)], .agg [.lit (.int .u8 0), .lit (.int .u8 0)], .agg [.lit (.int .u8 0), .lit (.int .u8 0)], .agg [.lit (.int .u8 0), .lit (.int .u8 0)], .agg [.lit (.int .u8 0), .lit (.int .u8 0)], .agg [.lit (.int .u8 0), .lit (.int .u8 0)], .agg [.lit (.int .u8 0), .lit (.int .u8 0)], .agg [.lit (.int .u8 0), .lit (.int .u8 0)], .agg [.lit (.int .u8 0), .lit (.int .u8 0)], .agg [.lit (.int .u8 0), .lit (.int .u8 0)], .agg [.lit (.int .u8 0), .lit (.int .u8 0)]]
/-- One of Go's own tables, pinned by name: the form's constant. -/
def laid_unicode_utf8_first : DataW Unit := Go.Pinned.utf8First

/-- 'laws.FnExactIsEntryName': WHATEVER THE INPUT: true; the input reads as it did. -/
def fnExactIsEntryNameSpec : ChangeSpec := { name := "fnExactIsEntryName", fn := fun _ => fun
  | [d] => { results := [.lit (.bool true)], args := [d] }
  | _ => none }
def fnExactIsEntryNameRow : OpenClaim := { program := "ytoibmelbjblfhaadoor", sum := "38fc42407f2b87ce1db03be14b38ace9bf9575108718ceacadc88323404c85d4", func := "loop.example/g01261/laws.FnExactIsEntryName", spec := "fnExactIsEntryName", inPlace := ["internal/bytealg.CountString", "internal/bytealg.IndexByteString", "internal/bytealg.IndexString"], named := ["unicode/utf8.first", "unicode/utf8.acceptRanges", "internal/bytealg.MaxLen"], apart := false, laid := [("unicode/utf8.acceptRanges", laid_unicode_utf8_acceptRanges), ("unicode/utf8.first", laid_unicode_utf8_first)] }
def FnExactIsEntryNameSaid : Prop := fnExactIsEntryNameRow.holds Tryd.pinned (OpenSpec.ofChange fnExactIsEntryNameSpec)

/-- ITS FALSE NEIGHBOUR: 'it returns false'. Refute it at one input. -/
def fnExactIsEntryNameWrong : ChangeSpec := { name := "fnExactIsEntryName", fn := fun _ => fun
  | [d] => { results := [.lit (.bool false)], args := [d] }
  | _ => none }
def FnExactIsEntryNameWrongFalsely : Prop := fnExactIsEntryNameRow.holds Tryd.pinned (OpenSpec.ofChange fnExactIsEntryNameWrong)

/-- 'laws.FnExactValidCatalogue': WHATEVER THE INPUT: true; the input reads as it did. -/
def fnExactValidCatalogueSpec : ChangeSpec := { name := "fnExactValidCatalogue", fn := fun _ => fun
  | [d] => { results := [.lit (.bool true)], args := [d] }
  | _ => none }
def fnExactValidCatalogueRow : OpenClaim := { program := "ytoibmelbjblfhaadoor", sum := "38fc42407f2b87ce1db03be14b38ace9bf9575108718ceacadc88323404c85d4", func := "loop.example/g01261/laws.FnExactValidCatalogue", spec := "fnExactValidCatalogue", inPlace := ["internal/bytealg.CountString", "internal/bytealg.IndexByteString", "internal/bytealg.IndexString"], unfollowed := true, recurses := true, named := ["unicode/utf8.first", "unicode/utf8.acceptRanges", "internal/bytealg.MaxLen"], apart := false, laid := [("unicode/utf8.acceptRanges", laid_unicode_utf8_acceptRanges), ("unicode/utf8.first", laid_unicode_utf8_first)] }
def FnExactValidCatalogueSaid : Prop := fnExactValidCatalogueRow.holds Tryd.pinned (OpenSpec.ofChange fnExactValidCatalogueSpec)

/-- ITS FALSE NEIGHBOUR: 'it returns false'. Refute it at one input. -/
def fnExactValidCatalogueWrong : ChangeSpec := { name := "fnExactValidCatalogue", fn := fun _ => fun
  | [d] => { results := [.lit (.bool false)], args := [d] }
  | _ => none }
def FnExactValidCatalogueWrongFalsely : Prop := fnExactValidCatalogueRow.holds Tryd.pinned (OpenSpec.ofChange fnExactValidCatalogueWrong)

/-- 'laws.FnExactFindEntry': WHATEVER THE INPUT: true; the input reads as it did. -/
def fnExactFindEntrySpec : ChangeSpec := { name := "fnExactFindEntry", fn := fun _ => fun
  | [d1, d2] => { results := [.lit (.bool true)], args := [d1, d2] }
  | _ => none }
def fnExactFindEntryRow : OpenClaim := { program := "ytoibmelbjblfhaadoor", sum := "38fc42407f2b87ce1db03be14b38ace9bf9575108718ceacadc88323404c85d4", func := "loop.example/g01261/laws.FnExactFindEntry", spec := "fnExactFindEntry", inPlace := ["internal/bytealg.CountString", "internal/bytealg.IndexByteString", "internal/bytealg.IndexString"], unfollowed := true, recurses := true, named := ["unicode/utf8.first", "unicode/utf8.acceptRanges", "internal/bytealg.MaxLen"], apart := false, laid := [("unicode/utf8.acceptRanges", laid_unicode_utf8_acceptRanges), ("unicode/utf8.first", laid_unicode_utf8_first)] }
def FnExactFindEntrySaid : Prop := fnExactFindEntryRow.holds Tryd.pinned (OpenSpec.ofChange fnExactFindEntrySpec)

/-- ITS FALSE NEIGHBOUR: 'it returns false'. Refute it at one input. -/
def fnExactFindEntryWrong : ChangeSpec := { name := "fnExactFindEntry", fn := fun _ => fun
  | [d1, d2] => { results := [.lit (.bool false)], args := [d1, d2] }
  | _ => none }
def FnExactFindEntryWrongFalsely : Prop := fnExactFindEntryRow.holds Tryd.pinned (OpenSpec.ofChange fnExactFindEntryWrong)

/-- 'laws.FnExactCatalogueText': WHATEVER THE INPUT: true; the input reads as it did. -/
def fnExactCatalogueTextSpec : ChangeSpec := { name := "fnExactCatalogueText", fn := fun _ => fun
  | [d] => { results := [.lit (.bool true)], args := [d] }
  | _ => none }
def fnExactCatalogueTextRow : OpenClaim := { program := "ytoibmelbjblfhaadoor", sum := "38fc42407f2b87ce1db03be14b38ace9bf9575108718ceacadc88323404c85d4", func := "loop.example/g01261/laws.FnExactCatalogueText", spec := "fnExactCatalogueText", inPlace := ["internal/bytealg.CountString", "internal/bytealg.IndexByteString", "internal/bytealg.IndexString"], unfollowed := true, recurses := true, named := ["unicode/utf8.first", "unicode/utf8.acceptRanges", "internal/bytealg.MaxLen"], apart := false, laid := [("unicode/utf8.acceptRanges", laid_unicode_utf8_acceptRanges), ("unicode/utf8.first", laid_unicode_utf8_first)] }
def FnExactCatalogueTextSaid : Prop := fnExactCatalogueTextRow.holds Tryd.pinned (OpenSpec.ofChange fnExactCatalogueTextSpec)

/-- ITS FALSE NEIGHBOUR: 'it returns false'. Refute it at one input. -/
def fnExactCatalogueTextWrong : ChangeSpec := { name := "fnExactCatalogueText", fn := fun _ => fun
  | [d] => { results := [.lit (.bool false)], args := [d] }
  | _ => none }
def FnExactCatalogueTextWrongFalsely : Prop := fnExactCatalogueTextRow.holds Tryd.pinned (OpenSpec.ofChange fnExactCatalogueTextWrong)

/-- 'laws.FnExactPreferredOf': WHATEVER THE INPUT: true; the input reads as it did. -/
def fnExactPreferredOfSpec : ChangeSpec := { name := "fnExactPreferredOf", fn := fun _ => fun
  | [d1, d2] => { results := [.lit (.bool true)], args := [d1, d2] }
  | _ => none }
def fnExactPreferredOfRow : OpenClaim := { program := "ytoibmelbjblfhaadoor", sum := "38fc42407f2b87ce1db03be14b38ace9bf9575108718ceacadc88323404c85d4", func := "loop.example/g01261/laws.FnExactPreferredOf", spec := "fnExactPreferredOf", inPlace := ["internal/bytealg.CountString", "internal/bytealg.IndexByteString", "internal/bytealg.IndexString"], unfollowed := true, recurses := true, named := ["unicode/utf8.first", "unicode/utf8.acceptRanges", "internal/bytealg.MaxLen"], apart := false, laid := [("unicode/utf8.acceptRanges", laid_unicode_utf8_acceptRanges), ("unicode/utf8.first", laid_unicode_utf8_first)] }
def FnExactPreferredOfSaid : Prop := fnExactPreferredOfRow.holds Tryd.pinned (OpenSpec.ofChange fnExactPreferredOfSpec)

/-- ITS FALSE NEIGHBOUR: 'it returns false'. Refute it at one input. -/
def fnExactPreferredOfWrong : ChangeSpec := { name := "fnExactPreferredOf", fn := fun _ => fun
  | [d1, d2] => { results := [.lit (.bool false)], args := [d1, d2] }
  | _ => none }
def FnExactPreferredOfWrongFalsely : Prop := fnExactPreferredOfRow.holds Tryd.pinned (OpenSpec.ofChange fnExactPreferredOfWrong)

/-- 'laws.FnExactCompareNames': WHATEVER THE INPUT: true; the input reads as it did. -/
def fnExactCompareNamesSpec : ChangeSpec := { name := "fnExactCompareNames", fn := fun _ => fun
  | [d1, d2] => { results := [.lit (.bool true)], args := [d1, d2] }
  | _ => none }
def fnExactCompareNamesRow : OpenClaim := { program := "ytoibmelbjblfhaadoor", sum := "38fc42407f2b87ce1db03be14b38ace9bf9575108718ceacadc88323404c85d4", func := "loop.example/g01261/laws.FnExactCompareNames", spec := "fnExactCompareNames", inPlace := ["internal/bytealg.CountString", "internal/bytealg.IndexByteString", "internal/bytealg.IndexString", "internal/bytealg.abigen_runtime_cmpstring"], unfollowed := true, recurses := true, named := ["unicode/utf8.first", "unicode/utf8.acceptRanges", "internal/bytealg.MaxLen"], apart := false, laid := [("unicode/utf8.acceptRanges", laid_unicode_utf8_acceptRanges), ("unicode/utf8.first", laid_unicode_utf8_first)] }
def FnExactCompareNamesSaid : Prop := fnExactCompareNamesRow.holds Tryd.pinned (OpenSpec.ofChange fnExactCompareNamesSpec)

/-- ITS FALSE NEIGHBOUR: 'it returns false'. Refute it at one input. -/
def fnExactCompareNamesWrong : ChangeSpec := { name := "fnExactCompareNames", fn := fun _ => fun
  | [d1, d2] => { results := [.lit (.bool false)], args := [d1, d2] }
  | _ => none }
def FnExactCompareNamesWrongFalsely : Prop := fnExactCompareNamesRow.holds Tryd.pinned (OpenSpec.ofChange fnExactCompareNamesWrong)

/-- 'laws.FnExactAddEntry': WHATEVER THE INPUT: true; the input reads as it did. -/
def fnExactAddEntrySpec : ChangeSpec := { name := "fnExactAddEntry", fn := fun _ => fun
  | [d1, d2] => { results := [.lit (.bool true)], args := [d1, d2] }
  | _ => none }
def fnExactAddEntryRow : OpenClaim := { program := "ytoibmelbjblfhaadoor", sum := "38fc42407f2b87ce1db03be14b38ace9bf9575108718ceacadc88323404c85d4", func := "loop.example/g01261/laws.FnExactAddEntry", spec := "fnExactAddEntry", inPlace := ["internal/bytealg.CountString", "internal/bytealg.IndexByteString", "internal/bytealg.IndexString"], unfollowed := true, recurses := true, named := ["unicode/utf8.first", "unicode/utf8.acceptRanges", "internal/bytealg.MaxLen"], apart := false, laid := [("unicode/utf8.acceptRanges", laid_unicode_utf8_acceptRanges), ("unicode/utf8.first", laid_unicode_utf8_first)] }
def FnExactAddEntrySaid : Prop := fnExactAddEntryRow.holds Tryd.pinned (OpenSpec.ofChange fnExactAddEntrySpec)

/-- ITS FALSE NEIGHBOUR: 'it returns false'. Refute it at one input. -/
def fnExactAddEntryWrong : ChangeSpec := { name := "fnExactAddEntry", fn := fun _ => fun
  | [d1, d2] => { results := [.lit (.bool false)], args := [d1, d2] }
  | _ => none }
def FnExactAddEntryWrongFalsely : Prop := fnExactAddEntryRow.holds Tryd.pinned (OpenSpec.ofChange fnExactAddEntryWrong)

/-- 'laws.FnExactTopsOf': WHATEVER THE INPUT: true; the input reads as it did. -/
def fnExactTopsOfSpec : ChangeSpec := { name := "fnExactTopsOf", fn := fun _ => fun
  | [d] => { results := [.lit (.bool true)], args := [d] }
  | _ => none }
def fnExactTopsOfRow : OpenClaim := { program := "ytoibmelbjblfhaadoor", sum := "38fc42407f2b87ce1db03be14b38ace9bf9575108718ceacadc88323404c85d4", func := "loop.example/g01261/laws.FnExactTopsOf", spec := "fnExactTopsOf", inPlace := ["internal/bytealg.CountString", "internal/bytealg.IndexByteString", "internal/bytealg.IndexString"], unfollowed := true, recurses := true, named := ["unicode/utf8.first", "unicode/utf8.acceptRanges", "internal/bytealg.MaxLen"], apart := false, laid := [("unicode/utf8.acceptRanges", laid_unicode_utf8_acceptRanges), ("unicode/utf8.first", laid_unicode_utf8_first)] }
def FnExactTopsOfSaid : Prop := fnExactTopsOfRow.holds Tryd.pinned (OpenSpec.ofChange fnExactTopsOfSpec)

/-- ITS FALSE NEIGHBOUR: 'it returns false'. Refute it at one input. -/
def fnExactTopsOfWrong : ChangeSpec := { name := "fnExactTopsOf", fn := fun _ => fun
  | [d] => { results := [.lit (.bool false)], args := [d] }
  | _ => none }
def FnExactTopsOfWrongFalsely : Prop := fnExactTopsOfRow.holds Tryd.pinned (OpenSpec.ofChange fnExactTopsOfWrong)

/-- 'laws.FnExactPutBelow': WHATEVER THE INPUT: true; the input reads as it did. -/
def fnExactPutBelowSpec : ChangeSpec := { name := "fnExactPutBelow", fn := fun _ => fun
  | [d1, d2, d3] => { results := [.lit (.bool true)], args := [d1, d2, d3] }
  | _ => none }
def fnExactPutBelowRow : OpenClaim := { program := "ytoibmelbjblfhaadoor", sum := "38fc42407f2b87ce1db03be14b38ace9bf9575108718ceacadc88323404c85d4", func := "loop.example/g01261/laws.FnExactPutBelow", spec := "fnExactPutBelow", inPlace := ["internal/bytealg.CountString", "internal/bytealg.IndexByteString", "internal/bytealg.IndexString"], unfollowed := true, recurses := true, named := ["unicode/utf8.first", "unicode/utf8.acceptRanges", "internal/bytealg.MaxLen"], apart := false, laid := [("unicode/utf8.acceptRanges", laid_unicode_utf8_acceptRanges), ("unicode/utf8.first", laid_unicode_utf8_first)] }
def FnExactPutBelowSaid : Prop := fnExactPutBelowRow.holds Tryd.pinned (OpenSpec.ofChange fnExactPutBelowSpec)

/-- ITS FALSE NEIGHBOUR: 'it returns false'. Refute it at one input. -/
def fnExactPutBelowWrong : ChangeSpec := { name := "fnExactPutBelow", fn := fun _ => fun
  | [d1, d2, d3] => { results := [.lit (.bool false)], args := [d1, d2, d3] }
  | _ => none }
def FnExactPutBelowWrongFalsely : Prop := fnExactPutBelowRow.holds Tryd.pinned (OpenSpec.ofChange fnExactPutBelowWrong)

/-- 'laws.FnExactCommonBroader': WHATEVER THE INPUT: true; the input reads as it did. -/
def fnExactCommonBroaderSpec : ChangeSpec := { name := "fnExactCommonBroader", fn := fun _ => fun
  | [d1, d2, d3] => { results := [.lit (.bool true)], args := [d1, d2, d3] }
  | _ => none }
def fnExactCommonBroaderRow : OpenClaim := { program := "ytoibmelbjblfhaadoor", sum := "38fc42407f2b87ce1db03be14b38ace9bf9575108718ceacadc88323404c85d4", func := "loop.example/g01261/laws.FnExactCommonBroader", spec := "fnExactCommonBroader", inPlace := ["internal/bytealg.CountString", "internal/bytealg.IndexByteString", "internal/bytealg.IndexString"], unfollowed := true, recurses := true, named := ["unicode/utf8.first", "unicode/utf8.acceptRanges", "internal/bytealg.MaxLen"], apart := false, laid := [("unicode/utf8.acceptRanges", laid_unicode_utf8_acceptRanges), ("unicode/utf8.first", laid_unicode_utf8_first)] }
def FnExactCommonBroaderSaid : Prop := fnExactCommonBroaderRow.holds Tryd.pinned (OpenSpec.ofChange fnExactCommonBroaderSpec)

/-- ITS FALSE NEIGHBOUR: 'it returns false'. Refute it at one input. -/
def fnExactCommonBroaderWrong : ChangeSpec := { name := "fnExactCommonBroader", fn := fun _ => fun
  | [d1, d2, d3] => { results := [.lit (.bool false)], args := [d1, d2, d3] }
  | _ => none }
def FnExactCommonBroaderWrongFalsely : Prop := fnExactCommonBroaderRow.holds Tryd.pinned (OpenSpec.ofChange fnExactCommonBroaderWrong)

/-- 'laws.FnExactSynonymsOf': WHATEVER THE INPUT: true; the input reads as it did. -/
def fnExactSynonymsOfSpec : ChangeSpec := { name := "fnExactSynonymsOf", fn := fun _ => fun
  | [d1, d2] => { results := [.lit (.bool true)], args := [d1, d2] }
  | _ => none }
def fnExactSynonymsOfRow : OpenClaim := { program := "ytoibmelbjblfhaadoor", sum := "38fc42407f2b87ce1db03be14b38ace9bf9575108718ceacadc88323404c85d4", func := "loop.example/g01261/laws.FnExactSynonymsOf", spec := "fnExactSynonymsOf", inPlace := ["internal/bytealg.CountString", "internal/bytealg.IndexByteString", "internal/bytealg.IndexString"], unfollowed := true, recurses := true, named := ["unicode/utf8.first", "unicode/utf8.acceptRanges", "internal/bytealg.MaxLen"], apart := false, laid := [("unicode/utf8.acceptRanges", laid_unicode_utf8_acceptRanges), ("unicode/utf8.first", laid_unicode_utf8_first)] }
def FnExactSynonymsOfSaid : Prop := fnExactSynonymsOfRow.holds Tryd.pinned (OpenSpec.ofChange fnExactSynonymsOfSpec)

/-- ITS FALSE NEIGHBOUR: 'it returns false'. Refute it at one input. -/
def fnExactSynonymsOfWrong : ChangeSpec := { name := "fnExactSynonymsOf", fn := fun _ => fun
  | [d1, d2] => { results := [.lit (.bool false)], args := [d1, d2] }
  | _ => none }
def FnExactSynonymsOfWrongFalsely : Prop := fnExactSynonymsOfRow.holds Tryd.pinned (OpenSpec.ofChange fnExactSynonymsOfWrong)

/- THE SECOND FORM. 'bulk': how many values and letters a reading holds, each counted each time it is reached (what is shared counts as often as it is met; a slice's spare places count too). A statement '..UptoSaid' is the law's where the arguments, and the package variables that the reading takes, are together of bulk at most 1048576: NARROWER than '..Said'. Prove '..Said' where nothing that the law and all that it calls make is longer than what came in: it says more and counts as full. Else prove '..UptoSaid'. A law counts once. -/
mutual
def uptoBulk {H : Type} : DataW H → Nat
  | .lit (.string bytes) => bytes.length + 1
  | .lit _ => 1
  | .nil => 1
  | .ptr d => uptoBulk d + 1
  | .slice elems spare => uptoBulkAll elems + uptoBulkAll spare + 1
  | .agg parts => uptoBulkAll parts + 1
  | .iface _ d => uptoBulk d + 1
  | .map entries => uptoBulkEntries entries + 1
  | .held _ => 1
def uptoBulkAll {H : Type} : List (DataW H) → Nat
  | [] => 0
  | d :: r => uptoBulk d + uptoBulkAll r
def uptoBulkEntries {H : Type} : List (Lit × DataW H) → Nat
  | [] => 0
  | x :: r => uptoBulkEntry x + uptoBulkEntries r
def uptoBulkEntry {H : Type} : Lit × DataW H → Nat
  | (.string bytes, d) => bytes.length + uptoBulk d + 1
  | (_, d) => uptoBulk d + 1
 end
def uptoSmall : (H : Type) → List (DataW H) → Bool := fun _ ds => decide (uptoBulkAll ds ≤ 1048576)
def OpenSpec.upto (s : _root_.Go.ChangeSpec) : _root_.Go.OpenSpec := { _root_.Go.OpenSpec.ofChange s with cond := some uptoSmall }

/-- 'laws.FnExactIsEntryName', WHERE WHAT IT READS IS OF BULK AT MOST 1048576: true; the input reads as it did. -/
def fnExactIsEntryNameUptoRow : OpenClaim := { program := "ytoibmelbjblfhaadoor", sum := "38fc42407f2b87ce1db03be14b38ace9bf9575108718ceacadc88323404c85d4", func := "loop.example/g01261/laws.FnExactIsEntryName", spec := "fnExactIsEntryName", inPlace := ["internal/bytealg.CountString", "internal/bytealg.IndexByteString", "internal/bytealg.IndexString"], named := ["unicode/utf8.first", "unicode/utf8.acceptRanges", "internal/bytealg.MaxLen"], apart := false, laid := [("unicode/utf8.acceptRanges", laid_unicode_utf8_acceptRanges), ("unicode/utf8.first", laid_unicode_utf8_first)], narrowed := true }
def FnExactIsEntryNameUptoSaid : Prop := fnExactIsEntryNameUptoRow.holds Tryd.pinned (OpenSpec.upto fnExactIsEntryNameSpec)

/-- 'laws.FnExactValidCatalogue', WHERE WHAT IT READS IS OF BULK AT MOST 1048576: true; the input reads as it did. -/
def fnExactValidCatalogueUptoRow : OpenClaim := { program := "ytoibmelbjblfhaadoor", sum := "38fc42407f2b87ce1db03be14b38ace9bf9575108718ceacadc88323404c85d4", func := "loop.example/g01261/laws.FnExactValidCatalogue", spec := "fnExactValidCatalogue", inPlace := ["internal/bytealg.CountString", "internal/bytealg.IndexByteString", "internal/bytealg.IndexString"], unfollowed := true, recurses := true, named := ["unicode/utf8.first", "unicode/utf8.acceptRanges", "internal/bytealg.MaxLen"], apart := false, laid := [("unicode/utf8.acceptRanges", laid_unicode_utf8_acceptRanges), ("unicode/utf8.first", laid_unicode_utf8_first)], narrowed := true }
def FnExactValidCatalogueUptoSaid : Prop := fnExactValidCatalogueUptoRow.holds Tryd.pinned (OpenSpec.upto fnExactValidCatalogueSpec)

/-- 'laws.FnExactFindEntry', WHERE WHAT IT READS IS OF BULK AT MOST 1048576: true; the input reads as it did. -/
def fnExactFindEntryUptoRow : OpenClaim := { program := "ytoibmelbjblfhaadoor", sum := "38fc42407f2b87ce1db03be14b38ace9bf9575108718ceacadc88323404c85d4", func := "loop.example/g01261/laws.FnExactFindEntry", spec := "fnExactFindEntry", inPlace := ["internal/bytealg.CountString", "internal/bytealg.IndexByteString", "internal/bytealg.IndexString"], unfollowed := true, recurses := true, named := ["unicode/utf8.first", "unicode/utf8.acceptRanges", "internal/bytealg.MaxLen"], apart := false, laid := [("unicode/utf8.acceptRanges", laid_unicode_utf8_acceptRanges), ("unicode/utf8.first", laid_unicode_utf8_first)], narrowed := true }
def FnExactFindEntryUptoSaid : Prop := fnExactFindEntryUptoRow.holds Tryd.pinned (OpenSpec.upto fnExactFindEntrySpec)

/-- 'laws.FnExactCatalogueText', WHERE WHAT IT READS IS OF BULK AT MOST 1048576: true; the input reads as it did. -/
def fnExactCatalogueTextUptoRow : OpenClaim := { program := "ytoibmelbjblfhaadoor", sum := "38fc42407f2b87ce1db03be14b38ace9bf9575108718ceacadc88323404c85d4", func := "loop.example/g01261/laws.FnExactCatalogueText", spec := "fnExactCatalogueText", inPlace := ["internal/bytealg.CountString", "internal/bytealg.IndexByteString", "internal/bytealg.IndexString"], unfollowed := true, recurses := true, named := ["unicode/utf8.first", "unicode/utf8.acceptRanges", "internal/bytealg.MaxLen"], apart := false, laid := [("unicode/utf8.acceptRanges", laid_unicode_utf8_acceptRanges), ("unicode/utf8.first", laid_unicode_utf8_first)], narrowed := true }
def FnExactCatalogueTextUptoSaid : Prop := fnExactCatalogueTextUptoRow.holds Tryd.pinned (OpenSpec.upto fnExactCatalogueTextSpec)

/-- 'laws.FnExactPreferredOf', WHERE WHAT IT READS IS OF BULK AT MOST 1048576: true; the input reads as it did. -/
def fnExactPreferredOfUptoRow : OpenClaim := { program := "ytoibmelbjblfhaadoor", sum := "38fc42407f2b87ce1db03be14b38ace9bf9575108718ceacadc88323404c85d4", func := "loop.example/g01261/laws.FnExactPreferredOf", spec := "fnExactPreferredOf", inPlace := ["internal/bytealg.CountString", "internal/bytealg.IndexByteString", "internal/bytealg.IndexString"], unfollowed := true, recurses := true, named := ["unicode/utf8.first", "unicode/utf8.acceptRanges", "internal/bytealg.MaxLen"], apart := false, laid := [("unicode/utf8.acceptRanges", laid_unicode_utf8_acceptRanges), ("unicode/utf8.first", laid_unicode_utf8_first)], narrowed := true }
def FnExactPreferredOfUptoSaid : Prop := fnExactPreferredOfUptoRow.holds Tryd.pinned (OpenSpec.upto fnExactPreferredOfSpec)

/-- 'laws.FnExactCompareNames', WHERE WHAT IT READS IS OF BULK AT MOST 1048576: true; the input reads as it did. -/
def fnExactCompareNamesUptoRow : OpenClaim := { program := "ytoibmelbjblfhaadoor", sum := "38fc42407f2b87ce1db03be14b38ace9bf9575108718ceacadc88323404c85d4", func := "loop.example/g01261/laws.FnExactCompareNames", spec := "fnExactCompareNames", inPlace := ["internal/bytealg.CountString", "internal/bytealg.IndexByteString", "internal/bytealg.IndexString", "internal/bytealg.abigen_runtime_cmpstring"], unfollowed := true, recurses := true, named := ["unicode/utf8.first", "unicode/utf8.acceptRanges", "internal/bytealg.MaxLen"], apart := false, laid := [("unicode/utf8.acceptRanges", laid_unicode_utf8_acceptRanges), ("unicode/utf8.first", laid_unicode_utf8_first)], narrowed := true }
def FnExactCompareNamesUptoSaid : Prop := fnExactCompareNamesUptoRow.holds Tryd.pinned (OpenSpec.upto fnExactCompareNamesSpec)

/-- 'laws.FnExactAddEntry', WHERE WHAT IT READS IS OF BULK AT MOST 1048576: true; the input reads as it did. -/
def fnExactAddEntryUptoRow : OpenClaim := { program := "ytoibmelbjblfhaadoor", sum := "38fc42407f2b87ce1db03be14b38ace9bf9575108718ceacadc88323404c85d4", func := "loop.example/g01261/laws.FnExactAddEntry", spec := "fnExactAddEntry", inPlace := ["internal/bytealg.CountString", "internal/bytealg.IndexByteString", "internal/bytealg.IndexString"], unfollowed := true, recurses := true, named := ["unicode/utf8.first", "unicode/utf8.acceptRanges", "internal/bytealg.MaxLen"], apart := false, laid := [("unicode/utf8.acceptRanges", laid_unicode_utf8_acceptRanges), ("unicode/utf8.first", laid_unicode_utf8_first)], narrowed := true }
def FnExactAddEntryUptoSaid : Prop := fnExactAddEntryUptoRow.holds Tryd.pinned (OpenSpec.upto fnExactAddEntrySpec)

/-- 'laws.FnExactTopsOf', WHERE WHAT IT READS IS OF BULK AT MOST 1048576: true; the input reads as it did. -/
def fnExactTopsOfUptoRow : OpenClaim := { program := "ytoibmelbjblfhaadoor", sum := "38fc42407f2b87ce1db03be14b38ace9bf9575108718ceacadc88323404c85d4", func := "loop.example/g01261/laws.FnExactTopsOf", spec := "fnExactTopsOf", inPlace := ["internal/bytealg.CountString", "internal/bytealg.IndexByteString", "internal/bytealg.IndexString"], unfollowed := true, recurses := true, named := ["unicode/utf8.first", "unicode/utf8.acceptRanges", "internal/bytealg.MaxLen"], apart := false, laid := [("unicode/utf8.acceptRanges", laid_unicode_utf8_acceptRanges), ("unicode/utf8.first", laid_unicode_utf8_first)], narrowed := true }
def FnExactTopsOfUptoSaid : Prop := fnExactTopsOfUptoRow.holds Tryd.pinned (OpenSpec.upto fnExactTopsOfSpec)

/-- 'laws.FnExactPutBelow', WHERE WHAT IT READS IS OF BULK AT MOST 1048576: true; the input reads as it did. -/
def fnExactPutBelowUptoRow : OpenClaim := { program := "ytoibmelbjblfhaadoor", sum := "38fc42407f2b87ce1db03be14b38ace9bf9575108718ceacadc88323404c85d4", func := "loop.example/g01261/laws.FnExactPutBelow", spec := "fnExactPutBelow", inPlace := ["internal/bytealg.CountString", "internal/bytealg.IndexByteString", "internal/bytealg.IndexString"], unfollowed := true, recurses := true, named := ["unicode/utf8.first", "unicode/utf8.acceptRanges", "internal/bytealg.MaxLen"], apart := false, laid := [("unicode/utf8.acceptRanges", laid_unicode_utf8_acceptRanges), ("unicode/utf8.first", laid_unicode_utf8_first)], narrowed := true }
def FnExactPutBelowUptoSaid : Prop := fnExactPutBelowUptoRow.holds Tryd.pinned (OpenSpec.upto fnExactPutBelowSpec)

/-- 'laws.FnExactCommonBroader', WHERE WHAT IT READS IS OF BULK AT MOST 1048576: true; the input reads as it did. -/
def fnExactCommonBroaderUptoRow : OpenClaim := { program := "ytoibmelbjblfhaadoor", sum := "38fc42407f2b87ce1db03be14b38ace9bf9575108718ceacadc88323404c85d4", func := "loop.example/g01261/laws.FnExactCommonBroader", spec := "fnExactCommonBroader", inPlace := ["internal/bytealg.CountString", "internal/bytealg.IndexByteString", "internal/bytealg.IndexString"], unfollowed := true, recurses := true, named := ["unicode/utf8.first", "unicode/utf8.acceptRanges", "internal/bytealg.MaxLen"], apart := false, laid := [("unicode/utf8.acceptRanges", laid_unicode_utf8_acceptRanges), ("unicode/utf8.first", laid_unicode_utf8_first)], narrowed := true }
def FnExactCommonBroaderUptoSaid : Prop := fnExactCommonBroaderUptoRow.holds Tryd.pinned (OpenSpec.upto fnExactCommonBroaderSpec)

/-- 'laws.FnExactSynonymsOf', WHERE WHAT IT READS IS OF BULK AT MOST 1048576: true; the input reads as it did. -/
def fnExactSynonymsOfUptoRow : OpenClaim := { program := "ytoibmelbjblfhaadoor", sum := "38fc42407f2b87ce1db03be14b38ace9bf9575108718ceacadc88323404c85d4", func := "loop.example/g01261/laws.FnExactSynonymsOf", spec := "fnExactSynonymsOf", inPlace := ["internal/bytealg.CountString", "internal/bytealg.IndexByteString", "internal/bytealg.IndexString"], unfollowed := true, recurses := true, named := ["unicode/utf8.first", "unicode/utf8.acceptRanges", "internal/bytealg.MaxLen"], apart := false, laid := [("unicode/utf8.acceptRanges", laid_unicode_utf8_acceptRanges), ("unicode/utf8.first", laid_unicode_utf8_first)], narrowed := true }
def FnExactSynonymsOfUptoSaid : Prop := fnExactSynonymsOfUptoRow.holds Tryd.pinned (OpenSpec.upto fnExactSynonymsOfSpec)

end Rows
end Go.Proofs.YtoibmelbjblfhaaDoor
