/-
  NARROWER THAN 'FOR EVERY INPUT', by the rows' own cells (each row's printed sentence says how): FnExactPathUp: laid · FnExactReadCatalogue: laid · FnExactNarrowerOf: laid · FnExactExpandEntry: laid · FnExactMergeEntries: laid · FnMerged: laid.
  DERIVED. THE GIVEN ROWS OF THIS SEAT. 6 by the template 'for every input the law returns true; each argument reads behind the call as it read before'; 0 by the template 'total and deterministic' (their statements: YtmphnocgihegbaaDoorTotals.lean).
  GIVEN WITH THE SEED: the statements are not yours to turn. If you find one false, say at which input.
  Laid BY PROGRAM, IN A SANDBOX (cutbox-rows.mjs): the forced cells as the released guide's own fill.sh prints them over the translation dddca621a9c8a2d8… (all of the seat's roots in one cut). By AI agents, Wed Nov 11 2026. No macro, syntax, notation, axiom, sorry.
-/
import Derived.Test.YtmphnocgihegbaaDoorChecked
import GoSem.PinnedTables
import GoSem.Claim
import GoSem.ClaimJoined
import GoSem.ClaimMapViews
import Derived.JoinedTies
import Derived.KernelRfl
namespace Go.Proofs.YtmphnocgihegbaaDoor
/- THE CELL 'sum', in the pinned program and in every row, IS THE sha256 OF THE DUMP (.gsa) THAT YtmphnocgihegbaaDoorProg.lean LOADS. Nothing in Lean hashes anything: it is a label: what it is worth is what the hold of that sum in a sandbox is worth. -/
noncomputable def Tryd.pinned : Pinned := { name := "ytmphnocgihegbaadoor", sum := "dddca621a9c8a2d8d0e0ae473068bf9da671380116a09f3103e6d3a0e32c0eda", checked := Tryd.checked }
namespace Rows
def none {H : Type} : Left H := { results := [], args := [] }

/- WHAT THE LISTED PACKAGE-LEVEL VARIABLES READ AS WHEN THE CALL BEGINS. Each datum BY PROGRAM (the guide's laid-datum.mjs) off the statement by which the dump's own 'gosem.cut.vars' lays the variable. In a bare row this is a premise. The card (YtmphnocgihegbaaDoorCards.lean) ties it to the program's text. -/
def laid_unicode_utf8_acceptRanges {H : Type} : DataW H := .agg [.agg [.lit (.int .u8 128), .lit (.int .u8 191)], .agg [.lit (.int .u8 160), .lit (.int .u8 191)], .agg [.lit (.int .u8 128), .lit (.int .u8 159)], .agg [.lit (.int .u8 144), .lit (.int .u8 191)], .agg [.lit (.int .u8 128), .lit (.int .u8 143)], .agg [.lit (.int .u8 0), .lit (.int .u8 0)], .agg [.lit (.int .u8 0), .lit (.int .u8 0)], .agg [.lit (.int .u8 0), .lit (.int .u8 0)], .agg [.lit (.int .u8 0), .lit (.int .u8 0)], .agg [.lit (.int .u8 0), .lit (.int .u8 0)], .agg [.lit (.int .u8 0), .lit (.int .u8 0)], .agg [.lit (.int .u8 0), .lit (.int .u8 0)], .agg [.lit (.int .u8 0), .lit (.int .u8 0)], .agg [.lit (.int .u8 0), .lit (.int .u8 0)], .agg [.lit (.int .u8 0), .lit (.int .u8 0)], .agg [.lit (.int .u8 0), .lit (.int .u8 0)]]
/-- One of Go's own tables, pinned by name: the form's constant. -/
def laid_unicode_utf8_first : DataW Unit := Go.Pinned.utf8First

/-- 'laws.FnExactPathUp': WHATEVER THE INPUT: true; the input reads as it did. -/
def fnExactPathUpSpec : ChangeSpec := { name := "fnExactPathUp", fn := fun _ => fun
  | [d1, d2] => { results := [.lit (.bool true)], args := [d1, d2] }
  | _ => none }
def fnExactPathUpRow : OpenClaim := { program := "ytmphnocgihegbaadoor", sum := "dddca621a9c8a2d8d0e0ae473068bf9da671380116a09f3103e6d3a0e32c0eda", func := "loop.example/g01261/laws.FnExactPathUp", spec := "fnExactPathUp", inPlace := ["internal/bytealg.CountString", "internal/bytealg.IndexByteString", "internal/bytealg.IndexString"], unfollowed := true, recurses := true, named := ["unicode/utf8.first", "unicode/utf8.acceptRanges", "internal/bytealg.MaxLen"], apart := false, laid := [("unicode/utf8.acceptRanges", laid_unicode_utf8_acceptRanges), ("unicode/utf8.first", laid_unicode_utf8_first)] }
def FnExactPathUpSaid : Prop := fnExactPathUpRow.holds Tryd.pinned (OpenSpec.ofChange fnExactPathUpSpec)

/-- ITS FALSE NEIGHBOUR: 'it returns false'. Refute it at one input. -/
def fnExactPathUpWrong : ChangeSpec := { name := "fnExactPathUp", fn := fun _ => fun
  | [d1, d2] => { results := [.lit (.bool false)], args := [d1, d2] }
  | _ => none }
def FnExactPathUpWrongFalsely : Prop := fnExactPathUpRow.holds Tryd.pinned (OpenSpec.ofChange fnExactPathUpWrong)

/-- 'laws.FnExactReadCatalogue': WHATEVER THE INPUT: true; the input reads as it did. -/
def fnExactReadCatalogueSpec : ChangeSpec := { name := "fnExactReadCatalogue", fn := fun _ => fun
  | [d] => { results := [.lit (.bool true)], args := [d] }
  | _ => none }
def fnExactReadCatalogueRow : OpenClaim := { program := "ytmphnocgihegbaadoor", sum := "dddca621a9c8a2d8d0e0ae473068bf9da671380116a09f3103e6d3a0e32c0eda", func := "loop.example/g01261/laws.FnExactReadCatalogue", spec := "fnExactReadCatalogue", inPlace := ["internal/bytealg.CountString", "internal/bytealg.IndexByteString", "internal/bytealg.IndexString"], unfollowed := true, recurses := true, named := ["unicode/utf8.first", "unicode/utf8.acceptRanges", "internal/bytealg.MaxLen"], apart := false, laid := [("unicode/utf8.acceptRanges", laid_unicode_utf8_acceptRanges), ("unicode/utf8.first", laid_unicode_utf8_first)] }
def FnExactReadCatalogueSaid : Prop := fnExactReadCatalogueRow.holds Tryd.pinned (OpenSpec.ofChange fnExactReadCatalogueSpec)

/-- ITS FALSE NEIGHBOUR: 'it returns false'. Refute it at one input. -/
def fnExactReadCatalogueWrong : ChangeSpec := { name := "fnExactReadCatalogue", fn := fun _ => fun
  | [d] => { results := [.lit (.bool false)], args := [d] }
  | _ => none }
def FnExactReadCatalogueWrongFalsely : Prop := fnExactReadCatalogueRow.holds Tryd.pinned (OpenSpec.ofChange fnExactReadCatalogueWrong)

/-- 'laws.FnExactNarrowerOf': WHATEVER THE INPUT: true; the input reads as it did. -/
def fnExactNarrowerOfSpec : ChangeSpec := { name := "fnExactNarrowerOf", fn := fun _ => fun
  | [d1, d2] => { results := [.lit (.bool true)], args := [d1, d2] }
  | _ => none }
def fnExactNarrowerOfRow : OpenClaim := { program := "ytmphnocgihegbaadoor", sum := "dddca621a9c8a2d8d0e0ae473068bf9da671380116a09f3103e6d3a0e32c0eda", func := "loop.example/g01261/laws.FnExactNarrowerOf", spec := "fnExactNarrowerOf", inPlace := ["internal/bytealg.CountString", "internal/bytealg.IndexByteString", "internal/bytealg.IndexString"], unfollowed := true, recurses := true, named := ["unicode/utf8.first", "unicode/utf8.acceptRanges", "internal/bytealg.MaxLen"], apart := false, laid := [("unicode/utf8.acceptRanges", laid_unicode_utf8_acceptRanges), ("unicode/utf8.first", laid_unicode_utf8_first)] }
def FnExactNarrowerOfSaid : Prop := fnExactNarrowerOfRow.holds Tryd.pinned (OpenSpec.ofChange fnExactNarrowerOfSpec)

/-- ITS FALSE NEIGHBOUR: 'it returns false'. Refute it at one input. -/
def fnExactNarrowerOfWrong : ChangeSpec := { name := "fnExactNarrowerOf", fn := fun _ => fun
  | [d1, d2] => { results := [.lit (.bool false)], args := [d1, d2] }
  | _ => none }
def FnExactNarrowerOfWrongFalsely : Prop := fnExactNarrowerOfRow.holds Tryd.pinned (OpenSpec.ofChange fnExactNarrowerOfWrong)

/-- 'laws.FnExactExpandEntry': WHATEVER THE INPUT: true; the input reads as it did. -/
def fnExactExpandEntrySpec : ChangeSpec := { name := "fnExactExpandEntry", fn := fun _ => fun
  | [d1, d2] => { results := [.lit (.bool true)], args := [d1, d2] }
  | _ => none }
def fnExactExpandEntryRow : OpenClaim := { program := "ytmphnocgihegbaadoor", sum := "dddca621a9c8a2d8d0e0ae473068bf9da671380116a09f3103e6d3a0e32c0eda", func := "loop.example/g01261/laws.FnExactExpandEntry", spec := "fnExactExpandEntry", inPlace := ["internal/bytealg.CountString", "internal/bytealg.IndexByteString", "internal/bytealg.IndexString"], unfollowed := true, recurses := true, named := ["unicode/utf8.first", "unicode/utf8.acceptRanges", "internal/bytealg.MaxLen"], apart := false, laid := [("unicode/utf8.acceptRanges", laid_unicode_utf8_acceptRanges), ("unicode/utf8.first", laid_unicode_utf8_first)] }
def FnExactExpandEntrySaid : Prop := fnExactExpandEntryRow.holds Tryd.pinned (OpenSpec.ofChange fnExactExpandEntrySpec)

/-- ITS FALSE NEIGHBOUR: 'it returns false'. Refute it at one input. -/
def fnExactExpandEntryWrong : ChangeSpec := { name := "fnExactExpandEntry", fn := fun _ => fun
  | [d1, d2] => { results := [.lit (.bool false)], args := [d1, d2] }
  | _ => none }
def FnExactExpandEntryWrongFalsely : Prop := fnExactExpandEntryRow.holds Tryd.pinned (OpenSpec.ofChange fnExactExpandEntryWrong)

/-- 'laws.FnExactMergeEntries': WHATEVER THE INPUT: true; the input reads as it did. -/
def fnExactMergeEntriesSpec : ChangeSpec := { name := "fnExactMergeEntries", fn := fun _ => fun
  | [d1, d2, d3] => { results := [.lit (.bool true)], args := [d1, d2, d3] }
  | _ => none }
def fnExactMergeEntriesRow : OpenClaim := { program := "ytmphnocgihegbaadoor", sum := "dddca621a9c8a2d8d0e0ae473068bf9da671380116a09f3103e6d3a0e32c0eda", func := "loop.example/g01261/laws.FnExactMergeEntries", spec := "fnExactMergeEntries", inPlace := ["internal/bytealg.CountString", "internal/bytealg.IndexByteString", "internal/bytealg.IndexString"], unfollowed := true, recurses := true, named := ["unicode/utf8.first", "unicode/utf8.acceptRanges", "internal/bytealg.MaxLen"], apart := false, laid := [("unicode/utf8.acceptRanges", laid_unicode_utf8_acceptRanges), ("unicode/utf8.first", laid_unicode_utf8_first)] }
def FnExactMergeEntriesSaid : Prop := fnExactMergeEntriesRow.holds Tryd.pinned (OpenSpec.ofChange fnExactMergeEntriesSpec)

/-- ITS FALSE NEIGHBOUR: 'it returns false'. Refute it at one input. -/
def fnExactMergeEntriesWrong : ChangeSpec := { name := "fnExactMergeEntries", fn := fun _ => fun
  | [d1, d2, d3] => { results := [.lit (.bool false)], args := [d1, d2, d3] }
  | _ => none }
def FnExactMergeEntriesWrongFalsely : Prop := fnExactMergeEntriesRow.holds Tryd.pinned (OpenSpec.ofChange fnExactMergeEntriesWrong)

/-- 'laws.FnMerged': WHATEVER THE INPUT: true; the input reads as it did. -/
def fnMergedSpec : ChangeSpec := { name := "fnMerged", fn := fun _ => fun
  | [d1, d2] => { results := [.lit (.bool true)], args := [d1, d2] }
  | _ => none }
def fnMergedRow : OpenClaim := { program := "ytmphnocgihegbaadoor", sum := "dddca621a9c8a2d8d0e0ae473068bf9da671380116a09f3103e6d3a0e32c0eda", func := "loop.example/g01261/laws.FnMerged", spec := "fnMerged", inPlace := ["internal/bytealg.CountString", "internal/bytealg.IndexByteString", "internal/bytealg.IndexString"], unfollowed := true, recurses := true, named := ["unicode/utf8.first", "unicode/utf8.acceptRanges", "internal/bytealg.MaxLen"], apart := false, laid := [("unicode/utf8.acceptRanges", laid_unicode_utf8_acceptRanges), ("unicode/utf8.first", laid_unicode_utf8_first)] }
def FnMergedSaid : Prop := fnMergedRow.holds Tryd.pinned (OpenSpec.ofChange fnMergedSpec)

/-- ITS FALSE NEIGHBOUR: 'it returns false'. Refute it at one input. -/
def fnMergedWrong : ChangeSpec := { name := "fnMerged", fn := fun _ => fun
  | [d1, d2] => { results := [.lit (.bool false)], args := [d1, d2] }
  | _ => none }
def FnMergedWrongFalsely : Prop := fnMergedRow.holds Tryd.pinned (OpenSpec.ofChange fnMergedWrong)

/- THE SECOND FORM. 'bulk': how many values and letters a reading holds, each counted each time it is reached (what is shared counts as often as it is met; a slice's spare places count too). A statement '..UptoSaid' is the law's where the arguments, and the package variables that the reading takes, are together of bulk at most 1048576: NARROWER than '..Said'. Prove '..Said' where nothing that the law and all that it calls make is longer than what came in: it says more and counts as full. Else prove '..UptoSaid'. A law counts once. -/
mutual
def uptoBulk {H : Type} : DataW H → Nat
  | .lit (.string bytes) => bytes.length + 1
  | .lit _ => 1
  | .nil => 1
  | .ptr d => uptoBulk d + 1
  | .slice elems spare => uptoBulkAll elems + uptoBulkAll spare + 1
  | .agg parts => uptoBulkAll parts + 1
  | .iface _ d => uptoBulk d + 1
  | .map entries => uptoBulkEntries entries + 1
  | .held _ => 1
def uptoBulkAll {H : Type} : List (DataW H) → Nat
  | [] => 0
  | d :: r => uptoBulk d + uptoBulkAll r
def uptoBulkEntries {H : Type} : List (Lit × DataW H) → Nat
  | [] => 0
  | x :: r => uptoBulkEntry x + uptoBulkEntries r
def uptoBulkEntry {H : Type} : Lit × DataW H → Nat
  | (.string bytes, d) => bytes.length + uptoBulk d + 1
  | (_, d) => uptoBulk d + 1
 end
def uptoSmall : (H : Type) → List (DataW H) → Bool := fun _ ds => decide (uptoBulkAll ds ≤ 1048576)
def OpenSpec.upto (s : _root_.Go.ChangeSpec) : _root_.Go.OpenSpec := { _root_.Go.OpenSpec.ofChange s with cond := some uptoSmall }

/-- 'laws.FnExactPathUp', WHERE WHAT IT READS IS OF BULK AT MOST 1048576: true; the input reads as it did. -/
def fnExactPathUpUptoRow : OpenClaim := { program := "ytmphnocgihegbaadoor", sum := "dddca621a9c8a2d8d0e0ae473068bf9da671380116a09f3103e6d3a0e32c0eda", func := "loop.example/g01261/laws.FnExactPathUp", spec := "fnExactPathUp", inPlace := ["internal/bytealg.CountString", "internal/bytealg.IndexByteString", "internal/bytealg.IndexString"], unfollowed := true, recurses := true, named := ["unicode/utf8.first", "unicode/utf8.acceptRanges", "internal/bytealg.MaxLen"], apart := false, laid := [("unicode/utf8.acceptRanges", laid_unicode_utf8_acceptRanges), ("unicode/utf8.first", laid_unicode_utf8_first)], narrowed := true }
def FnExactPathUpUptoSaid : Prop := fnExactPathUpUptoRow.holds Tryd.pinned (OpenSpec.upto fnExactPathUpSpec)

/-- 'laws.FnExactReadCatalogue', WHERE WHAT IT READS IS OF BULK AT MOST 1048576: true; the input reads as it did. -/
def fnExactReadCatalogueUptoRow : OpenClaim := { program := "ytmphnocgihegbaadoor", sum := "dddca621a9c8a2d8d0e0ae473068bf9da671380116a09f3103e6d3a0e32c0eda", func := "loop.example/g01261/laws.FnExactReadCatalogue", spec := "fnExactReadCatalogue", inPlace := ["internal/bytealg.CountString", "internal/bytealg.IndexByteString", "internal/bytealg.IndexString"], unfollowed := true, recurses := true, named := ["unicode/utf8.first", "unicode/utf8.acceptRanges", "internal/bytealg.MaxLen"], apart := false, laid := [("unicode/utf8.acceptRanges", laid_unicode_utf8_acceptRanges), ("unicode/utf8.first", laid_unicode_utf8_first)], narrowed := true }
def FnExactReadCatalogueUptoSaid : Prop := fnExactReadCatalogueUptoRow.holds Tryd.pinned (OpenSpec.upto fnExactReadCatalogueSpec)

/-- 'laws.FnExactNarrowerOf', WHERE WHAT IT READS IS OF BULK AT MOST 1048576: true; the input reads as it did. -/
def fnExactNarrowerOfUptoRow : OpenClaim := { program := "ytmphnocgihegbaadoor", sum := "dddca621a9c8a2d8d0e0ae473068bf9da671380116a09f3103e6d3a0e32c0eda", func := "loop.example/g01261/laws.FnExactNarrowerOf", spec := "fnExactNarrowerOf", inPlace := ["internal/bytealg.CountString", "internal/bytealg.IndexByteString", "internal/bytealg.IndexString"], unfollowed := true, recurses := true, named := ["unicode/utf8.first", "unicode/utf8.acceptRanges", "internal/bytealg.MaxLen"], apart := false, laid := [("unicode/utf8.acceptRanges", laid_unicode_utf8_acceptRanges), ("unicode/utf8.first", laid_unicode_utf8_first)], narrowed := true }
def FnExactNarrowerOfUptoSaid : Prop := fnExactNarrowerOfUptoRow.holds Tryd.pinned (OpenSpec.upto fnExactNarrowerOfSpec)

/-- 'laws.FnExactExpandEntry', WHERE WHAT IT READS IS OF BULK AT MOST 1048576: true; the input reads as it did. -/
def fnExactExpandEntryUptoRow : OpenClaim := { program := "ytmphnocgihegbaadoor", sum := "dddca621a9c8a2d8d0e0ae473068bf9da671380116a09f3103e6d3a0e32c0eda", func := "loop.example/g01261/laws.FnExactExpandEntry", spec := "fnExactExpandEntry", inPlace := ["internal/bytealg.CountString", "internal/bytealg.IndexByteString", "internal/bytealg.IndexString"], unfollowed := true, recurses := true, named := ["unicode/utf8.first", "unicode/utf8.acceptRanges", "internal/bytealg.MaxLen"], apart := false, laid := [("unicode/utf8.acceptRanges", laid_unicode_utf8_acceptRanges), ("unicode/utf8.first", laid_unicode_utf8_first)], narrowed := true }
def FnExactExpandEntryUptoSaid : Prop := fnExactExpandEntryUptoRow.holds Tryd.pinned (OpenSpec.upto fnExactExpandEntrySpec)

/-- 'laws.FnExactMergeEntries', WHERE WHAT IT READS IS OF BULK AT MOST 1048576: true; the input reads as it did. -/
def fnExactMergeEntriesUptoRow : OpenClaim := { program := "ytmphnocgihegbaadoor", sum := "dddca621a9c8a2d8d0e0ae473068bf9da671380116a09f3103e6d3a0e32c0eda", func := "loop.example/g01261/laws.FnExactMergeEntries", spec := "fnExactMergeEntries", inPlace := ["internal/bytealg.CountString", "internal/bytealg.IndexByteString", "internal/bytealg.IndexString"], unfollowed := true, recurses := true, named := ["unicode/utf8.first", "unicode/utf8.acceptRanges", "internal/bytealg.MaxLen"], apart := false, laid := [("unicode/utf8.acceptRanges", laid_unicode_utf8_acceptRanges), ("unicode/utf8.first", laid_unicode_utf8_first)], narrowed := true }
def FnExactMergeEntriesUptoSaid : Prop := fnExactMergeEntriesUptoRow.holds Tryd.pinned (OpenSpec.upto fnExactMergeEntriesSpec)

/-- 'laws.FnMerged', WHERE WHAT IT READS IS OF BULK AT MOST 1048576: true; the input reads as it did. -/
def fnMergedUptoRow : OpenClaim := { program := "ytmphnocgihegbaadoor", sum := "dddca621a9c8a2d8d0e0ae473068bf9da671380116a09f3103e6d3a0e32c0eda", func := "loop.example/g01261/laws.FnMerged", spec := "fnMerged", inPlace := ["internal/bytealg.CountString", "internal/bytealg.IndexByteString", "internal/bytealg.IndexString"], unfollowed := true, recurses := true, named := ["unicode/utf8.first", "unicode/utf8.acceptRanges", "internal/bytealg.MaxLen"], apart := false, laid := [("unicode/utf8.acceptRanges", laid_unicode_utf8_acceptRanges), ("unicode/utf8.first", laid_unicode_utf8_first)], narrowed := true }
def FnMergedUptoSaid : Prop := fnMergedUptoRow.holds Tryd.pinned (OpenSpec.upto fnMergedSpec)

end Rows
end Go.Proofs.YtmphnocgihegbaaDoor
