/-
  NARROWER THAN 'FOR EVERY INPUT', by the rows' own cells (each row's printed sentence says how): FnExactMixLot: laid · FnExactDroppedOf: laid · FnExactSureWords: laid · FnExactFalseOf: laid · FnExactExplainMask: laid · FnExactCountFalse: laid · FnExactBestPer: laid.
  DERIVED. THE GIVEN ROWS OF THIS SEAT. 7 by the template 'for every input the law returns true; each argument reads behind the call as it read before'; 0 by the template 'total and deterministic' (their statements: YtbmompanhigmnaaDoorTotals.lean).
  GIVEN WITH THE SEED: the statements are not yours to turn. If you find one false, say at which input.
  Laid BY PROGRAM, IN A SANDBOX (cutbox-rows.mjs): the forced cells as the released guide's own fill.sh prints them over the translation 8e1348e9835f5691… (all of the seat's roots in one cut). By AI agents, Wed Nov 11 2026. No macro, syntax, notation, axiom, sorry.
-/
import Derived.Test.YtbmompanhigmnaaDoorChecked
import GoSem.PinnedTables
import GoSem.Claim
import GoSem.ClaimJoined
import GoSem.ClaimMapViews
import Derived.JoinedTies
import Derived.KernelRfl
namespace Go.Proofs.YtbmompanhigmnaaDoor
/- THE CELL 'sum', in the pinned program and in every row, IS THE sha256 OF THE DUMP (.gsa) THAT YtbmompanhigmnaaDoorProg.lean LOADS. Nothing in Lean hashes anything: it is a label: what it is worth is what the hold of that sum in a sandbox is worth. -/
noncomputable def Tryd.pinned : Pinned := { name := "ytbmompanhigmnaadoor", sum := "8e1348e9835f5691f0dfe8274fc30a5c1b12abfd1956e4954a8650057d6cf555", checked := Tryd.checked }
namespace Rows
def none {H : Type} : Left H := { results := [], args := [] }

/- WHAT THE LISTED PACKAGE-LEVEL VARIABLES READ AS WHEN THE CALL BEGINS. Each datum BY PROGRAM (the guide's laid-datum.mjs) off the statement by which the dump's own 'gosem.cut.vars' lays the variable. In a bare row this is a premise. The card (YtbmompanhigmnaaDoorCards.lean) ties it to the program's text. -/
def laid_unicode_utf8_acceptRanges {H : Type} : DataW H := .agg [.agg [.lit (.int .u8 128), .lit (.int .u8 191)], .agg [.lit (.int .u8 160), .lit (.int .u8 191)], .agg [.lit (.int .u8 128), .lit (.int .u8 159)], .agg [.lit (.int .u8 144), .lit (.int .u8 191)], .agg [.lit (.int .u8 128), .lit (.int .u8 143)], .agg [.lit (.int .u8 0), .lit (.int .u8 0)], .agg [.lit (.int .u8 0), .lit (.int .u8 0)], .agg [.lit (.int .u8 0), .lit (.int .u8 0)], .agg [.lit (.int .u8 0), .lit (.int .u8 0)], .agg [.lit (.int .u8 0), .lit (.int .u8 0)], .agg [.lit (.int .u8 0), .lit (.int .u8 0)], .agg [.lit (.int .u8 0), .lit (.int .u8 0)], .agg [.lit (.int .u8 0), .lit (.int .u8 0)], .agg [.lit (.int .u8 0), .lit (.int .u8 0)], .agg [.lit (.int .u8 0), .lit (.int .u8 0)], .agg [.lit (.int .u8 0), .lit (.int .u8 0)]]
/-- One of Go's own tables, pinned by name: the form's constant. -/
def laid_unicode_utf8_first : DataW Unit := Go.Pinned.utf8First

/-- 'laws.FnExactMixLot': WHATEVER THE INPUT: true; the input reads as it did. -/
def fnExactMixLotSpec : ChangeSpec := { name := "fnExactMixLot", fn := fun _ => fun
  | [d1, d2] => { results := [.lit (.bool true)], args := [d1, d2] }
  | _ => none }
def fnExactMixLotRow : OpenClaim := { program := "ytbmompanhigmnaadoor", sum := "8e1348e9835f5691f0dfe8274fc30a5c1b12abfd1956e4954a8650057d6cf555", func := "loop.example/g01261/laws.FnExactMixLot", spec := "fnExactMixLot", inPlace := ["internal/bytealg.IndexByteString", "internal/bytealg.IndexString"], unfollowed := true, recurses := true, named := ["unicode/utf8.first", "unicode/utf8.acceptRanges", "internal/bytealg.MaxLen"], apart := false, laid := [("unicode/utf8.acceptRanges", laid_unicode_utf8_acceptRanges), ("unicode/utf8.first", laid_unicode_utf8_first)] }
def FnExactMixLotSaid : Prop := fnExactMixLotRow.holds Tryd.pinned (OpenSpec.ofChange fnExactMixLotSpec)

/-- ITS FALSE NEIGHBOUR: 'it returns false'. Refute it at one input. -/
def fnExactMixLotWrong : ChangeSpec := { name := "fnExactMixLot", fn := fun _ => fun
  | [d1, d2] => { results := [.lit (.bool false)], args := [d1, d2] }
  | _ => none }
def FnExactMixLotWrongFalsely : Prop := fnExactMixLotRow.holds Tryd.pinned (OpenSpec.ofChange fnExactMixLotWrong)

/-- 'laws.FnExactDroppedOf': WHATEVER THE INPUT: true; the input reads as it did. -/
def fnExactDroppedOfSpec : ChangeSpec := { name := "fnExactDroppedOf", fn := fun _ => fun
  | [d1, d2, d3] => { results := [.lit (.bool true)], args := [d1, d2, d3] }
  | _ => none }
def fnExactDroppedOfRow : OpenClaim := { program := "ytbmompanhigmnaadoor", sum := "8e1348e9835f5691f0dfe8274fc30a5c1b12abfd1956e4954a8650057d6cf555", func := "loop.example/g01261/laws.FnExactDroppedOf", spec := "fnExactDroppedOf", inPlace := ["internal/bytealg.IndexByteString", "internal/bytealg.IndexString"], unfollowed := true, recurses := true, named := ["unicode/utf8.first", "unicode/utf8.acceptRanges", "internal/bytealg.MaxLen"], apart := false, laid := [("unicode/utf8.acceptRanges", laid_unicode_utf8_acceptRanges), ("unicode/utf8.first", laid_unicode_utf8_first)] }
def FnExactDroppedOfSaid : Prop := fnExactDroppedOfRow.holds Tryd.pinned (OpenSpec.ofChange fnExactDroppedOfSpec)

/-- ITS FALSE NEIGHBOUR: 'it returns false'. Refute it at one input. -/
def fnExactDroppedOfWrong : ChangeSpec := { name := "fnExactDroppedOf", fn := fun _ => fun
  | [d1, d2, d3] => { results := [.lit (.bool false)], args := [d1, d2, d3] }
  | _ => none }
def FnExactDroppedOfWrongFalsely : Prop := fnExactDroppedOfRow.holds Tryd.pinned (OpenSpec.ofChange fnExactDroppedOfWrong)

/-- 'laws.FnExactSureWords': WHATEVER THE INPUT: true; the input reads as it did. -/
def fnExactSureWordsSpec : ChangeSpec := { name := "fnExactSureWords", fn := fun _ => fun
  | [d1, d2, d3] => { results := [.lit (.bool true)], args := [d1, d2, d3] }
  | _ => none }
def fnExactSureWordsRow : OpenClaim := { program := "ytbmompanhigmnaadoor", sum := "8e1348e9835f5691f0dfe8274fc30a5c1b12abfd1956e4954a8650057d6cf555", func := "loop.example/g01261/laws.FnExactSureWords", spec := "fnExactSureWords", inPlace := ["internal/bytealg.IndexByteString", "internal/bytealg.IndexString"], unfollowed := true, recurses := true, named := ["unicode/utf8.first", "unicode/utf8.acceptRanges", "internal/bytealg.MaxLen"], apart := false, laid := [("unicode/utf8.acceptRanges", laid_unicode_utf8_acceptRanges), ("unicode/utf8.first", laid_unicode_utf8_first)] }
def FnExactSureWordsSaid : Prop := fnExactSureWordsRow.holds Tryd.pinned (OpenSpec.ofChange fnExactSureWordsSpec)

/-- ITS FALSE NEIGHBOUR: 'it returns false'. Refute it at one input. -/
def fnExactSureWordsWrong : ChangeSpec := { name := "fnExactSureWords", fn := fun _ => fun
  | [d1, d2, d3] => { results := [.lit (.bool false)], args := [d1, d2, d3] }
  | _ => none }
def FnExactSureWordsWrongFalsely : Prop := fnExactSureWordsRow.holds Tryd.pinned (OpenSpec.ofChange fnExactSureWordsWrong)

/-- 'laws.FnExactFalseOf': WHATEVER THE INPUT: true; the input reads as it did. -/
def fnExactFalseOfSpec : ChangeSpec := { name := "fnExactFalseOf", fn := fun _ => fun
  | [d1, d2, d3] => { results := [.lit (.bool true)], args := [d1, d2, d3] }
  | _ => none }
def fnExactFalseOfRow : OpenClaim := { program := "ytbmompanhigmnaadoor", sum := "8e1348e9835f5691f0dfe8274fc30a5c1b12abfd1956e4954a8650057d6cf555", func := "loop.example/g01261/laws.FnExactFalseOf", spec := "fnExactFalseOf", inPlace := ["internal/bytealg.IndexByteString", "internal/bytealg.IndexString"], unfollowed := true, recurses := true, named := ["unicode/utf8.first", "unicode/utf8.acceptRanges", "internal/bytealg.MaxLen"], apart := false, laid := [("unicode/utf8.acceptRanges", laid_unicode_utf8_acceptRanges), ("unicode/utf8.first", laid_unicode_utf8_first)] }
def FnExactFalseOfSaid : Prop := fnExactFalseOfRow.holds Tryd.pinned (OpenSpec.ofChange fnExactFalseOfSpec)

/-- ITS FALSE NEIGHBOUR: 'it returns false'. Refute it at one input. -/
def fnExactFalseOfWrong : ChangeSpec := { name := "fnExactFalseOf", fn := fun _ => fun
  | [d1, d2, d3] => { results := [.lit (.bool false)], args := [d1, d2, d3] }
  | _ => none }
def FnExactFalseOfWrongFalsely : Prop := fnExactFalseOfRow.holds Tryd.pinned (OpenSpec.ofChange fnExactFalseOfWrong)

/-- 'laws.FnExactExplainMask': WHATEVER THE INPUT: true; the input reads as it did. -/
def fnExactExplainMaskSpec : ChangeSpec := { name := "fnExactExplainMask", fn := fun _ => fun
  | [d1, d2, d3, d4] => { results := [.lit (.bool true)], args := [d1, d2, d3, d4] }
  | _ => none }
def fnExactExplainMaskRow : OpenClaim := { program := "ytbmompanhigmnaadoor", sum := "8e1348e9835f5691f0dfe8274fc30a5c1b12abfd1956e4954a8650057d6cf555", func := "loop.example/g01261/laws.FnExactExplainMask", spec := "fnExactExplainMask", inPlace := ["internal/bytealg.IndexByteString", "internal/bytealg.IndexString"], unfollowed := true, recurses := true, named := ["unicode/utf8.first", "unicode/utf8.acceptRanges", "internal/bytealg.MaxLen"], apart := false, laid := [("unicode/utf8.acceptRanges", laid_unicode_utf8_acceptRanges), ("unicode/utf8.first", laid_unicode_utf8_first)] }
def FnExactExplainMaskSaid : Prop := fnExactExplainMaskRow.holds Tryd.pinned (OpenSpec.ofChange fnExactExplainMaskSpec)

/-- ITS FALSE NEIGHBOUR: 'it returns false'. Refute it at one input. -/
def fnExactExplainMaskWrong : ChangeSpec := { name := "fnExactExplainMask", fn := fun _ => fun
  | [d1, d2, d3, d4] => { results := [.lit (.bool false)], args := [d1, d2, d3, d4] }
  | _ => none }
def FnExactExplainMaskWrongFalsely : Prop := fnExactExplainMaskRow.holds Tryd.pinned (OpenSpec.ofChange fnExactExplainMaskWrong)

/-- 'laws.FnExactCountFalse': WHATEVER THE INPUT: true; the input reads as it did. -/
def fnExactCountFalseSpec : ChangeSpec := { name := "fnExactCountFalse", fn := fun _ => fun
  | [d1, d2] => { results := [.lit (.bool true)], args := [d1, d2] }
  | _ => none }
def fnExactCountFalseRow : OpenClaim := { program := "ytbmompanhigmnaadoor", sum := "8e1348e9835f5691f0dfe8274fc30a5c1b12abfd1956e4954a8650057d6cf555", func := "loop.example/g01261/laws.FnExactCountFalse", spec := "fnExactCountFalse", inPlace := ["internal/bytealg.IndexByteString", "internal/bytealg.IndexString"], unfollowed := true, recurses := true, named := ["unicode/utf8.first", "unicode/utf8.acceptRanges", "internal/bytealg.MaxLen"], apart := false, laid := [("unicode/utf8.acceptRanges", laid_unicode_utf8_acceptRanges), ("unicode/utf8.first", laid_unicode_utf8_first)] }
def FnExactCountFalseSaid : Prop := fnExactCountFalseRow.holds Tryd.pinned (OpenSpec.ofChange fnExactCountFalseSpec)

/-- ITS FALSE NEIGHBOUR: 'it returns false'. Refute it at one input. -/
def fnExactCountFalseWrong : ChangeSpec := { name := "fnExactCountFalse", fn := fun _ => fun
  | [d1, d2] => { results := [.lit (.bool false)], args := [d1, d2] }
  | _ => none }
def FnExactCountFalseWrongFalsely : Prop := fnExactCountFalseRow.holds Tryd.pinned (OpenSpec.ofChange fnExactCountFalseWrong)

/-- 'laws.FnExactBestPer': WHATEVER THE INPUT: true; the input reads as it did. -/
def fnExactBestPerSpec : ChangeSpec := { name := "fnExactBestPer", fn := fun _ => fun
  | [d1, d2] => { results := [.lit (.bool true)], args := [d1, d2] }
  | _ => none }
def fnExactBestPerRow : OpenClaim := { program := "ytbmompanhigmnaadoor", sum := "8e1348e9835f5691f0dfe8274fc30a5c1b12abfd1956e4954a8650057d6cf555", func := "loop.example/g01261/laws.FnExactBestPer", spec := "fnExactBestPer", inPlace := ["internal/bytealg.IndexByteString", "internal/bytealg.IndexString"], unfollowed := true, recurses := true, named := ["unicode/utf8.first", "unicode/utf8.acceptRanges", "internal/bytealg.MaxLen"], apart := false, laid := [("unicode/utf8.acceptRanges", laid_unicode_utf8_acceptRanges), ("unicode/utf8.first", laid_unicode_utf8_first)] }
def FnExactBestPerSaid : Prop := fnExactBestPerRow.holds Tryd.pinned (OpenSpec.ofChange fnExactBestPerSpec)

/-- ITS FALSE NEIGHBOUR: 'it returns false'. Refute it at one input. -/
def fnExactBestPerWrong : ChangeSpec := { name := "fnExactBestPer", fn := fun _ => fun
  | [d1, d2] => { results := [.lit (.bool false)], args := [d1, d2] }
  | _ => none }
def FnExactBestPerWrongFalsely : Prop := fnExactBestPerRow.holds Tryd.pinned (OpenSpec.ofChange fnExactBestPerWrong)

/- THE SECOND FORM. 'bulk': how many values and letters a reading holds, each counted each time it is reached (what is shared counts as often as it is met; a slice's spare places count too). A statement '..UptoSaid' is the law's where the arguments, and the package variables that the reading takes, are together of bulk at most 1048576: NARROWER than '..Said'. Prove '..Said' where nothing that the law and all that it calls make is longer than what came in: it says more and counts as full. Else prove '..UptoSaid'. A law counts once. -/
mutual
def uptoBulk {H : Type} : DataW H → Nat
  | .lit (.string bytes) => bytes.length + 1
  | .lit _ => 1
  | .nil => 1
  | .ptr d => uptoBulk d + 1
  | .slice elems spare => uptoBulkAll elems + uptoBulkAll spare + 1
  | .agg parts => uptoBulkAll parts + 1
  | .iface _ d => uptoBulk d + 1
  | .map entries => uptoBulkEntries entries + 1
  | .held _ => 1
def uptoBulkAll {H : Type} : List (DataW H) → Nat
  | [] => 0
  | d :: r => uptoBulk d + uptoBulkAll r
def uptoBulkEntries {H : Type} : List (Lit × DataW H) → Nat
  | [] => 0
  | x :: r => uptoBulkEntry x + uptoBulkEntries r
def uptoBulkEntry {H : Type} : Lit × DataW H → Nat
  | (.string bytes, d) => bytes.length + uptoBulk d + 1
  | (_, d) => uptoBulk d + 1
 end
def uptoSmall : (H : Type) → List (DataW H) → Bool := fun _ ds => decide (uptoBulkAll ds ≤ 1048576)
def OpenSpec.upto (s : _root_.Go.ChangeSpec) : _root_.Go.OpenSpec := { _root_.Go.OpenSpec.ofChange s with cond := some uptoSmall }

/-- 'laws.FnExactMixLot', WHERE WHAT IT READS IS OF BULK AT MOST 1048576: true; the input reads as it did. -/
def fnExactMixLotUptoRow : OpenClaim := { program := "ytbmompanhigmnaadoor", sum := "8e1348e9835f5691f0dfe8274fc30a5c1b12abfd1956e4954a8650057d6cf555", func := "loop.example/g01261/laws.FnExactMixLot", spec := "fnExactMixLot", inPlace := ["internal/bytealg.IndexByteString", "internal/bytealg.IndexString"], unfollowed := true, recurses := true, named := ["unicode/utf8.first", "unicode/utf8.acceptRanges", "internal/bytealg.MaxLen"], apart := false, laid := [("unicode/utf8.acceptRanges", laid_unicode_utf8_acceptRanges), ("unicode/utf8.first", laid_unicode_utf8_first)], narrowed := true }
def FnExactMixLotUptoSaid : Prop := fnExactMixLotUptoRow.holds Tryd.pinned (OpenSpec.upto fnExactMixLotSpec)

/-- 'laws.FnExactDroppedOf', WHERE WHAT IT READS IS OF BULK AT MOST 1048576: true; the input reads as it did. -/
def fnExactDroppedOfUptoRow : OpenClaim := { program := "ytbmompanhigmnaadoor", sum := "8e1348e9835f5691f0dfe8274fc30a5c1b12abfd1956e4954a8650057d6cf555", func := "loop.example/g01261/laws.FnExactDroppedOf", spec := "fnExactDroppedOf", inPlace := ["internal/bytealg.IndexByteString", "internal/bytealg.IndexString"], unfollowed := true, recurses := true, named := ["unicode/utf8.first", "unicode/utf8.acceptRanges", "internal/bytealg.MaxLen"], apart := false, laid := [("unicode/utf8.acceptRanges", laid_unicode_utf8_acceptRanges), ("unicode/utf8.first", laid_unicode_utf8_first)], narrowed := true }
def FnExactDroppedOfUptoSaid : Prop := fnExactDroppedOfUptoRow.holds Tryd.pinned (OpenSpec.upto fnExactDroppedOfSpec)

/-- 'laws.FnExactSureWords', WHERE WHAT IT READS IS OF BULK AT MOST 1048576: true; the input reads as it did. -/
def fnExactSureWordsUptoRow : OpenClaim := { program := "ytbmompanhigmnaadoor", sum := "8e1348e9835f5691f0dfe8274fc30a5c1b12abfd1956e4954a8650057d6cf555", func := "loop.example/g01261/laws.FnExactSureWords", spec := "fnExactSureWords", inPlace := ["internal/bytealg.IndexByteString", "internal/bytealg.IndexString"], unfollowed := true, recurses := true, named := ["unicode/utf8.first", "unicode/utf8.acceptRanges", "internal/bytealg.MaxLen"], apart := false, laid := [("unicode/utf8.acceptRanges", laid_unicode_utf8_acceptRanges), ("unicode/utf8.first", laid_unicode_utf8_first)], narrowed := true }
def FnExactSureWordsUptoSaid : Prop := fnExactSureWordsUptoRow.holds Tryd.pinned (OpenSpec.upto fnExactSureWordsSpec)

/-- 'laws.FnExactFalseOf', WHERE WHAT IT READS IS OF BULK AT MOST 1048576: true; the input reads as it did. -/
def fnExactFalseOfUptoRow : OpenClaim := { program := "ytbmompanhigmnaadoor", sum := "8e1348e9835f5691f0dfe8274fc30a5c1b12abfd1956e4954a8650057d6cf555", func := "loop.example/g01261/laws.FnExactFalseOf", spec := "fnExactFalseOf", inPlace := ["internal/bytealg.IndexByteString", "internal/bytealg.IndexString"], unfollowed := true, recurses := true, named := ["unicode/utf8.first", "unicode/utf8.acceptRanges", "internal/bytealg.MaxLen"], apart := false, laid := [("unicode/utf8.acceptRanges", laid_unicode_utf8_acceptRanges), ("unicode/utf8.first", laid_unicode_utf8_first)], narrowed := true }
def FnExactFalseOfUptoSaid : Prop := fnExactFalseOfUptoRow.holds Tryd.pinned (OpenSpec.upto fnExactFalseOfSpec)

/-- 'laws.FnExactExplainMask', WHERE WHAT IT READS IS OF BULK AT MOST 1048576: true; the input reads as it did. -/
def fnExactExplainMaskUptoRow : OpenClaim := { program := "ytbmompanhigmnaadoor", sum := "8e1348e9835f5691f0dfe8274fc30a5c1b12abfd1956e4954a8650057d6cf555", func := "loop.example/g01261/laws.FnExactExplainMask", spec := "fnExactExplainMask", inPlace := ["internal/bytealg.IndexByteString", "internal/bytealg.IndexString"], unfollowed := true, recurses := true, named := ["unicode/utf8.first", "unicode/utf8.acceptRanges", "internal/bytealg.MaxLen"], apart := false, laid := [("unicode/utf8.acceptRanges", laid_unicode_utf8_acceptRanges), ("unicode/utf8.first", laid_unicode_utf8_first)], narrowed := true }
def FnExactExplainMaskUptoSaid : Prop := fnExactExplainMaskUptoRow.holds Tryd.pinned (OpenSpec.upto fnExactExplainMaskSpec)

/-- 'laws.FnExactCountFalse', WHERE WHAT IT READS IS OF BULK AT MOST 1048576: true; the input reads as it did. -/
def fnExactCountFalseUptoRow : OpenClaim := { program := "ytbmompanhigmnaadoor", sum := "8e1348e9835f5691f0dfe8274fc30a5c1b12abfd1956e4954a8650057d6cf555", func := "loop.example/g01261/laws.FnExactCountFalse", spec := "fnExactCountFalse", inPlace := ["internal/bytealg.IndexByteString", "internal/bytealg.IndexString"], unfollowed := true, recurses := true, named := ["unicode/utf8.first", "unicode/utf8.acceptRanges", "internal/bytealg.MaxLen"], apart := false, laid := [("unicode/utf8.acceptRanges", laid_unicode_utf8_acceptRanges), ("unicode/utf8.first", laid_unicode_utf8_first)], narrowed := true }
def FnExactCountFalseUptoSaid : Prop := fnExactCountFalseUptoRow.holds Tryd.pinned (OpenSpec.upto fnExactCountFalseSpec)

/-- 'laws.FnExactBestPer', WHERE WHAT IT READS IS OF BULK AT MOST 1048576: true; the input reads as it did. -/
def fnExactBestPerUptoRow : OpenClaim := { program := "ytbmompanhigmnaadoor", sum := "8e1348e9835f5691f0dfe8274fc30a5c1b12abfd1956e4954a8650057d6cf555", func := "loop.example/g01261/laws.FnExactBestPer", spec := "fnExactBestPer", inPlace := ["internal/bytealg.IndexByteString", "internal/bytealg.IndexString"], unfollowed := true, recurses := true, named := ["unicode/utf8.first", "unicode/utf8.acceptRanges", "internal/bytealg.MaxLen"], apart := false, laid := [("unicode/utf8.acceptRanges", laid_unicode_utf8_acceptRanges), ("unicode/utf8.first", laid_unicode_utf8_first)], narrowed := true }
def FnExactBestPerUptoSaid : Prop := fnExactBestPerUptoRow.holds Tryd.pinned (OpenSpec.upto fnExactBestPerSpec)

end Rows
end Go.Proofs.YtbmompanhigmnaaDoor
