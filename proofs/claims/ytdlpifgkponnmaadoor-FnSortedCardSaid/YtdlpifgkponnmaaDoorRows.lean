/-
  NARROWER THAN 'FOR EVERY INPUT', by the rows' own cells (each row's printed sentence says how): FnExactSortDeck: laid · FnExactFirstFrom: laid · FnExactMergeDecks: laid · FnSorted: laid.
  DERIVED. THE GIVEN ROWS OF THIS SEAT. 4 by the template 'for every input the law returns true; each argument reads behind the call as it read before'; 0 by the template 'total and deterministic' (their statements: YtdlpifgkponnmaaDoorTotals.lean).
  GIVEN WITH THE SEED: the statements are not yours to turn. If you find one false, say at which input.
  Laid BY PROGRAM, IN A SANDBOX (cutbox-rows.mjs): the forced cells as the released guide's own fill.sh prints them over the translation 588298df00747806… (all of the seat's roots in one cut). By AI agents, Wed Nov 11 2026. No macro, syntax, notation, axiom, sorry.
-/
import Derived.Test.YtdlpifgkponnmaaDoorChecked
import GoSem.PinnedTables
import GoSem.Claim
import GoSem.ClaimJoined
import GoSem.ClaimMapViews
import Derived.JoinedTies
import Derived.KernelRfl
namespace Go.Proofs.YtdlpifgkponnmaaDoor
/- THE CELL 'sum', in the pinned program and in every row, IS THE sha256 OF THE DUMP (.gsa) THAT YtdlpifgkponnmaaDoorProg.lean LOADS. Nothing in Lean hashes anything: it is a label: what it is worth is what the hold of that sum in a sandbox is worth. -/
noncomputable def Tryd.pinned : Pinned := { name := "ytdlpifgkponnmaadoor", sum := "588298df00747806fbb9f4726705b622893e8933f6d3c60ef8647a89881083c6", checked := Tryd.checked }
namespace Rows
def none {H : Type} : Left H := { results := [], args := [] }

/- WHAT THE LISTED PACKAGE-LEVEL VARIABLES READ AS WHEN THE CALL BEGINS. Each datum BY PROGRAM (the guide's laid-datum.mjs) off the statement by which the dump's own 'gosem.cut.vars' lays the variable. In a bare row this is a premise. The card (YtdlpifgkponnmaaDoorCards.lean) ties it to the program's text. -/
def laid_unicode_utf8_acceptRanges {H : Type} : DataW H := .agg [.agg [.lit (.int .u8 128), .lit (.int .u8 191)], .agg [.lit (.int .u8 160), .lit (.int .u8 191)], .agg [.lit (.int .u8 128), .lit (.int .u8 159)], .agg [.lit (.int .u8 144), .lit (.int .u8 191)], .agg [.lit (.int .u8 128), .lit (.int .u8 143)], .agg [.lit (.int .u8 0), .lit (.int .u8 0)], .agg [.lit (.int .u8 0), .lit (.int .u8 0)], .agg [.lit (.int .u8 0), .lit (.int .u8 0)], .agg [.lit (.int .u8 0), .lit (.int .u8 0)], .agg [.lit (.int .u8 0), .lit (.int .u8 0)], .agg [.lit (.int .u8 0), .lit (.int .u8 0)], .agg [.lit (.int .u8 0), .lit (.int .u8 0)], .agg [.lit (.int .u8 0), .lit (.int .u8 0)], .agg [.lit (.int .u8 0), .lit (.int .u8 0)], .agg [.lit (.int .u8 0), .lit (.int .u8 0)], .agg [.lit (.int .u8 0), .lit (.int .u8 0)]]
/-- One of Go's own tables, pinned by name: the form's constant. -/
def laid_unicode_utf8_first : DataW Unit := Go.Pinned.utf8First

/-- 'laws.FnExactSortDeck': WHATEVER THE INPUT: true; the input reads as it did. -/
def fnExactSortDeckSpec : ChangeSpec := { name := "fnExactSortDeck", fn := fun _ => fun
  | [d1, d2] => { results := [.lit (.bool true)], args := [d1, d2] }
  | _ => none }
def fnExactSortDeckRow : OpenClaim := { program := "ytdlpifgkponnmaadoor", sum := "588298df00747806fbb9f4726705b622893e8933f6d3c60ef8647a89881083c6", func := "loop.example/g01261/laws.FnExactSortDeck", spec := "fnExactSortDeck", inPlace := ["internal/bytealg.IndexByteString", "internal/bytealg.IndexString"], unfollowed := true, recurses := true, named := ["unicode/utf8.first", "unicode/utf8.acceptRanges", "internal/bytealg.MaxLen"], apart := false, laid := [("unicode/utf8.acceptRanges", laid_unicode_utf8_acceptRanges), ("unicode/utf8.first", laid_unicode_utf8_first)] }
def FnExactSortDeckSaid : Prop := fnExactSortDeckRow.holds Tryd.pinned (OpenSpec.ofChange fnExactSortDeckSpec)

/-- ITS FALSE NEIGHBOUR: 'it returns false'. Refute it at one input. -/
def fnExactSortDeckWrong : ChangeSpec := { name := "fnExactSortDeck", fn := fun _ => fun
  | [d1, d2] => { results := [.lit (.bool false)], args := [d1, d2] }
  | _ => none }
def FnExactSortDeckWrongFalsely : Prop := fnExactSortDeckRow.holds Tryd.pinned (OpenSpec.ofChange fnExactSortDeckWrong)

/-- 'laws.FnExactFirstFrom': WHATEVER THE INPUT: true; the input reads as it did. -/
def fnExactFirstFromSpec : ChangeSpec := { name := "fnExactFirstFrom", fn := fun _ => fun
  | [d1, d2, d3] => { results := [.lit (.bool true)], args := [d1, d2, d3] }
  | _ => none }
def fnExactFirstFromRow : OpenClaim := { program := "ytdlpifgkponnmaadoor", sum := "588298df00747806fbb9f4726705b622893e8933f6d3c60ef8647a89881083c6", func := "loop.example/g01261/laws.FnExactFirstFrom", spec := "fnExactFirstFrom", inPlace := ["internal/bytealg.IndexByteString", "internal/bytealg.IndexString"], unfollowed := true, recurses := true, named := ["unicode/utf8.first", "unicode/utf8.acceptRanges", "internal/bytealg.MaxLen"], apart := false, laid := [("unicode/utf8.acceptRanges", laid_unicode_utf8_acceptRanges), ("unicode/utf8.first", laid_unicode_utf8_first)] }
def FnExactFirstFromSaid : Prop := fnExactFirstFromRow.holds Tryd.pinned (OpenSpec.ofChange fnExactFirstFromSpec)

/-- ITS FALSE NEIGHBOUR: 'it returns false'. Refute it at one input. -/
def fnExactFirstFromWrong : ChangeSpec := { name := "fnExactFirstFrom", fn := fun _ => fun
  | [d1, d2, d3] => { results := [.lit (.bool false)], args := [d1, d2, d3] }
  | _ => none }
def FnExactFirstFromWrongFalsely : Prop := fnExactFirstFromRow.holds Tryd.pinned (OpenSpec.ofChange fnExactFirstFromWrong)

/-- 'laws.FnExactMergeDecks': WHATEVER THE INPUT: true; the input reads as it did. -/
def fnExactMergeDecksSpec : ChangeSpec := { name := "fnExactMergeDecks", fn := fun _ => fun
  | [d1, d2, d3] => { results := [.lit (.bool true)], args := [d1, d2, d3] }
  | _ => none }
def fnExactMergeDecksRow : OpenClaim := { program := "ytdlpifgkponnmaadoor", sum := "588298df00747806fbb9f4726705b622893e8933f6d3c60ef8647a89881083c6", func := "loop.example/g01261/laws.FnExactMergeDecks", spec := "fnExactMergeDecks", inPlace := ["internal/bytealg.IndexByteString", "internal/bytealg.IndexString"], unfollowed := true, recurses := true, named := ["unicode/utf8.first", "unicode/utf8.acceptRanges", "internal/bytealg.MaxLen"], apart := false, laid := [("unicode/utf8.acceptRanges", laid_unicode_utf8_acceptRanges), ("unicode/utf8.first", laid_unicode_utf8_first)] }
def FnExactMergeDecksSaid : Prop := fnExactMergeDecksRow.holds Tryd.pinned (OpenSpec.ofChange fnExactMergeDecksSpec)

/-- ITS FALSE NEIGHBOUR: 'it returns false'. Refute it at one input. -/
def fnExactMergeDecksWrong : ChangeSpec := { name := "fnExactMergeDecks", fn := fun _ => fun
  | [d1, d2, d3] => { results := [.lit (.bool false)], args := [d1, d2, d3] }
  | _ => none }
def FnExactMergeDecksWrongFalsely : Prop := fnExactMergeDecksRow.holds Tryd.pinned (OpenSpec.ofChange fnExactMergeDecksWrong)

/-- 'laws.FnSorted': WHATEVER THE INPUT: true; the input reads as it did. -/
def fnSortedSpec : ChangeSpec := { name := "fnSorted", fn := fun _ => fun
  | [d1, d2] => { results := [.lit (.bool true)], args := [d1, d2] }
  | _ => none }
def fnSortedRow : OpenClaim := { program := "ytdlpifgkponnmaadoor", sum := "588298df00747806fbb9f4726705b622893e8933f6d3c60ef8647a89881083c6", func := "loop.example/g01261/laws.FnSorted", spec := "fnSorted", inPlace := ["internal/bytealg.IndexByteString", "internal/bytealg.IndexString"], unfollowed := true, recurses := true, named := ["unicode/utf8.first", "unicode/utf8.acceptRanges", "internal/bytealg.MaxLen"], apart := false, laid := [("unicode/utf8.acceptRanges", laid_unicode_utf8_acceptRanges), ("unicode/utf8.first", laid_unicode_utf8_first)] }
def FnSortedSaid : Prop := fnSortedRow.holds Tryd.pinned (OpenSpec.ofChange fnSortedSpec)

/-- ITS FALSE NEIGHBOUR: 'it returns false'. Refute it at one input. -/
def fnSortedWrong : ChangeSpec := { name := "fnSorted", fn := fun _ => fun
  | [d1, d2] => { results := [.lit (.bool false)], args := [d1, d2] }
  | _ => none }
def FnSortedWrongFalsely : Prop := fnSortedRow.holds Tryd.pinned (OpenSpec.ofChange fnSortedWrong)

/- THE SECOND FORM. 'bulk': how many values and letters a reading holds, each counted each time it is reached (what is shared counts as often as it is met; a slice's spare places count too). A statement '..UptoSaid' is the law's where the arguments, and the package variables that the reading takes, are together of bulk at most 1048576: NARROWER than '..Said'. Prove '..Said' where nothing that the law and all that it calls make is longer than what came in: it says more and counts as full. Else prove '..UptoSaid'. A law counts once. -/
mutual
def uptoBulk {H : Type} : DataW H → Nat
  | .lit (.string bytes) => bytes.length + 1
  | .lit _ => 1
  | .nil => 1
  | .ptr d => uptoBulk d + 1
  | .slice elems spare => uptoBulkAll elems + uptoBulkAll spare + 1
  | .agg parts => uptoBulkAll parts + 1
  | .iface _ d => uptoBulk d + 1
  | .map entries => uptoBulkEntries entries + 1
  | .held _ => 1
def uptoBulkAll {H : Type} : List (DataW H) → Nat
  | [] => 0
  | d :: r => uptoBulk d + uptoBulkAll r
def uptoBulkEntries {H : Type} : List (Lit × DataW H) → Nat
  | [] => 0
  | x :: r => uptoBulkEntry x + uptoBulkEntries r
def uptoBulkEntry {H : Type} : Lit × DataW H → Nat
  | (.string bytes, d) => bytes.length + uptoBulk d + 1
  | (_, d) => uptoBulk d + 1
 end
def uptoSmall : (H : Type) → List (DataW H) → Bool := fun _ ds => decide (uptoBulkAll ds ≤ 1048576)
def OpenSpec.upto (s : _root_.Go.ChangeSpec) : _root_.Go.OpenSpec := { _root_.Go.OpenSpec.ofChange s with cond := some uptoSmall }

/-- 'laws.FnExactSortDeck', WHERE WHAT IT READS IS OF BULK AT MOST 1048576: true; the input reads as it did. -/
def fnExactSortDeckUptoRow : OpenClaim := { program := "ytdlpifgkponnmaadoor", sum := "588298df00747806fbb9f4726705b622893e8933f6d3c60ef8647a89881083c6", func := "loop.example/g01261/laws.FnExactSortDeck", spec := "fnExactSortDeck", inPlace := ["internal/bytealg.IndexByteString", "internal/bytealg.IndexString"], unfollowed := true, recurses := true, named := ["unicode/utf8.first", "unicode/utf8.acceptRanges", "internal/bytealg.MaxLen"], apart := false, laid := [("unicode/utf8.acceptRanges", laid_unicode_utf8_acceptRanges), ("unicode/utf8.first", laid_unicode_utf8_first)], narrowed := true }
def FnExactSortDeckUptoSaid : Prop := fnExactSortDeckUptoRow.holds Tryd.pinned (OpenSpec.upto fnExactSortDeckSpec)

/-- 'laws.FnExactFirstFrom', WHERE WHAT IT READS IS OF BULK AT MOST 1048576: true; the input reads as it did. -/
def fnExactFirstFromUptoRow : OpenClaim := { program := "ytdlpifgkponnmaadoor", sum := "588298df00747806fbb9f4726705b622893e8933f6d3c60ef8647a89881083c6", func := "loop.example/g01261/laws.FnExactFirstFrom", spec := "fnExactFirstFrom", inPlace := ["internal/bytealg.IndexByteString", "internal/bytealg.IndexString"], unfollowed := true, recurses := true, named := ["unicode/utf8.first", "unicode/utf8.acceptRanges", "internal/bytealg.MaxLen"], apart := false, laid := [("unicode/utf8.acceptRanges", laid_unicode_utf8_acceptRanges), ("unicode/utf8.first", laid_unicode_utf8_first)], narrowed := true }
def FnExactFirstFromUptoSaid : Prop := fnExactFirstFromUptoRow.holds Tryd.pinned (OpenSpec.upto fnExactFirstFromSpec)

/-- 'laws.FnExactMergeDecks', WHERE WHAT IT READS IS OF BULK AT MOST 1048576: true; the input reads as it did. -/
def fnExactMergeDecksUptoRow : OpenClaim := { program := "ytdlpifgkponnmaadoor", sum := "588298df00747806fbb9f4726705b622893e8933f6d3c60ef8647a89881083c6", func := "loop.example/g01261/laws.FnExactMergeDecks", spec := "fnExactMergeDecks", inPlace := ["internal/bytealg.IndexByteString", "internal/bytealg.IndexString"], unfollowed := true, recurses := true, named := ["unicode/utf8.first", "unicode/utf8.acceptRanges", "internal/bytealg.MaxLen"], apart := false, laid := [("unicode/utf8.acceptRanges", laid_unicode_utf8_acceptRanges), ("unicode/utf8.first", laid_unicode_utf8_first)], narrowed := true }
def FnExactMergeDecksUptoSaid : Prop := fnExactMergeDecksUptoRow.holds Tryd.pinned (OpenSpec.upto fnExactMergeDecksSpec)

/-- 'laws.FnSorted', WHERE WHAT IT READS IS OF BULK AT MOST 1048576: true; the input reads as it did. -/
def fnSortedUptoRow : OpenClaim := { program := "ytdlpifgkponnmaadoor", sum := "588298df00747806fbb9f4726705b622893e8933f6d3c60ef8647a89881083c6", func := "loop.example/g01261/laws.FnSorted", spec := "fnSorted", inPlace := ["internal/bytealg.IndexByteString", "internal/bytealg.IndexString"], unfollowed := true, recurses := true, named := ["unicode/utf8.first", "unicode/utf8.acceptRanges", "internal/bytealg.MaxLen"], apart := false, laid := [("unicode/utf8.acceptRanges", laid_unicode_utf8_acceptRanges), ("unicode/utf8.first", laid_unicode_utf8_first)], narrowed := true }
def FnSortedUptoSaid : Prop := fnSortedUptoRow.holds Tryd.pinned (OpenSpec.upto fnSortedSpec)

end Rows
end Go.Proofs.YtdlpifgkponnmaaDoor
