/-
  NARROWER THAN 'FOR EVERY INPUT', by the rows' own cells (each row's printed sentence says how): UtfTexts: laid · UtfChars: laid · UtfFeeds: laid · UtfParts: laid · UtfRound: laid · UtfNil: laid · UtfJoins: laid.
  DERIVED. THE GIVEN ROWS OF THIS SEAT. 7 by the template 'for every input the law returns true; each argument reads behind the call as it read before'; 0 by the template 'total and deterministic' (their statements: YtimfabbielphbaaDoorTotals.lean).
  GIVEN WITH THE SEED: the statements are not yours to turn. If you find one false, say at which input.
  Laid BY PROGRAM, IN A SANDBOX (cutbox-rows.mjs): the forced cells as the released guide's own fill.sh prints them over the translation 37651db11f4fa51b… (all of the seat's roots in one cut). By AI agents, Wed Nov 11 2026. No macro, syntax, notation, axiom, sorry.
-/
import Derived.Test.YtimfabbielphbaaDoorChecked
import GoSem.PinnedTables
import GoSem.Claim
import GoSem.ClaimJoined
import GoSem.ClaimMapViews
import Derived.JoinedTies
import Derived.KernelRfl
namespace Go.Proofs.YtimfabbielphbaaDoor
/- THE CELL 'sum', in the pinned program and in every row, IS THE sha256 OF THE DUMP (.gsa) THAT YtimfabbielphbaaDoorProg.lean LOADS. Nothing in Lean hashes anything: it is a label: what it is worth is what the hold of that sum in a sandbox is worth. -/
noncomputable def Tryd.pinned : Pinned := { name := "ytimfabbielphbaadoor", sum := "37651db11f4fa51b3d325b8ddf7a58184201956a4ff08359b3390e9b0aa4cb21", checked := Tryd.checked }
namespace Rows
def none {H : Type} : Left H := { results := [], args := [] }

/- WHAT THE LISTED PACKAGE-LEVEL VARIABLES READ AS WHEN THE CALL BEGINS. Each datum BY PROGRAM (the guide's laid-datum.mjs) off the statement by which the dump's own 'gosem.cut.vars' lays the variable. In a bare row this is a premise. The card (YtimfabbielphbaaDoorCards.lean) ties it to the program's text. -/
def laid_unicode_utf8_acceptRanges {H : Type} : DataW H := .agg [.agg [.lit (.int .u8 128), .lit (.int .u8 191)], .agg [.lit (.int .u8 160), .lit (.int .u8 191)], .agg [.lit (.int .u8 128), .lit (.int .u8 159)], .agg [.lit (.int .u8 144), .lit (.int .u8 191)], .agg [.lit (.int .u8 128), .lit (.int .u8 143)], .agg [.lit (.int .u8 0), .lit (.int .u8 0)], .agg [.lit (.int .u8 0), .lit (.int .u8 0)], .agg [.lit (.int .u8 0), .lit (.int .u8 0)], .agg [.lit (.int .u8 0), .lit (.int .u8 0)], .agg [.lit (.int .u8 0), .lit (.int .u8 0)], .agg [.lit (.int .u8 0), .lit (.int .u8 0)], .agg [.lit (.int .u8 0), .lit (.int .u8 0)], .agg [.lit (.int .u8 0), .lit (.int .u8 0)], .agg [.lit (.int .u8 0), .lit (.int .u8 0)], .agg [.lit (.int .u8 0), .lit (.int .u8 0)], .agg [.lit (.int .u8 0), .lit (.int .u8 0)]]
/-- One of Go's own tables, pinned by name: the form's constant. -/
def laid_unicode_utf8_first : DataW Unit := Go.Pinned.utf8First

/-- 'calamuslaw03.UtfTexts': WHATEVER THE INPUT: true; the input reads as it did. -/
def utfTextsSpec : ChangeSpec := { name := "utfTexts", fn := fun _ => fun
  | [d] => { results := [.lit (.bool true)], args := [d] }
  | _ => none }
def utfTextsRow : OpenClaim := { program := "ytimfabbielphbaadoor", sum := "37651db11f4fa51b3d325b8ddf7a58184201956a4ff08359b3390e9b0aa4cb21", func := "calamus/calamuslaw03.UtfTexts", spec := "utfTexts", named := ["unicode/utf8.first", "unicode/utf8.acceptRanges"], apart := false, laid := [("unicode/utf8.acceptRanges", laid_unicode_utf8_acceptRanges), ("unicode/utf8.first", laid_unicode_utf8_first)] }
def UtfTextsSaid : Prop := utfTextsRow.holds Tryd.pinned (OpenSpec.ofChange utfTextsSpec)

/-- ITS FALSE NEIGHBOUR: 'it returns false'. Refute it at one input. -/
def utfTextsWrong : ChangeSpec := { name := "utfTexts", fn := fun _ => fun
  | [d] => { results := [.lit (.bool false)], args := [d] }
  | _ => none }
def UtfTextsWrongFalsely : Prop := utfTextsRow.holds Tryd.pinned (OpenSpec.ofChange utfTextsWrong)

/-- 'calamuslaw03.UtfChars': WHATEVER THE INPUT: true; the input reads as it did. -/
def utfCharsSpec : ChangeSpec := { name := "utfChars", fn := fun _ => fun
  | [d1, d2, d3] => { results := [.lit (.bool true)], args := [d1, d2, d3] }
  | _ => none }
def utfCharsRow : OpenClaim := { program := "ytimfabbielphbaadoor", sum := "37651db11f4fa51b3d325b8ddf7a58184201956a4ff08359b3390e9b0aa4cb21", func := "calamus/calamuslaw03.UtfChars", spec := "utfChars", named := ["unicode/utf8.first", "unicode/utf8.acceptRanges"], apart := false, laid := [("unicode/utf8.acceptRanges", laid_unicode_utf8_acceptRanges), ("unicode/utf8.first", laid_unicode_utf8_first)] }
def UtfCharsSaid : Prop := utfCharsRow.holds Tryd.pinned (OpenSpec.ofChange utfCharsSpec)

/-- ITS FALSE NEIGHBOUR: 'it returns false'. Refute it at one input. -/
def utfCharsWrong : ChangeSpec := { name := "utfChars", fn := fun _ => fun
  | [d1, d2, d3] => { results := [.lit (.bool false)], args := [d1, d2, d3] }
  | _ => none }
def UtfCharsWrongFalsely : Prop := utfCharsRow.holds Tryd.pinned (OpenSpec.ofChange utfCharsWrong)

/-- 'calamuslaw03.UtfFeeds': WHATEVER THE INPUT: true; the input reads as it did. -/
def utfFeedsSpec : ChangeSpec := { name := "utfFeeds", fn := fun _ => fun
  | [d] => { results := [.lit (.bool true)], args := [d] }
  | _ => none }
def utfFeedsRow : OpenClaim := { program := "ytimfabbielphbaadoor", sum := "37651db11f4fa51b3d325b8ddf7a58184201956a4ff08359b3390e9b0aa4cb21", func := "calamus/calamuslaw03.UtfFeeds", spec := "utfFeeds", named := ["unicode/utf8.first", "unicode/utf8.acceptRanges"], apart := false, laid := [("unicode/utf8.acceptRanges", laid_unicode_utf8_acceptRanges), ("unicode/utf8.first", laid_unicode_utf8_first)] }
def UtfFeedsSaid : Prop := utfFeedsRow.holds Tryd.pinned (OpenSpec.ofChange utfFeedsSpec)

/-- ITS FALSE NEIGHBOUR: 'it returns false'. Refute it at one input. -/
def utfFeedsWrong : ChangeSpec := { name := "utfFeeds", fn := fun _ => fun
  | [d] => { results := [.lit (.bool false)], args := [d] }
  | _ => none }
def UtfFeedsWrongFalsely : Prop := utfFeedsRow.holds Tryd.pinned (OpenSpec.ofChange utfFeedsWrong)

/-- 'calamuslaw03.UtfParts': WHATEVER THE INPUT: true; the input reads as it did. -/
def utfPartsSpec : ChangeSpec := { name := "utfParts", fn := fun _ => fun
  | [d1, d2] => { results := [.lit (.bool true)], args := [d1, d2] }
  | _ => none }
def utfPartsRow : OpenClaim := { program := "ytimfabbielphbaadoor", sum := "37651db11f4fa51b3d325b8ddf7a58184201956a4ff08359b3390e9b0aa4cb21", func := "calamus/calamuslaw03.UtfParts", spec := "utfParts", named := ["unicode/utf8.first", "unicode/utf8.acceptRanges"], apart := false, laid := [("unicode/utf8.acceptRanges", laid_unicode_utf8_acceptRanges), ("unicode/utf8.first", laid_unicode_utf8_first)] }
def UtfPartsSaid : Prop := utfPartsRow.holds Tryd.pinned (OpenSpec.ofChange utfPartsSpec)

/-- ITS FALSE NEIGHBOUR: 'it returns false'. Refute it at one input. -/
def utfPartsWrong : ChangeSpec := { name := "utfParts", fn := fun _ => fun
  | [d1, d2] => { results := [.lit (.bool false)], args := [d1, d2] }
  | _ => none }
def UtfPartsWrongFalsely : Prop := utfPartsRow.holds Tryd.pinned (OpenSpec.ofChange utfPartsWrong)

/-- 'calamuslaw03.UtfRound': WHATEVER THE INPUT: true; the input reads as it did. -/
def utfRoundSpec : ChangeSpec := { name := "utfRound", fn := fun _ => fun
  | [d1, d2] => { results := [.lit (.bool true)], args := [d1, d2] }
  | _ => none }
def utfRoundRow : OpenClaim := { program := "ytimfabbielphbaadoor", sum := "37651db11f4fa51b3d325b8ddf7a58184201956a4ff08359b3390e9b0aa4cb21", func := "calamus/calamuslaw03.UtfRound", spec := "utfRound", named := ["unicode/utf8.first", "unicode/utf8.acceptRanges"], apart := false, laid := [("unicode/utf8.acceptRanges", laid_unicode_utf8_acceptRanges), ("unicode/utf8.first", laid_unicode_utf8_first)] }
def UtfRoundSaid : Prop := utfRoundRow.holds Tryd.pinned (OpenSpec.ofChange utfRoundSpec)

/-- ITS FALSE NEIGHBOUR: 'it returns false'. Refute it at one input. -/
def utfRoundWrong : ChangeSpec := { name := "utfRound", fn := fun _ => fun
  | [d1, d2] => { results := [.lit (.bool false)], args := [d1, d2] }
  | _ => none }
def UtfRoundWrongFalsely : Prop := utfRoundRow.holds Tryd.pinned (OpenSpec.ofChange utfRoundWrong)

/-- 'calamuslaw03.UtfNil': WHATEVER THE INPUT: true; the input reads as it did. -/
def utfNilSpec : ChangeSpec := { name := "utfNil", fn := fun _ => fun
  | [d] => { results := [.lit (.bool true)], args := [d] }
  | _ => none }
def utfNilRow : OpenClaim := { program := "ytimfabbielphbaadoor", sum := "37651db11f4fa51b3d325b8ddf7a58184201956a4ff08359b3390e9b0aa4cb21", func := "calamus/calamuslaw03.UtfNil", spec := "utfNil", named := ["unicode/utf8.first", "unicode/utf8.acceptRanges"], apart := false, laid := [("unicode/utf8.acceptRanges", laid_unicode_utf8_acceptRanges), ("unicode/utf8.first", laid_unicode_utf8_first)] }
def UtfNilSaid : Prop := utfNilRow.holds Tryd.pinned (OpenSpec.ofChange utfNilSpec)

/-- ITS FALSE NEIGHBOUR: 'it returns false'. Refute it at one input. -/
def utfNilWrong : ChangeSpec := { name := "utfNil", fn := fun _ => fun
  | [d] => { results := [.lit (.bool false)], args := [d] }
  | _ => none }
def UtfNilWrongFalsely : Prop := utfNilRow.holds Tryd.pinned (OpenSpec.ofChange utfNilWrong)

/-- 'calamuslaw03.UtfJoins': WHATEVER THE INPUT: true; the input reads as it did. -/
def utfJoinsSpec : ChangeSpec := { name := "utfJoins", fn := fun _ => fun
  | [d1, d2] => { results := [.lit (.bool true)], args := [d1, d2] }
  | _ => none }
def utfJoinsRow : OpenClaim := { program := "ytimfabbielphbaadoor", sum := "37651db11f4fa51b3d325b8ddf7a58184201956a4ff08359b3390e9b0aa4cb21", func := "calamus/calamuslaw03.UtfJoins", spec := "utfJoins", named := ["unicode/utf8.first", "unicode/utf8.acceptRanges"], apart := false, laid := [("unicode/utf8.acceptRanges", laid_unicode_utf8_acceptRanges), ("unicode/utf8.first", laid_unicode_utf8_first)] }
def UtfJoinsSaid : Prop := utfJoinsRow.holds Tryd.pinned (OpenSpec.ofChange utfJoinsSpec)

/-- ITS FALSE NEIGHBOUR: 'it returns false'. Refute it at one input. -/
def utfJoinsWrong : ChangeSpec := { name := "utfJoins", fn := fun _ => fun
  | [d1, d2] => { results := [.lit (.bool false)], args := [d1, d2] }
  | _ => none }
def UtfJoinsWrongFalsely : Prop := utfJoinsRow.holds Tryd.pinned (OpenSpec.ofChange utfJoinsWrong)

/- THE SECOND FORM. 'bulk': how many values and letters a reading holds, each counted each time it is reached (what is shared counts as often as it is met; a slice's spare places count too). A statement '..UptoSaid' is the law's where the arguments, and the package variables that the reading takes, are together of bulk at most 1048576: NARROWER than '..Said'. Prove '..Said' where nothing that the law and all that it calls make is longer than what came in: it says more and counts as full. Else prove '..UptoSaid'. A law counts once. -/
mutual
def uptoBulk {H : Type} : DataW H → Nat
  | .lit (.string bytes) => bytes.length + 1
  | .lit _ => 1
  | .nil => 1
  | .ptr d => uptoBulk d + 1
  | .slice elems spare => uptoBulkAll elems + uptoBulkAll spare + 1
  | .agg parts => uptoBulkAll parts + 1
  | .iface _ d => uptoBulk d + 1
  | .map entries => uptoBulkEntries entries + 1
  | .held _ => 1
def uptoBulkAll {H : Type} : List (DataW H) → Nat
  | [] => 0
  | d :: r => uptoBulk d + uptoBulkAll r
def uptoBulkEntries {H : Type} : List (Lit × DataW H) → Nat
  | [] => 0
  | x :: r => uptoBulkEntry x + uptoBulkEntries r
def uptoBulkEntry {H : Type} : Lit × DataW H → Nat
  | (.string bytes, d) => bytes.length + uptoBulk d + 1
  | (_, d) => uptoBulk d + 1
 end
def uptoSmall : (H : Type) → List (DataW H) → Bool := fun _ ds => decide (uptoBulkAll ds ≤ 1048576)
def OpenSpec.upto (s : _root_.Go.ChangeSpec) : _root_.Go.OpenSpec := { _root_.Go.OpenSpec.ofChange s with cond := some uptoSmall }

/-- 'calamuslaw03.UtfTexts', WHERE WHAT IT READS IS OF BULK AT MOST 1048576: true; the input reads as it did. -/
def utfTextsUptoRow : OpenClaim := { program := "ytimfabbielphbaadoor", sum := "37651db11f4fa51b3d325b8ddf7a58184201956a4ff08359b3390e9b0aa4cb21", func := "calamus/calamuslaw03.UtfTexts", spec := "utfTexts", named := ["unicode/utf8.first", "unicode/utf8.acceptRanges"], apart := false, laid := [("unicode/utf8.acceptRanges", laid_unicode_utf8_acceptRanges), ("unicode/utf8.first", laid_unicode_utf8_first)], narrowed := true }
def UtfTextsUptoSaid : Prop := utfTextsUptoRow.holds Tryd.pinned (OpenSpec.upto utfTextsSpec)

/-- 'calamuslaw03.UtfChars', WHERE WHAT IT READS IS OF BULK AT MOST 1048576: true; the input reads as it did. -/
def utfCharsUptoRow : OpenClaim := { program := "ytimfabbielphbaadoor", sum := "37651db11f4fa51b3d325b8ddf7a58184201956a4ff08359b3390e9b0aa4cb21", func := "calamus/calamuslaw03.UtfChars", spec := "utfChars", named := ["unicode/utf8.first", "unicode/utf8.acceptRanges"], apart := false, laid := [("unicode/utf8.acceptRanges", laid_unicode_utf8_acceptRanges), ("unicode/utf8.first", laid_unicode_utf8_first)], narrowed := true }
def UtfCharsUptoSaid : Prop := utfCharsUptoRow.holds Tryd.pinned (OpenSpec.upto utfCharsSpec)

/-- 'calamuslaw03.UtfFeeds', WHERE WHAT IT READS IS OF BULK AT MOST 1048576: true; the input reads as it did. -/
def utfFeedsUptoRow : OpenClaim := { program := "ytimfabbielphbaadoor", sum := "37651db11f4fa51b3d325b8ddf7a58184201956a4ff08359b3390e9b0aa4cb21", func := "calamus/calamuslaw03.UtfFeeds", spec := "utfFeeds", named := ["unicode/utf8.first", "unicode/utf8.acceptRanges"], apart := false, laid := [("unicode/utf8.acceptRanges", laid_unicode_utf8_acceptRanges), ("unicode/utf8.first", laid_unicode_utf8_first)], narrowed := true }
def UtfFeedsUptoSaid : Prop := utfFeedsUptoRow.holds Tryd.pinned (OpenSpec.upto utfFeedsSpec)

/-- 'calamuslaw03.UtfParts', WHERE WHAT IT READS IS OF BULK AT MOST 1048576: true; the input reads as it did. -/
def utfPartsUptoRow : OpenClaim := { program := "ytimfabbielphbaadoor", sum := "37651db11f4fa51b3d325b8ddf7a58184201956a4ff08359b3390e9b0aa4cb21", func := "calamus/calamuslaw03.UtfParts", spec := "utfParts", named := ["unicode/utf8.first", "unicode/utf8.acceptRanges"], apart := false, laid := [("unicode/utf8.acceptRanges", laid_unicode_utf8_acceptRanges), ("unicode/utf8.first", laid_unicode_utf8_first)], narrowed := true }
def UtfPartsUptoSaid : Prop := utfPartsUptoRow.holds Tryd.pinned (OpenSpec.upto utfPartsSpec)

/-- 'calamuslaw03.UtfRound', WHERE WHAT IT READS IS OF BULK AT MOST 1048576: true; the input reads as it did. -/
def utfRoundUptoRow : OpenClaim := { program := "ytimfabbielphbaadoor", sum := "37651db11f4fa51b3d325b8ddf7a58184201956a4ff08359b3390e9b0aa4cb21", func := "calamus/calamuslaw03.UtfRound", spec := "utfRound", named := ["unicode/utf8.first", "unicode/utf8.acceptRanges"], apart := false, laid := [("unicode/utf8.acceptRanges", laid_unicode_utf8_acceptRanges), ("unicode/utf8.first", laid_unicode_utf8_first)], narrowed := true }
def UtfRoundUptoSaid : Prop := utfRoundUptoRow.holds Tryd.pinned (OpenSpec.upto utfRoundSpec)

/-- 'calamuslaw03.UtfNil', WHERE WHAT IT READS IS OF BULK AT MOST 1048576: true; the input reads as it did. -/
def utfNilUptoRow : OpenClaim := { program := "ytimfabbielphbaadoor", sum := "37651db11f4fa51b3d325b8ddf7a58184201956a4ff08359b3390e9b0aa4cb21", func := "calamus/calamuslaw03.UtfNil", spec := "utfNil", named := ["unicode/utf8.first", "unicode/utf8.acceptRanges"], apart := false, laid := [("unicode/utf8.acceptRanges", laid_unicode_utf8_acceptRanges), ("unicode/utf8.first", laid_unicode_utf8_first)], narrowed := true }
def UtfNilUptoSaid : Prop := utfNilUptoRow.holds Tryd.pinned (OpenSpec.upto utfNilSpec)

/-- 'calamuslaw03.UtfJoins', WHERE WHAT IT READS IS OF BULK AT MOST 1048576: true; the input reads as it did. -/
def utfJoinsUptoRow : OpenClaim := { program := "ytimfabbielphbaadoor", sum := "37651db11f4fa51b3d325b8ddf7a58184201956a4ff08359b3390e9b0aa4cb21", func := "calamus/calamuslaw03.UtfJoins", spec := "utfJoins", named := ["unicode/utf8.first", "unicode/utf8.acceptRanges"], apart := false, laid := [("unicode/utf8.acceptRanges", laid_unicode_utf8_acceptRanges), ("unicode/utf8.first", laid_unicode_utf8_first)], narrowed := true }
def UtfJoinsUptoSaid : Prop := utfJoinsUptoRow.holds Tryd.pinned (OpenSpec.upto utfJoinsSpec)

end Rows
end Go.Proofs.YtimfabbielphbaaDoor
