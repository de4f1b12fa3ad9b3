/-
  NARROWER THAN 'FOR EVERY INPUT', by the rows' own cells (each row's printed sentence says how): StyleParts: laid · StyleCuts: laid · StyleMarks: laid · StyleParses: laid · StyleTexts: laid · StyleKeeps: laid · StyleChecks: laid.
  DERIVED. THE GIVEN ROWS OF THIS SEAT. 7 by the template 'for every input the law returns true; each argument reads behind the call as it read before'; 0 by the template 'total and deterministic' (their statements: YtgbibkkcnkaelaaDoorTotals.lean).
  GIVEN WITH THE SEED: the statements are not yours to turn. If you find one false, say at which input.
  Laid BY PROGRAM, IN A SANDBOX (cutbox-rows.mjs): the forced cells as the released guide's own fill.sh prints them over the translation e8eac59e6707aed2… (all of the seat's roots in one cut). By AI agents, Wed Nov 11 2026. No macro, syntax, notation, axiom, sorry.
-/
import Derived.Test.YtgbibkkcnkaelaaDoorChecked
import GoSem.PinnedTables
import GoSem.Claim
import GoSem.ClaimJoined
import GoSem.ClaimMapViews
import Derived.JoinedTies
import Derived.KernelRfl
namespace Go.Proofs.YtgbibkkcnkaelaaDoor
/- THE CELL 'sum', in the pinned program and in every row, IS THE sha256 OF THE DUMP (.gsa) THAT YtgbibkkcnkaelaaDoorProg.lean LOADS. Nothing in Lean hashes anything: it is a label: what it is worth is what the hold of that sum in a sandbox is worth. -/
noncomputable def Tryd.pinned : Pinned := { name := "ytgbibkkcnkaelaadoor", sum := "e8eac59e6707aed2fdc2fca76ba8ee37202d0f81c41f0355666d1ab355dd5a33", checked := Tryd.checked }
namespace Rows
def none {H : Type} : Left H := { results := [], args := [] }

/- WHAT THE LISTED PACKAGE-LEVEL VARIABLES READ AS WHEN THE CALL BEGINS. Each datum BY PROGRAM (the guide's laid-datum.mjs) off the statement by which the dump's own 'gosem.cut.vars' lays the variable. In a bare row this is a premise. The card (YtgbibkkcnkaelaaDoorCards.lean) ties it to the program's text. -/
def laid_unicode_utf8_acceptRanges {H : Type} : DataW H := .agg [.agg [.lit (.int .u8 128), .lit (.int .u8 191)], .agg [.lit (.int .u8 160), .lit (.int .u8 191)], .agg [.lit (.int .u8 128), .lit (.int .u8 159)], .agg [.lit (.int .u8 144), .lit (.int .u8 191)], .agg [.lit (.int .u8 128), .lit (.int .u8 143)], .agg [.lit (.int .u8 0), .lit (.int .u8 0)], .agg [.lit (.int .u8 0), .lit (.int .u8 0)], .agg [.lit (.int .u8 0), .lit (.int .u8 0)], .agg [.lit (.int .u8 0), .lit (.int .u8 0)], .agg [.lit (.int .u8 0), .lit (.int .u8 0)], .agg [.lit (.int .u8 0), .lit (.int .u8 0)], .agg [.lit (.int .u8 0), .lit (.int .u8 0)], .agg [.lit (.int .u8 0), .lit (.int .u8 0)], .agg [.lit (.int .u8 0), .lit (.int .u8 0)], .agg [.lit (.int .u8 0), .lit (.int .u8 0)], .agg [.lit (.int .u8 0), .lit (.int .u8 0)]]
/-- One of Go's own tables, pinned by name: the form's constant. -/
def laid_unicode_utf8_first : DataW Unit := Go.Pinned.utf8First

/-- 'captionerlaw09.StyleParts': WHATEVER THE INPUT: true; the input reads as it did. -/
def stylePartsSpec : ChangeSpec := { name := "styleParts", fn := fun _ => fun
  | [d1, d2, d3] => { results := [.lit (.bool true)], args := [d1, d2, d3] }
  | _ => none }
def stylePartsRow : OpenClaim := { program := "ytgbibkkcnkaelaadoor", sum := "e8eac59e6707aed2fdc2fca76ba8ee37202d0f81c41f0355666d1ab355dd5a33", func := "captioner/captionerlaw09.StyleParts", spec := "styleParts", inPlace := ["internal/abi.NoEscape", "internal/bytealg.IndexByteString"], named := ["unicode/utf8.first", "unicode/utf8.acceptRanges"], apart := false, laid := [("unicode/utf8.acceptRanges", laid_unicode_utf8_acceptRanges), ("unicode/utf8.first", laid_unicode_utf8_first)] }
def StylePartsSaid : Prop := stylePartsRow.holds Tryd.pinned (OpenSpec.ofChange stylePartsSpec)

/-- ITS FALSE NEIGHBOUR: 'it returns false'. Refute it at one input. -/
def stylePartsWrong : ChangeSpec := { name := "styleParts", fn := fun _ => fun
  | [d1, d2, d3] => { results := [.lit (.bool false)], args := [d1, d2, d3] }
  | _ => none }
def StylePartsWrongFalsely : Prop := stylePartsRow.holds Tryd.pinned (OpenSpec.ofChange stylePartsWrong)

/-- 'captionerlaw09.StyleCuts': WHATEVER THE INPUT: true; the input reads as it did. -/
def styleCutsSpec : ChangeSpec := { name := "styleCuts", fn := fun _ => fun
  | [d1, d2] => { results := [.lit (.bool true)], args := [d1, d2] }
  | _ => none }
def styleCutsRow : OpenClaim := { program := "ytgbibkkcnkaelaadoor", sum := "e8eac59e6707aed2fdc2fca76ba8ee37202d0f81c41f0355666d1ab355dd5a33", func := "captioner/captionerlaw09.StyleCuts", spec := "styleCuts", inPlace := ["internal/abi.NoEscape", "internal/bytealg.IndexByteString"], named := ["unicode/utf8.first", "unicode/utf8.acceptRanges"], apart := false, laid := [("unicode/utf8.acceptRanges", laid_unicode_utf8_acceptRanges), ("unicode/utf8.first", laid_unicode_utf8_first)] }
def StyleCutsSaid : Prop := styleCutsRow.holds Tryd.pinned (OpenSpec.ofChange styleCutsSpec)

/-- ITS FALSE NEIGHBOUR: 'it returns false'. Refute it at one input. -/
def styleCutsWrong : ChangeSpec := { name := "styleCuts", fn := fun _ => fun
  | [d1, d2] => { results := [.lit (.bool false)], args := [d1, d2] }
  | _ => none }
def StyleCutsWrongFalsely : Prop := styleCutsRow.holds Tryd.pinned (OpenSpec.ofChange styleCutsWrong)

/-- 'captionerlaw09.StyleMarks': WHATEVER THE INPUT: true; the input reads as it did. -/
def styleMarksSpec : ChangeSpec := { name := "styleMarks", fn := fun _ => fun
  | [d1, d2, d3] => { results := [.lit (.bool true)], args := [d1, d2, d3] }
  | _ => none }
def styleMarksRow : OpenClaim := { program := "ytgbibkkcnkaelaadoor", sum := "e8eac59e6707aed2fdc2fca76ba8ee37202d0f81c41f0355666d1ab355dd5a33", func := "captioner/captionerlaw09.StyleMarks", spec := "styleMarks", inPlace := ["internal/abi.NoEscape", "internal/bytealg.IndexByteString"], named := ["unicode/utf8.first", "unicode/utf8.acceptRanges"], apart := false, laid := [("unicode/utf8.acceptRanges", laid_unicode_utf8_acceptRanges), ("unicode/utf8.first", laid_unicode_utf8_first)] }
def StyleMarksSaid : Prop := styleMarksRow.holds Tryd.pinned (OpenSpec.ofChange styleMarksSpec)

/-- ITS FALSE NEIGHBOUR: 'it returns false'. Refute it at one input. -/
def styleMarksWrong : ChangeSpec := { name := "styleMarks", fn := fun _ => fun
  | [d1, d2, d3] => { results := [.lit (.bool false)], args := [d1, d2, d3] }
  | _ => none }
def StyleMarksWrongFalsely : Prop := styleMarksRow.holds Tryd.pinned (OpenSpec.ofChange styleMarksWrong)

/-- 'captionerlaw09.StyleParses': WHATEVER THE INPUT: true; the input reads as it did. -/
def styleParsesSpec : ChangeSpec := { name := "styleParses", fn := fun _ => fun
  | [d] => { results := [.lit (.bool true)], args := [d] }
  | _ => none }
def styleParsesRow : OpenClaim := { program := "ytgbibkkcnkaelaadoor", sum := "e8eac59e6707aed2fdc2fca76ba8ee37202d0f81c41f0355666d1ab355dd5a33", func := "captioner/captionerlaw09.StyleParses", spec := "styleParses", inPlace := ["internal/abi.NoEscape", "internal/bytealg.IndexByteString"], named := ["unicode/utf8.first", "unicode/utf8.acceptRanges"], apart := false, laid := [("unicode/utf8.acceptRanges", laid_unicode_utf8_acceptRanges), ("unicode/utf8.first", laid_unicode_utf8_first)] }
def StyleParsesSaid : Prop := styleParsesRow.holds Tryd.pinned (OpenSpec.ofChange styleParsesSpec)

/-- ITS FALSE NEIGHBOUR: 'it returns false'. Refute it at one input. -/
def styleParsesWrong : ChangeSpec := { name := "styleParses", fn := fun _ => fun
  | [d] => { results := [.lit (.bool false)], args := [d] }
  | _ => none }
def StyleParsesWrongFalsely : Prop := styleParsesRow.holds Tryd.pinned (OpenSpec.ofChange styleParsesWrong)

/-- 'captionerlaw09.StyleTexts': WHATEVER THE INPUT: true; the input reads as it did. -/
def styleTextsSpec : ChangeSpec := { name := "styleTexts", fn := fun _ => fun
  | [d] => { results := [.lit (.bool true)], args := [d] }
  | _ => none }
def styleTextsRow : OpenClaim := { program := "ytgbibkkcnkaelaadoor", sum := "e8eac59e6707aed2fdc2fca76ba8ee37202d0f81c41f0355666d1ab355dd5a33", func := "captioner/captionerlaw09.StyleTexts", spec := "styleTexts", inPlace := ["internal/abi.NoEscape", "internal/bytealg.IndexByteString"], named := ["unicode/utf8.first", "unicode/utf8.acceptRanges"], apart := false, laid := [("unicode/utf8.acceptRanges", laid_unicode_utf8_acceptRanges), ("unicode/utf8.first", laid_unicode_utf8_first)] }
def StyleTextsSaid : Prop := styleTextsRow.holds Tryd.pinned (OpenSpec.ofChange styleTextsSpec)

/-- ITS FALSE NEIGHBOUR: 'it returns false'. Refute it at one input. -/
def styleTextsWrong : ChangeSpec := { name := "styleTexts", fn := fun _ => fun
  | [d] => { results := [.lit (.bool false)], args := [d] }
  | _ => none }
def StyleTextsWrongFalsely : Prop := styleTextsRow.holds Tryd.pinned (OpenSpec.ofChange styleTextsWrong)

/-- 'captionerlaw09.StyleKeeps': WHATEVER THE INPUT: true; the input reads as it did. -/
def styleKeepsSpec : ChangeSpec := { name := "styleKeeps", fn := fun _ => fun
  | [d] => { results := [.lit (.bool true)], args := [d] }
  | _ => none }
def styleKeepsRow : OpenClaim := { program := "ytgbibkkcnkaelaadoor", sum := "e8eac59e6707aed2fdc2fca76ba8ee37202d0f81c41f0355666d1ab355dd5a33", func := "captioner/captionerlaw09.StyleKeeps", spec := "styleKeeps", inPlace := ["internal/abi.NoEscape", "internal/bytealg.IndexByteString"], named := ["unicode/utf8.first", "unicode/utf8.acceptRanges"], apart := false, laid := [("unicode/utf8.acceptRanges", laid_unicode_utf8_acceptRanges), ("unicode/utf8.first", laid_unicode_utf8_first)] }
def StyleKeepsSaid : Prop := styleKeepsRow.holds Tryd.pinned (OpenSpec.ofChange styleKeepsSpec)

/-- ITS FALSE NEIGHBOUR: 'it returns false'. Refute it at one input. -/
def styleKeepsWrong : ChangeSpec := { name := "styleKeeps", fn := fun _ => fun
  | [d] => { results := [.lit (.bool false)], args := [d] }
  | _ => none }
def StyleKeepsWrongFalsely : Prop := styleKeepsRow.holds Tryd.pinned (OpenSpec.ofChange styleKeepsWrong)

/-- 'captionerlaw09.StyleChecks': WHATEVER THE INPUT: true; the input reads as it did. -/
def styleChecksSpec : ChangeSpec := { name := "styleChecks", fn := fun _ => fun
  | [d1, d2] => { results := [.lit (.bool true)], args := [d1, d2] }
  | _ => none }
def styleChecksRow : OpenClaim := { program := "ytgbibkkcnkaelaadoor", sum := "e8eac59e6707aed2fdc2fca76ba8ee37202d0f81c41f0355666d1ab355dd5a33", func := "captioner/captionerlaw09.StyleChecks", spec := "styleChecks", inPlace := ["internal/abi.NoEscape", "internal/bytealg.IndexByteString"], unfollowed := true, recurses := true, named := ["unicode/utf8.first", "unicode/utf8.acceptRanges"], apart := false, laid := [("unicode/utf8.acceptRanges", laid_unicode_utf8_acceptRanges), ("unicode/utf8.first", laid_unicode_utf8_first)] }
def StyleChecksSaid : Prop := styleChecksRow.holds Tryd.pinned (OpenSpec.ofChange styleChecksSpec)

/-- ITS FALSE NEIGHBOUR: 'it returns false'. Refute it at one input. -/
def styleChecksWrong : ChangeSpec := { name := "styleChecks", fn := fun _ => fun
  | [d1, d2] => { results := [.lit (.bool false)], args := [d1, d2] }
  | _ => none }
def StyleChecksWrongFalsely : Prop := styleChecksRow.holds Tryd.pinned (OpenSpec.ofChange styleChecksWrong)

/- THE SECOND FORM. 'bulk': how many values and letters a reading holds, each counted each time it is reached (what is shared counts as often as it is met; a slice's spare places count too). A statement '..UptoSaid' is the law's where the arguments, and the package variables that the reading takes, are together of bulk at most 1048576: NARROWER than '..Said'. Prove '..Said' where nothing that the law and all that it calls make is longer than what came in: it says more and counts as full. Else prove '..UptoSaid'. A law counts once. -/
mutual
def uptoBulk {H : Type} : DataW H → Nat
  | .lit (.string bytes) => bytes.length + 1
  | .lit _ => 1
  | .nil => 1
  | .ptr d => uptoBulk d + 1
  | .slice elems spare => uptoBulkAll elems + uptoBulkAll spare + 1
  | .agg parts => uptoBulkAll parts + 1
  | .iface _ d => uptoBulk d + 1
  | .map entries => uptoBulkEntries entries + 1
  | .held _ => 1
def uptoBulkAll {H : Type} : List (DataW H) → Nat
  | [] => 0
  | d :: r => uptoBulk d + uptoBulkAll r
def uptoBulkEntries {H : Type} : List (Lit × DataW H) → Nat
  | [] => 0
  | x :: r => uptoBulkEntry x + uptoBulkEntries r
def uptoBulkEntry {H : Type} : Lit × DataW H → Nat
  | (.string bytes, d) => bytes.length + uptoBulk d + 1
  | (_, d) => uptoBulk d + 1
 end
def uptoSmall : (H : Type) → List (DataW H) → Bool := fun _ ds => decide (uptoBulkAll ds ≤ 1048576)
def OpenSpec.upto (s : _root_.Go.ChangeSpec) : _root_.Go.OpenSpec := { _root_.Go.OpenSpec.ofChange s with cond := some uptoSmall }

/-- 'captionerlaw09.StyleParts', WHERE WHAT IT READS IS OF BULK AT MOST 1048576: true; the input reads as it did. -/
def stylePartsUptoRow : OpenClaim := { program := "ytgbibkkcnkaelaadoor", sum := "e8eac59e6707aed2fdc2fca76ba8ee37202d0f81c41f0355666d1ab355dd5a33", func := "captioner/captionerlaw09.StyleParts", spec := "styleParts", inPlace := ["internal/abi.NoEscape", "internal/bytealg.IndexByteString"], named := ["unicode/utf8.first", "unicode/utf8.acceptRanges"], apart := false, laid := [("unicode/utf8.acceptRanges", laid_unicode_utf8_acceptRanges), ("unicode/utf8.first", laid_unicode_utf8_first)], narrowed := true }
def StylePartsUptoSaid : Prop := stylePartsUptoRow.holds Tryd.pinned (OpenSpec.upto stylePartsSpec)

/-- 'captionerlaw09.StyleCuts', WHERE WHAT IT READS IS OF BULK AT MOST 1048576: true; the input reads as it did. -/
def styleCutsUptoRow : OpenClaim := { program := "ytgbibkkcnkaelaadoor", sum := "e8eac59e6707aed2fdc2fca76ba8ee37202d0f81c41f0355666d1ab355dd5a33", func := "captioner/captionerlaw09.StyleCuts", spec := "styleCuts", inPlace := ["internal/abi.NoEscape", "internal/bytealg.IndexByteString"], named := ["unicode/utf8.first", "unicode/utf8.acceptRanges"], apart := false, laid := [("unicode/utf8.acceptRanges", laid_unicode_utf8_acceptRanges), ("unicode/utf8.first", laid_unicode_utf8_first)], narrowed := true }
def StyleCutsUptoSaid : Prop := styleCutsUptoRow.holds Tryd.pinned (OpenSpec.upto styleCutsSpec)

/-- 'captionerlaw09.StyleMarks', WHERE WHAT IT READS IS OF BULK AT MOST 1048576: true; the input reads as it did. -/
def styleMarksUptoRow : OpenClaim := { program := "ytgbibkkcnkaelaadoor", sum := "e8eac59e6707aed2fdc2fca76ba8ee37202d0f81c41f0355666d1ab355dd5a33", func := "captioner/captionerlaw09.StyleMarks", spec := "styleMarks", inPlace := ["internal/abi.NoEscape", "internal/bytealg.IndexByteString"], named := ["unicode/utf8.first", "unicode/utf8.acceptRanges"], apart := false, laid := [("unicode/utf8.acceptRanges", laid_unicode_utf8_acceptRanges), ("unicode/utf8.first", laid_unicode_utf8_first)], narrowed := true }
def StyleMarksUptoSaid : Prop := styleMarksUptoRow.holds Tryd.pinned (OpenSpec.upto styleMarksSpec)

/-- 'captionerlaw09.StyleParses', WHERE WHAT IT READS IS OF BULK AT MOST 1048576: true; the input reads as it did. -/
def styleParsesUptoRow : OpenClaim := { program := "ytgbibkkcnkaelaadoor", sum := "e8eac59e6707aed2fdc2fca76ba8ee37202d0f81c41f0355666d1ab355dd5a33", func := "captioner/captionerlaw09.StyleParses", spec := "styleParses", inPlace := ["internal/abi.NoEscape", "internal/bytealg.IndexByteString"], named := ["unicode/utf8.first", "unicode/utf8.acceptRanges"], apart := false, laid := [("unicode/utf8.acceptRanges", laid_unicode_utf8_acceptRanges), ("unicode/utf8.first", laid_unicode_utf8_first)], narrowed := true }
def StyleParsesUptoSaid : Prop := styleParsesUptoRow.holds Tryd.pinned (OpenSpec.upto styleParsesSpec)

/-- 'captionerlaw09.StyleTexts', WHERE WHAT IT READS IS OF BULK AT MOST 1048576: true; the input reads as it did. -/
def styleTextsUptoRow : OpenClaim := { program := "ytgbibkkcnkaelaadoor", sum := "e8eac59e6707aed2fdc2fca76ba8ee37202d0f81c41f0355666d1ab355dd5a33", func := "captioner/captionerlaw09.StyleTexts", spec := "styleTexts", inPlace := ["internal/abi.NoEscape", "internal/bytealg.IndexByteString"], named := ["unicode/utf8.first", "unicode/utf8.acceptRanges"], apart := false, laid := [("unicode/utf8.acceptRanges", laid_unicode_utf8_acceptRanges), ("unicode/utf8.first", laid_unicode_utf8_first)], narrowed := true }
def StyleTextsUptoSaid : Prop := styleTextsUptoRow.holds Tryd.pinned (OpenSpec.upto styleTextsSpec)

/-- 'captionerlaw09.StyleKeeps', WHERE WHAT IT READS IS OF BULK AT MOST 1048576: true; the input reads as it did. -/
def styleKeepsUptoRow : OpenClaim := { program := "ytgbibkkcnkaelaadoor", sum := "e8eac59e6707aed2fdc2fca76ba8ee37202d0f81c41f0355666d1ab355dd5a33", func := "captioner/captionerlaw09.StyleKeeps", spec := "styleKeeps", inPlace := ["internal/abi.NoEscape", "internal/bytealg.IndexByteString"], named := ["unicode/utf8.first", "unicode/utf8.acceptRanges"], apart := false, laid := [("unicode/utf8.acceptRanges", laid_unicode_utf8_acceptRanges), ("unicode/utf8.first", laid_unicode_utf8_first)], narrowed := true }
def StyleKeepsUptoSaid : Prop := styleKeepsUptoRow.holds Tryd.pinned (OpenSpec.upto styleKeepsSpec)

/-- 'captionerlaw09.StyleChecks', WHERE WHAT IT READS IS OF BULK AT MOST 1048576: true; the input reads as it did. -/
def styleChecksUptoRow : OpenClaim := { program := "ytgbibkkcnkaelaadoor", sum := "e8eac59e6707aed2fdc2fca76ba8ee37202d0f81c41f0355666d1ab355dd5a33", func := "captioner/captionerlaw09.StyleChecks", spec := "styleChecks", inPlace := ["internal/abi.NoEscape", "internal/bytealg.IndexByteString"], unfollowed := true, recurses := true, named := ["unicode/utf8.first", "unicode/utf8.acceptRanges"], apart := false, laid := [("unicode/utf8.acceptRanges", laid_unicode_utf8_acceptRanges), ("unicode/utf8.first", laid_unicode_utf8_first)], narrowed := true }
def StyleChecksUptoSaid : Prop := styleChecksUptoRow.holds Tryd.pinned (OpenSpec.upto styleChecksSpec)

end Rows
end Go.Proofs.YtgbibkkcnkaelaaDoor
