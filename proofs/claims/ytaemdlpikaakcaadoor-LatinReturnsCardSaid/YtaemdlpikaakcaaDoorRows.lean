/-
  NARROWER THAN 'FOR EVERY INPUT', by the rows' own cells (each row's printed sentence says how): LatinPuts: laid · LatinGets: laid · LatinEncodes: laid · LatinWhole: laid · LatinDecodes: laid · LatinReturns: laid · LatinAgain: laid.
  DERIVED. THE GIVEN ROWS OF THIS SEAT. 7 by the template 'for every input the law returns true; each argument reads behind the call as it read before'; 0 by the template 'total and deterministic' (their statements: YtaemdlpikaakcaaDoorTotals.lean).
  GIVEN WITH THE SEED: the statements are not yours to turn. If you find one false, say at which input.
  Laid BY PROGRAM, IN A SANDBOX (cutbox-rows.mjs): the forced cells as the released guide's own fill.sh prints them over the translation e955fa59b1d6cb3a… (all of the seat's roots in one cut). By AI agents, Wed Nov 11 2026. No macro, syntax, notation, axiom, sorry.
-/
import Derived.Test.YtaemdlpikaakcaaDoorChecked
import GoSem.PinnedTables
import GoSem.Claim
import GoSem.ClaimJoined
import GoSem.ClaimMapViews
import Derived.JoinedTies
import Derived.KernelRfl
namespace Go.Proofs.YtaemdlpikaakcaaDoor
/- THE CELL 'sum', in the pinned program and in every row, IS THE sha256 OF THE DUMP (.gsa) THAT YtaemdlpikaakcaaDoorProg.lean LOADS. Nothing in Lean hashes anything: it is a label: what it is worth is what the hold of that sum in a sandbox is worth. -/
noncomputable def Tryd.pinned : Pinned := { name := "ytaemdlpikaakcaadoor", sum := "e955fa59b1d6cb3af438392e7264f296e2064b437be2e525ed4ad6a724d83475", checked := Tryd.checked }
namespace Rows
def none {H : Type} : Left H := { results := [], args := [] }

/- WHAT THE LISTED PACKAGE-LEVEL VARIABLES READ AS WHEN THE CALL BEGINS. Each datum BY PROGRAM (the guide's laid-datum.mjs) off the statement by which the dump's own 'gosem.cut.vars' lays the variable. In a bare row this is a premise. The card (YtaemdlpikaakcaaDoorCards.lean) ties it to the program's text. -/
def laid_unicode_utf8_acceptRanges {H : Type} : DataW H := .agg [.agg [.lit (.int .u8 128), .lit (.int .u8 191)], .agg [.lit (.int .u8 160), .lit (.int .u8 191)], .agg [.lit (.int .u8 128), .lit (.int .u8 159)], .agg [.lit (.int .u8 144), .lit (.int .u8 191)], .agg [.lit (.int .u8 128), .lit (.int .u8 143)], .agg [.lit (.int .u8 0), .lit (.int .u8 0)], .agg [.lit (.int .u8 0), .lit (.int .u8 0)], .agg [.lit (.int .u8 0), .lit (.int .u8 0)], .agg [.lit (.int .u8 0), .lit (.int .u8 0)], .agg [.lit (.int .u8 0), .lit (.int .u8 0)], .agg [.lit (.int .u8 0), .lit (.int .u8 0)], .agg [.lit (.int .u8 0), .lit (.int .u8 0)], .agg [.lit (.int .u8 0), .lit (.int .u8 0)], .agg [.lit (.int .u8 0), .lit (.int .u8 0)], .agg [.lit (.int .u8 0), .lit (.int .u8 0)], .agg [.lit (.int .u8 0), .lit (.int .u8 0)]]
/-- One of Go's own tables, pinned by name: the form's constant. -/
def laid_unicode_utf8_first : DataW Unit := Go.Pinned.utf8First

/-- 'captionerlaw22.LatinPuts': WHATEVER THE INPUT: true; the input reads as it did. -/
def latinPutsSpec : ChangeSpec := { name := "latinPuts", fn := fun _ => fun
  | [d] => { results := [.lit (.bool true)], args := [d] }
  | _ => none }
def latinPutsRow : OpenClaim := { program := "ytaemdlpikaakcaadoor", sum := "e955fa59b1d6cb3af438392e7264f296e2064b437be2e525ed4ad6a724d83475", func := "captioner/captionerlaw22.LatinPuts", spec := "latinPuts", inPlace := ["internal/bytealg.IndexByteString", "internal/bytealg.IndexString"], named := ["unicode/utf8.first", "unicode/utf8.acceptRanges", "internal/bytealg.MaxLen"], apart := false, laid := [("unicode/utf8.acceptRanges", laid_unicode_utf8_acceptRanges), ("unicode/utf8.first", laid_unicode_utf8_first)] }
def LatinPutsSaid : Prop := latinPutsRow.holds Tryd.pinned (OpenSpec.ofChange latinPutsSpec)

/-- ITS FALSE NEIGHBOUR: 'it returns false'. Refute it at one input. -/
def latinPutsWrong : ChangeSpec := { name := "latinPuts", fn := fun _ => fun
  | [d] => { results := [.lit (.bool false)], args := [d] }
  | _ => none }
def LatinPutsWrongFalsely : Prop := latinPutsRow.holds Tryd.pinned (OpenSpec.ofChange latinPutsWrong)

/-- 'captionerlaw22.LatinGets': WHATEVER THE INPUT: true; the input reads as it did. -/
def latinGetsSpec : ChangeSpec := { name := "latinGets", fn := fun _ => fun
  | [d] => { results := [.lit (.bool true)], args := [d] }
  | _ => none }
def latinGetsRow : OpenClaim := { program := "ytaemdlpikaakcaadoor", sum := "e955fa59b1d6cb3af438392e7264f296e2064b437be2e525ed4ad6a724d83475", func := "captioner/captionerlaw22.LatinGets", spec := "latinGets", inPlace := ["internal/bytealg.IndexByteString", "internal/bytealg.IndexString"], named := ["unicode/utf8.first", "unicode/utf8.acceptRanges", "internal/bytealg.MaxLen"], apart := false, laid := [("unicode/utf8.acceptRanges", laid_unicode_utf8_acceptRanges), ("unicode/utf8.first", laid_unicode_utf8_first)] }
def LatinGetsSaid : Prop := latinGetsRow.holds Tryd.pinned (OpenSpec.ofChange latinGetsSpec)

/-- ITS FALSE NEIGHBOUR: 'it returns false'. Refute it at one input. -/
def latinGetsWrong : ChangeSpec := { name := "latinGets", fn := fun _ => fun
  | [d] => { results := [.lit (.bool false)], args := [d] }
  | _ => none }
def LatinGetsWrongFalsely : Prop := latinGetsRow.holds Tryd.pinned (OpenSpec.ofChange latinGetsWrong)

/-- 'captionerlaw22.LatinEncodes': WHATEVER THE INPUT: true; the input reads as it did. -/
def latinEncodesSpec : ChangeSpec := { name := "latinEncodes", fn := fun _ => fun
  | [d] => { results := [.lit (.bool true)], args := [d] }
  | _ => none }
def latinEncodesRow : OpenClaim := { program := "ytaemdlpikaakcaadoor", sum := "e955fa59b1d6cb3af438392e7264f296e2064b437be2e525ed4ad6a724d83475", func := "captioner/captionerlaw22.LatinEncodes", spec := "latinEncodes", inPlace := ["internal/bytealg.IndexByteString", "internal/bytealg.IndexString"], named := ["unicode/utf8.first", "unicode/utf8.acceptRanges", "internal/bytealg.MaxLen"], apart := false, laid := [("unicode/utf8.acceptRanges", laid_unicode_utf8_acceptRanges), ("unicode/utf8.first", laid_unicode_utf8_first)] }
def LatinEncodesSaid : Prop := latinEncodesRow.holds Tryd.pinned (OpenSpec.ofChange latinEncodesSpec)

/-- ITS FALSE NEIGHBOUR: 'it returns false'. Refute it at one input. -/
def latinEncodesWrong : ChangeSpec := { name := "latinEncodes", fn := fun _ => fun
  | [d] => { results := [.lit (.bool false)], args := [d] }
  | _ => none }
def LatinEncodesWrongFalsely : Prop := latinEncodesRow.holds Tryd.pinned (OpenSpec.ofChange latinEncodesWrong)

/-- 'captionerlaw22.LatinWhole': WHATEVER THE INPUT: true; the input reads as it did. -/
def latinWholeSpec : ChangeSpec := { name := "latinWhole", fn := fun _ => fun
  | [d1, d2] => { results := [.lit (.bool true)], args := [d1, d2] }
  | _ => none }
def latinWholeRow : OpenClaim := { program := "ytaemdlpikaakcaadoor", sum := "e955fa59b1d6cb3af438392e7264f296e2064b437be2e525ed4ad6a724d83475", func := "captioner/captionerlaw22.LatinWhole", spec := "latinWhole", inPlace := ["internal/bytealg.IndexByteString", "internal/bytealg.IndexString"], named := ["unicode/utf8.first", "unicode/utf8.acceptRanges", "internal/bytealg.MaxLen"], apart := false, laid := [("unicode/utf8.acceptRanges", laid_unicode_utf8_acceptRanges), ("unicode/utf8.first", laid_unicode_utf8_first)] }
def LatinWholeSaid : Prop := latinWholeRow.holds Tryd.pinned (OpenSpec.ofChange latinWholeSpec)

/-- ITS FALSE NEIGHBOUR: 'it returns false'. Refute it at one input. -/
def latinWholeWrong : ChangeSpec := { name := "latinWhole", fn := fun _ => fun
  | [d1, d2] => { results := [.lit (.bool false)], args := [d1, d2] }
  | _ => none }
def LatinWholeWrongFalsely : Prop := latinWholeRow.holds Tryd.pinned (OpenSpec.ofChange latinWholeWrong)

/-- 'captionerlaw22.LatinDecodes': WHATEVER THE INPUT: true; the input reads as it did. -/
def latinDecodesSpec : ChangeSpec := { name := "latinDecodes", fn := fun _ => fun
  | [d] => { results := [.lit (.bool true)], args := [d] }
  | _ => none }
def latinDecodesRow : OpenClaim := { program := "ytaemdlpikaakcaadoor", sum := "e955fa59b1d6cb3af438392e7264f296e2064b437be2e525ed4ad6a724d83475", func := "captioner/captionerlaw22.LatinDecodes", spec := "latinDecodes", inPlace := ["internal/bytealg.IndexByteString", "internal/bytealg.IndexString", "internal/abi.NoEscape"], named := ["unicode/utf8.first", "unicode/utf8.acceptRanges", "internal/bytealg.MaxLen"], apart := false, laid := [("unicode/utf8.acceptRanges", laid_unicode_utf8_acceptRanges), ("unicode/utf8.first", laid_unicode_utf8_first)] }
def LatinDecodesSaid : Prop := latinDecodesRow.holds Tryd.pinned (OpenSpec.ofChange latinDecodesSpec)

/-- ITS FALSE NEIGHBOUR: 'it returns false'. Refute it at one input. -/
def latinDecodesWrong : ChangeSpec := { name := "latinDecodes", fn := fun _ => fun
  | [d] => { results := [.lit (.bool false)], args := [d] }
  | _ => none }
def LatinDecodesWrongFalsely : Prop := latinDecodesRow.holds Tryd.pinned (OpenSpec.ofChange latinDecodesWrong)

/-- 'captionerlaw22.LatinReturns': WHATEVER THE INPUT: true; the input reads as it did. -/
def latinReturnsSpec : ChangeSpec := { name := "latinReturns", fn := fun _ => fun
  | [d] => { results := [.lit (.bool true)], args := [d] }
  | _ => none }
def latinReturnsRow : OpenClaim := { program := "ytaemdlpikaakcaadoor", sum := "e955fa59b1d6cb3af438392e7264f296e2064b437be2e525ed4ad6a724d83475", func := "captioner/captionerlaw22.LatinReturns", spec := "latinReturns", inPlace := ["internal/bytealg.IndexByteString", "internal/bytealg.IndexString", "internal/abi.NoEscape"], named := ["unicode/utf8.first", "unicode/utf8.acceptRanges", "internal/bytealg.MaxLen"], apart := false, laid := [("unicode/utf8.acceptRanges", laid_unicode_utf8_acceptRanges), ("unicode/utf8.first", laid_unicode_utf8_first)] }
def LatinReturnsSaid : Prop := latinReturnsRow.holds Tryd.pinned (OpenSpec.ofChange latinReturnsSpec)

/-- ITS FALSE NEIGHBOUR: 'it returns false'. Refute it at one input. -/
def latinReturnsWrong : ChangeSpec := { name := "latinReturns", fn := fun _ => fun
  | [d] => { results := [.lit (.bool false)], args := [d] }
  | _ => none }
def LatinReturnsWrongFalsely : Prop := latinReturnsRow.holds Tryd.pinned (OpenSpec.ofChange latinReturnsWrong)

/-- 'captionerlaw22.LatinAgain': WHATEVER THE INPUT: true; the input reads as it did. -/
def latinAgainSpec : ChangeSpec := { name := "latinAgain", fn := fun _ => fun
  | [d] => { results := [.lit (.bool true)], args := [d] }
  | _ => none }
def latinAgainRow : OpenClaim := { program := "ytaemdlpikaakcaadoor", sum := "e955fa59b1d6cb3af438392e7264f296e2064b437be2e525ed4ad6a724d83475", func := "captioner/captionerlaw22.LatinAgain", spec := "latinAgain", inPlace := ["internal/bytealg.IndexByteString", "internal/bytealg.IndexString", "internal/abi.NoEscape"], named := ["unicode/utf8.first", "unicode/utf8.acceptRanges", "internal/bytealg.MaxLen"], apart := false, laid := [("unicode/utf8.acceptRanges", laid_unicode_utf8_acceptRanges), ("unicode/utf8.first", laid_unicode_utf8_first)] }
def LatinAgainSaid : Prop := latinAgainRow.holds Tryd.pinned (OpenSpec.ofChange latinAgainSpec)

/-- ITS FALSE NEIGHBOUR: 'it returns false'. Refute it at one input. -/
def latinAgainWrong : ChangeSpec := { name := "latinAgain", fn := fun _ => fun
  | [d] => { results := [.lit (.bool false)], args := [d] }
  | _ => none }
def LatinAgainWrongFalsely : Prop := latinAgainRow.holds Tryd.pinned (OpenSpec.ofChange latinAgainWrong)

/- THE SECOND FORM. 'bulk': how many values and letters a reading holds, each counted each time it is reached (what is shared counts as often as it is met; a slice's spare places count too). A statement '..UptoSaid' is the law's where the arguments, and the package variables that the reading takes, are together of bulk at most 1048576: NARROWER than '..Said'. Prove '..Said' where nothing that the law and all that it calls make is longer than what came in: it says more and counts as full. Else prove '..UptoSaid'. A law counts once. -/
mutual
def uptoBulk {H : Type} : DataW H → Nat
  | .lit (.string bytes) => bytes.length + 1
  | .lit _ => 1
  | .nil => 1
  | .ptr d => uptoBulk d + 1
  | .slice elems spare => uptoBulkAll elems + uptoBulkAll spare + 1
  | .agg parts => uptoBulkAll parts + 1
  | .iface _ d => uptoBulk d + 1
  | .map entries => uptoBulkEntries entries + 1
  | .held _ => 1
def uptoBulkAll {H : Type} : List (DataW H) → Nat
  | [] => 0
  | d :: r => uptoBulk d + uptoBulkAll r
def uptoBulkEntries {H : Type} : List (Lit × DataW H) → Nat
  | [] => 0
  | x :: r => uptoBulkEntry x + uptoBulkEntries r
def uptoBulkEntry {H : Type} : Lit × DataW H → Nat
  | (.string bytes, d) => bytes.length + uptoBulk d + 1
  | (_, d) => uptoBulk d + 1
 end
def uptoSmall : (H : Type) → List (DataW H) → Bool := fun _ ds => decide (uptoBulkAll ds ≤ 1048576)
def OpenSpec.upto (s : _root_.Go.ChangeSpec) : _root_.Go.OpenSpec := { _root_.Go.OpenSpec.ofChange s with cond := some uptoSmall }

/-- 'captionerlaw22.LatinPuts', WHERE WHAT IT READS IS OF BULK AT MOST 1048576: true; the input reads as it did. -/
def latinPutsUptoRow : OpenClaim := { program := "ytaemdlpikaakcaadoor", sum := "e955fa59b1d6cb3af438392e7264f296e2064b437be2e525ed4ad6a724d83475", func := "captioner/captionerlaw22.LatinPuts", spec := "latinPuts", inPlace := ["internal/bytealg.IndexByteString", "internal/bytealg.IndexString"], named := ["unicode/utf8.first", "unicode/utf8.acceptRanges", "internal/bytealg.MaxLen"], apart := false, laid := [("unicode/utf8.acceptRanges", laid_unicode_utf8_acceptRanges), ("unicode/utf8.first", laid_unicode_utf8_first)], narrowed := true }
def LatinPutsUptoSaid : Prop := latinPutsUptoRow.holds Tryd.pinned (OpenSpec.upto latinPutsSpec)

/-- 'captionerlaw22.LatinGets', WHERE WHAT IT READS IS OF BULK AT MOST 1048576: true; the input reads as it did. -/
def latinGetsUptoRow : OpenClaim := { program := "ytaemdlpikaakcaadoor", sum := "e955fa59b1d6cb3af438392e7264f296e2064b437be2e525ed4ad6a724d83475", func := "captioner/captionerlaw22.LatinGets", spec := "latinGets", inPlace := ["internal/bytealg.IndexByteString", "internal/bytealg.IndexString"], named := ["unicode/utf8.first", "unicode/utf8.acceptRanges", "internal/bytealg.MaxLen"], apart := false, laid := [("unicode/utf8.acceptRanges", laid_unicode_utf8_acceptRanges), ("unicode/utf8.first", laid_unicode_utf8_first)], narrowed := true }
def LatinGetsUptoSaid : Prop := latinGetsUptoRow.holds Tryd.pinned (OpenSpec.upto latinGetsSpec)

/-- 'captionerlaw22.LatinEncodes', WHERE WHAT IT READS IS OF BULK AT MOST 1048576: true; the input reads as it did. -/
def latinEncodesUptoRow : OpenClaim := { program := "ytaemdlpikaakcaadoor", sum := "e955fa59b1d6cb3af438392e7264f296e2064b437be2e525ed4ad6a724d83475", func := "captioner/captionerlaw22.LatinEncodes", spec := "latinEncodes", inPlace := ["internal/bytealg.IndexByteString", "internal/bytealg.IndexString"], named := ["unicode/utf8.first", "unicode/utf8.acceptRanges", "internal/bytealg.MaxLen"], apart := false, laid := [("unicode/utf8.acceptRanges", laid_unicode_utf8_acceptRanges), ("unicode/utf8.first", laid_unicode_utf8_first)], narrowed := true }
def LatinEncodesUptoSaid : Prop := latinEncodesUptoRow.holds Tryd.pinned (OpenSpec.upto latinEncodesSpec)

/-- 'captionerlaw22.LatinWhole', WHERE WHAT IT READS IS OF BULK AT MOST 1048576: true; the input reads as it did. -/
def latinWholeUptoRow : OpenClaim := { program := "ytaemdlpikaakcaadoor", sum := "e955fa59b1d6cb3af438392e7264f296e2064b437be2e525ed4ad6a724d83475", func := "captioner/captionerlaw22.LatinWhole", spec := "latinWhole", inPlace := ["internal/bytealg.IndexByteString", "internal/bytealg.IndexString"], named := ["unicode/utf8.first", "unicode/utf8.acceptRanges", "internal/bytealg.MaxLen"], apart := false, laid := [("unicode/utf8.acceptRanges", laid_unicode_utf8_acceptRanges), ("unicode/utf8.first", laid_unicode_utf8_first)], narrowed := true }
def LatinWholeUptoSaid : Prop := latinWholeUptoRow.holds Tryd.pinned (OpenSpec.upto latinWholeSpec)

/-- 'captionerlaw22.LatinDecodes', WHERE WHAT IT READS IS OF BULK AT MOST 1048576: true; the input reads as it did. -/
def latinDecodesUptoRow : OpenClaim := { program := "ytaemdlpikaakcaadoor", sum := "e955fa59b1d6cb3af438392e7264f296e2064b437be2e525ed4ad6a724d83475", func := "captioner/captionerlaw22.LatinDecodes", spec := "latinDecodes", inPlace := ["internal/bytealg.IndexByteString", "internal/bytealg.IndexString", "internal/abi.NoEscape"], named := ["unicode/utf8.first", "unicode/utf8.acceptRanges", "internal/bytealg.MaxLen"], apart := false, laid := [("unicode/utf8.acceptRanges", laid_unicode_utf8_acceptRanges), ("unicode/utf8.first", laid_unicode_utf8_first)], narrowed := true }
def LatinDecodesUptoSaid : Prop := latinDecodesUptoRow.holds Tryd.pinned (OpenSpec.upto latinDecodesSpec)

/-- 'captionerlaw22.LatinReturns', WHERE WHAT IT READS IS OF BULK AT MOST 1048576: true; the input reads as it did. -/
def latinReturnsUptoRow : OpenClaim := { program := "ytaemdlpikaakcaadoor", sum := "e955fa59b1d6cb3af438392e7264f296e2064b437be2e525ed4ad6a724d83475", func := "captioner/captionerlaw22.LatinReturns", spec := "latinReturns", inPlace := ["internal/bytealg.IndexByteString", "internal/bytealg.IndexString", "internal/abi.NoEscape"], named := ["unicode/utf8.first", "unicode/utf8.acceptRanges", "internal/bytealg.MaxLen"], apart := false, laid := [("unicode/utf8.acceptRanges", laid_unicode_utf8_acceptRanges), ("unicode/utf8.first", laid_unicode_utf8_first)], narrowed := true }
def LatinReturnsUptoSaid : Prop := latinReturnsUptoRow.holds Tryd.pinned (OpenSpec.upto latinReturnsSpec)

/-- 'captionerlaw22.LatinAgain', WHERE WHAT IT READS IS OF BULK AT MOST 1048576: true; the input reads as it did. -/
def latinAgainUptoRow : OpenClaim := { program := "ytaemdlpikaakcaadoor", sum := "e955fa59b1d6cb3af438392e7264f296e2064b437be2e525ed4ad6a724d83475", func := "captioner/captionerlaw22.LatinAgain", spec := "latinAgain", inPlace := ["internal/bytealg.IndexByteString", "internal/bytealg.IndexString", "internal/abi.NoEscape"], named := ["unicode/utf8.first", "unicode/utf8.acceptRanges", "internal/bytealg.MaxLen"], apart := false, laid := [("unicode/utf8.acceptRanges", laid_unicode_utf8_acceptRanges), ("unicode/utf8.first", laid_unicode_utf8_first)], narrowed := true }
def LatinAgainUptoSaid : Prop := latinAgainUptoRow.holds Tryd.pinned (OpenSpec.upto latinAgainSpec)

end Rows
end Go.Proofs.YtaemdlpikaakcaaDoor
