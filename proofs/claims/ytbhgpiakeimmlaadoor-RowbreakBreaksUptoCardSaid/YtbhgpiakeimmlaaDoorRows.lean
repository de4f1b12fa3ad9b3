/-
  NARROWER THAN 'FOR EVERY INPUT', by the rows' own cells (each row's printed sentence says how): RowbreakCosts: laid · RowbreakBreaks: laid · RowbreakMore: laid · RowbreakWords: laid · RowbreakLeast: laid · RowbreakProves: laid · RowbreakSound: laid.
  DERIVED. THE GIVEN ROWS OF THIS SEAT. 7 by the template 'for every input the law returns true; each argument reads behind the call as it read before'; 0 by the template 'total and deterministic' (their statements: YtbhgpiakeimmlaaDoorTotals.lean).
  GIVEN WITH THE SEED: the statements are not yours to turn. If you find one false, say at which input.
  Laid BY PROGRAM, IN A SANDBOX (cutbox-rows.mjs): the forced cells as the released guide's own fill.sh prints them over the translation 91f7995e1d974468… (all of the seat's roots in one cut). By AI agents, Wed Nov 11 2026. No macro, syntax, notation, axiom, sorry.
-/
import Derived.Test.YtbhgpiakeimmlaaDoorChecked
import GoSem.PinnedTables
import GoSem.Claim
import GoSem.ClaimJoined
import GoSem.ClaimMapViews
import Derived.JoinedTies
import Derived.KernelRfl
namespace Go.Proofs.YtbhgpiakeimmlaaDoor
/- THE CELL 'sum', in the pinned program and in every row, IS THE sha256 OF THE DUMP (.gsa) THAT YtbhgpiakeimmlaaDoorProg.lean LOADS. Nothing in Lean hashes anything: it is a label: what it is worth is what the hold of that sum in a sandbox is worth. -/
noncomputable def Tryd.pinned : Pinned := { name := "ytbhgpiakeimmlaadoor", sum := "91f7995e1d97446842428f0e4d443db319c61c1d5546f3e3e60d14907cf4f798", checked := Tryd.checked }
namespace Rows
def none {H : Type} : Left H := { results := [], args := [] }

/- WHAT THE LISTED PACKAGE-LEVEL VARIABLES READ AS WHEN THE CALL BEGINS. Each datum BY PROGRAM (the guide's laid-datum.mjs) off the statement by which the dump's own 'gosem.cut.vars' lays the variable. In a bare row this is a premise. The card (YtbhgpiakeimmlaaDoorCards.lean) ties it to the program's text. -/
def laid_unicode_utf8_acceptRanges {H : Type} : DataW H := .agg [.agg [.lit (.int .u8 128), .lit (.int .u8 191)], .agg [.lit (.int .u8 160), .lit (.int .u8 191)], .agg [.lit (.int .u8 128), .lit (.int .u8 159)], .agg [.lit (.int .u8 144), .lit (.int .u8 191)], .agg [.lit (.int .u8 128), .lit (.int .u8 143)], .agg [.lit (.int .u8 0), .lit (.int .u8 0)], .agg [.lit (.int .u8 0), .lit (.int .u8 0)], .agg [.lit (.int .u8 0), .lit (.int .u8 0)], .agg [.lit (.int .u8 0), .lit (.int .u8 0)], .agg [.lit (.int .u8 0), .lit (.int .u8 0)], .agg [.lit (.int .u8 0), .lit (.int .u8 0)], .agg [.lit (.int .u8 0), .lit (.int .u8 0)], .agg [.lit (.int .u8 0), .lit (.int .u8 0)], .agg [.lit (.int .u8 0), .lit (.int .u8 0)], .agg [.lit (.int .u8 0), .lit (.int .u8 0)], .agg [.lit (.int .u8 0), .lit (.int .u8 0)]]
/-- One of Go's own tables, pinned by name: the form's constant. -/
def laid_unicode_utf8_first : DataW Unit := Go.Pinned.utf8First

/-- 'captionerlaw36.RowbreakCosts': WHATEVER THE INPUT: true; the input reads as it did. -/
def rowbreakCostsSpec : ChangeSpec := { name := "rowbreakCosts", fn := fun _ => fun
  | [d1, d2] => { results := [.lit (.bool true)], args := [d1, d2] }
  | _ => none }
def rowbreakCostsRow : OpenClaim := { program := "ytbhgpiakeimmlaadoor", sum := "91f7995e1d97446842428f0e4d443db319c61c1d5546f3e3e60d14907cf4f798", func := "captioner/captionerlaw36.RowbreakCosts", spec := "rowbreakCosts", inPlace := ["internal/bytealg.IndexByteString", "internal/bytealg.IndexString", "internal/abi.NoEscape", "internal/bytealg.MakeNoZero"], named := ["internal/bytealg.MaxLen", "unicode/utf8.first", "unicode/utf8.acceptRanges"], apart := false, laid := [("unicode/utf8.acceptRanges", laid_unicode_utf8_acceptRanges), ("unicode/utf8.first", laid_unicode_utf8_first)] }
def RowbreakCostsSaid : Prop := rowbreakCostsRow.holds Tryd.pinned (OpenSpec.ofChange rowbreakCostsSpec)

/-- ITS FALSE NEIGHBOUR: 'it returns false'. Refute it at one input. -/
def rowbreakCostsWrong : ChangeSpec := { name := "rowbreakCosts", fn := fun _ => fun
  | [d1, d2] => { results := [.lit (.bool false)], args := [d1, d2] }
  | _ => none }
def RowbreakCostsWrongFalsely : Prop := rowbreakCostsRow.holds Tryd.pinned (OpenSpec.ofChange rowbreakCostsWrong)

/-- 'captionerlaw36.RowbreakBreaks': WHATEVER THE INPUT: true; the input reads as it did. -/
def rowbreakBreaksSpec : ChangeSpec := { name := "rowbreakBreaks", fn := fun _ => fun
  | [d] => { results := [.lit (.bool true)], args := [d] }
  | _ => none }
def rowbreakBreaksRow : OpenClaim := { program := "ytbhgpiakeimmlaadoor", sum := "91f7995e1d97446842428f0e4d443db319c61c1d5546f3e3e60d14907cf4f798", func := "captioner/captionerlaw36.RowbreakBreaks", spec := "rowbreakBreaks", inPlace := ["internal/bytealg.IndexByteString", "internal/bytealg.IndexString", "internal/abi.NoEscape", "internal/bytealg.MakeNoZero"], named := ["internal/bytealg.MaxLen", "unicode/utf8.first", "unicode/utf8.acceptRanges"], apart := false, laid := [("unicode/utf8.acceptRanges", laid_unicode_utf8_acceptRanges), ("unicode/utf8.first", laid_unicode_utf8_first)] }
def RowbreakBreaksSaid : Prop := rowbreakBreaksRow.holds Tryd.pinned (OpenSpec.ofChange rowbreakBreaksSpec)

/-- ITS FALSE NEIGHBOUR: 'it returns false'. Refute it at one input. -/
def rowbreakBreaksWrong : ChangeSpec := { name := "rowbreakBreaks", fn := fun _ => fun
  | [d] => { results := [.lit (.bool false)], args := [d] }
  | _ => none }
def RowbreakBreaksWrongFalsely : Prop := rowbreakBreaksRow.holds Tryd.pinned (OpenSpec.ofChange rowbreakBreaksWrong)

/-- 'captionerlaw36.RowbreakMore': WHATEVER THE INPUT: true; the input reads as it did. -/
def rowbreakMoreSpec : ChangeSpec := { name := "rowbreakMore", fn := fun _ => fun
  | [d] => { results := [.lit (.bool true)], args := [d] }
  | _ => none }
def rowbreakMoreRow : OpenClaim := { program := "ytbhgpiakeimmlaadoor", sum := "91f7995e1d97446842428f0e4d443db319c61c1d5546f3e3e60d14907cf4f798", func := "captioner/captionerlaw36.RowbreakMore", spec := "rowbreakMore", inPlace := ["internal/bytealg.IndexByteString", "internal/bytealg.IndexString", "internal/abi.NoEscape", "internal/bytealg.MakeNoZero"], named := ["internal/bytealg.MaxLen", "unicode/utf8.first", "unicode/utf8.acceptRanges"], apart := false, laid := [("unicode/utf8.acceptRanges", laid_unicode_utf8_acceptRanges), ("unicode/utf8.first", laid_unicode_utf8_first)] }
def RowbreakMoreSaid : Prop := rowbreakMoreRow.holds Tryd.pinned (OpenSpec.ofChange rowbreakMoreSpec)

/-- ITS FALSE NEIGHBOUR: 'it returns false'. Refute it at one input. -/
def rowbreakMoreWrong : ChangeSpec := { name := "rowbreakMore", fn := fun _ => fun
  | [d] => { results := [.lit (.bool false)], args := [d] }
  | _ => none }
def RowbreakMoreWrongFalsely : Prop := rowbreakMoreRow.holds Tryd.pinned (OpenSpec.ofChange rowbreakMoreWrong)

/-- 'captionerlaw36.RowbreakWords': WHATEVER THE INPUT: true; the input reads as it did. -/
def rowbreakWordsSpec : ChangeSpec := { name := "rowbreakWords", fn := fun _ => fun
  | [d1, d2] => { results := [.lit (.bool true)], args := [d1, d2] }
  | _ => none }
def rowbreakWordsRow : OpenClaim := { program := "ytbhgpiakeimmlaadoor", sum := "91f7995e1d97446842428f0e4d443db319c61c1d5546f3e3e60d14907cf4f798", func := "captioner/captionerlaw36.RowbreakWords", spec := "rowbreakWords", inPlace := ["internal/bytealg.IndexByteString", "internal/bytealg.IndexString", "internal/abi.NoEscape", "internal/bytealg.MakeNoZero"], named := ["internal/bytealg.MaxLen", "unicode/utf8.first", "unicode/utf8.acceptRanges"], apart := false, laid := [("unicode/utf8.acceptRanges", laid_unicode_utf8_acceptRanges), ("unicode/utf8.first", laid_unicode_utf8_first)] }
def RowbreakWordsSaid : Prop := rowbreakWordsRow.holds Tryd.pinned (OpenSpec.ofChange rowbreakWordsSpec)

/-- ITS FALSE NEIGHBOUR: 'it returns false'. Refute it at one input. -/
def rowbreakWordsWrong : ChangeSpec := { name := "rowbreakWords", fn := fun _ => fun
  | [d1, d2] => { results := [.lit (.bool false)], args := [d1, d2] }
  | _ => none }
def RowbreakWordsWrongFalsely : Prop := rowbreakWordsRow.holds Tryd.pinned (OpenSpec.ofChange rowbreakWordsWrong)

/-- 'captionerlaw36.RowbreakLeast': WHATEVER THE INPUT: true; the input reads as it did. -/
def rowbreakLeastSpec : ChangeSpec := { name := "rowbreakLeast", fn := fun _ => fun
  | [d1, d2] => { results := [.lit (.bool true)], args := [d1, d2] }
  | _ => none }
def rowbreakLeastRow : OpenClaim := { program := "ytbhgpiakeimmlaadoor", sum := "91f7995e1d97446842428f0e4d443db319c61c1d5546f3e3e60d14907cf4f798", func := "captioner/captionerlaw36.RowbreakLeast", spec := "rowbreakLeast", inPlace := ["internal/bytealg.IndexByteString", "internal/bytealg.IndexString", "internal/abi.NoEscape", "internal/bytealg.MakeNoZero"], named := ["internal/bytealg.MaxLen", "unicode/utf8.first", "unicode/utf8.acceptRanges"], apart := false, laid := [("unicode/utf8.acceptRanges", laid_unicode_utf8_acceptRanges), ("unicode/utf8.first", laid_unicode_utf8_first)] }
def RowbreakLeastSaid : Prop := rowbreakLeastRow.holds Tryd.pinned (OpenSpec.ofChange rowbreakLeastSpec)

/-- ITS FALSE NEIGHBOUR: 'it returns false'. Refute it at one input. -/
def rowbreakLeastWrong : ChangeSpec := { name := "rowbreakLeast", fn := fun _ => fun
  | [d1, d2] => { results := [.lit (.bool false)], args := [d1, d2] }
  | _ => none }
def RowbreakLeastWrongFalsely : Prop := rowbreakLeastRow.holds Tryd.pinned (OpenSpec.ofChange rowbreakLeastWrong)

/-- 'captionerlaw36.RowbreakProves': WHATEVER THE INPUT: true; the input reads as it did. -/
def rowbreakProvesSpec : ChangeSpec := { name := "rowbreakProves", fn := fun _ => fun
  | [d] => { results := [.lit (.bool true)], args := [d] }
  | _ => none }
def rowbreakProvesRow : OpenClaim := { program := "ytbhgpiakeimmlaadoor", sum := "91f7995e1d97446842428f0e4d443db319c61c1d5546f3e3e60d14907cf4f798", func := "captioner/captionerlaw36.RowbreakProves", spec := "rowbreakProves", inPlace := ["internal/bytealg.IndexByteString", "internal/bytealg.IndexString", "internal/abi.NoEscape", "internal/bytealg.MakeNoZero"], named := ["internal/bytealg.MaxLen", "unicode/utf8.first", "unicode/utf8.acceptRanges"], apart := false, laid := [("unicode/utf8.acceptRanges", laid_unicode_utf8_acceptRanges), ("unicode/utf8.first", laid_unicode_utf8_first)] }
def RowbreakProvesSaid : Prop := rowbreakProvesRow.holds Tryd.pinned (OpenSpec.ofChange rowbreakProvesSpec)

/-- ITS FALSE NEIGHBOUR: 'it returns false'. Refute it at one input. -/
def rowbreakProvesWrong : ChangeSpec := { name := "rowbreakProves", fn := fun _ => fun
  | [d] => { results := [.lit (.bool false)], args := [d] }
  | _ => none }
def RowbreakProvesWrongFalsely : Prop := rowbreakProvesRow.holds Tryd.pinned (OpenSpec.ofChange rowbreakProvesWrong)

/-- 'captionerlaw36.RowbreakSound': WHATEVER THE INPUT: true; the input reads as it did. -/
def rowbreakSoundSpec : ChangeSpec := { name := "rowbreakSound", fn := fun _ => fun
  | [d1, d2, d3] => { results := [.lit (.bool true)], args := [d1, d2, d3] }
  | _ => none }
def rowbreakSoundRow : OpenClaim := { program := "ytbhgpiakeimmlaadoor", sum := "91f7995e1d97446842428f0e4d443db319c61c1d5546f3e3e60d14907cf4f798", func := "captioner/captionerlaw36.RowbreakSound", spec := "rowbreakSound", inPlace := ["internal/bytealg.IndexByteString", "internal/bytealg.IndexString", "internal/abi.NoEscape", "internal/bytealg.MakeNoZero"], named := ["internal/bytealg.MaxLen", "unicode/utf8.first", "unicode/utf8.acceptRanges"], apart := false, laid := [("unicode/utf8.acceptRanges", laid_unicode_utf8_acceptRanges), ("unicode/utf8.first", laid_unicode_utf8_first)] }
def RowbreakSoundSaid : Prop := rowbreakSoundRow.holds Tryd.pinned (OpenSpec.ofChange rowbreakSoundSpec)

/-- ITS FALSE NEIGHBOUR: 'it returns false'. Refute it at one input. -/
def rowbreakSoundWrong : ChangeSpec := { name := "rowbreakSound", fn := fun _ => fun
  | [d1, d2, d3] => { results := [.lit (.bool false)], args := [d1, d2, d3] }
  | _ => none }
def RowbreakSoundWrongFalsely : Prop := rowbreakSoundRow.holds Tryd.pinned (OpenSpec.ofChange rowbreakSoundWrong)

/- THE SECOND FORM. 'bulk': how many values and letters a reading holds, each counted each time it is reached (what is shared counts as often as it is met; a slice's spare places count too). A statement '..UptoSaid' is the law's where the arguments, and the package variables that the reading takes, are together of bulk at most 1048576: NARROWER than '..Said'. Prove '..Said' where nothing that the law and all that it calls make is longer than what came in: it says more and counts as full. Else prove '..UptoSaid'. A law counts once. -/
mutual
def uptoBulk {H : Type} : DataW H → Nat
  | .lit (.string bytes) => bytes.length + 1
  | .lit _ => 1
  | .nil => 1
  | .ptr d => uptoBulk d + 1
  | .slice elems spare => uptoBulkAll elems + uptoBulkAll spare + 1
  | .agg parts => uptoBulkAll parts + 1
  | .iface _ d => uptoBulk d + 1
  | .map entries => uptoBulkEntries entries + 1
  | .held _ => 1
def uptoBulkAll {H : Type} : List (DataW H) → Nat
  | [] => 0
  | d :: r => uptoBulk d + uptoBulkAll r
def uptoBulkEntries {H : Type} : List (Lit × DataW H) → Nat
  | [] => 0
  | x :: r => uptoBulkEntry x + uptoBulkEntries r
def uptoBulkEntry {H : Type} : Lit × DataW H → Nat
  | (.string bytes, d) => bytes.length + uptoBulk d + 1
  | (_, d) => uptoBulk d + 1
 end
def uptoSmall : (H : Type) → List (DataW H) → Bool := fun _ ds => decide (uptoBulkAll ds ≤ 1048576)
def OpenSpec.upto (s : _root_.Go.ChangeSpec) : _root_.Go.OpenSpec := { _root_.Go.OpenSpec.ofChange s with cond := some uptoSmall }

/-- 'captionerlaw36.RowbreakCosts', WHERE WHAT IT READS IS OF BULK AT MOST 1048576: true; the input reads as it did. -/
def rowbreakCostsUptoRow : OpenClaim := { program := "ytbhgpiakeimmlaadoor", sum := "91f7995e1d97446842428f0e4d443db319c61c1d5546f3e3e60d14907cf4f798", func := "captioner/captionerlaw36.RowbreakCosts", spec := "rowbreakCosts", inPlace := ["internal/bytealg.IndexByteString", "internal/bytealg.IndexString", "internal/abi.NoEscape", "internal/bytealg.MakeNoZero"], named := ["internal/bytealg.MaxLen", "unicode/utf8.first", "unicode/utf8.acceptRanges"], apart := false, laid := [("unicode/utf8.acceptRanges", laid_unicode_utf8_acceptRanges), ("unicode/utf8.first", laid_unicode_utf8_first)], narrowed := true }
def RowbreakCostsUptoSaid : Prop := rowbreakCostsUptoRow.holds Tryd.pinned (OpenSpec.upto rowbreakCostsSpec)

/-- 'captionerlaw36.RowbreakBreaks', WHERE WHAT IT READS IS OF BULK AT MOST 1048576: true; the input reads as it did. -/
def rowbreakBreaksUptoRow : OpenClaim := { program := "ytbhgpiakeimmlaadoor", sum := "91f7995e1d97446842428f0e4d443db319c61c1d5546f3e3e60d14907cf4f798", func := "captioner/captionerlaw36.RowbreakBreaks", spec := "rowbreakBreaks", inPlace := ["internal/bytealg.IndexByteString", "internal/bytealg.IndexString", "internal/abi.NoEscape", "internal/bytealg.MakeNoZero"], named := ["internal/bytealg.MaxLen", "unicode/utf8.first", "unicode/utf8.acceptRanges"], apart := false, laid := [("unicode/utf8.acceptRanges", laid_unicode_utf8_acceptRanges), ("unicode/utf8.first", laid_unicode_utf8_first)], narrowed := true }
def RowbreakBreaksUptoSaid : Prop := rowbreakBreaksUptoRow.holds Tryd.pinned (OpenSpec.upto rowbreakBreaksSpec)

/-- 'captionerlaw36.RowbreakMore', WHERE WHAT IT READS IS OF BULK AT MOST 1048576: true; the input reads as it did. -/
def rowbreakMoreUptoRow : OpenClaim := { program := "ytbhgpiakeimmlaadoor", sum := "91f7995e1d97446842428f0e4d443db319c61c1d5546f3e3e60d14907cf4f798", func := "captioner/captionerlaw36.RowbreakMore", spec := "rowbreakMore", inPlace := ["internal/bytealg.IndexByteString", "internal/bytealg.IndexString", "internal/abi.NoEscape", "internal/bytealg.MakeNoZero"], named := ["internal/bytealg.MaxLen", "unicode/utf8.first", "unicode/utf8.acceptRanges"], apart := false, laid := [("unicode/utf8.acceptRanges", laid_unicode_utf8_acceptRanges), ("unicode/utf8.first", laid_unicode_utf8_first)], narrowed := true }
def RowbreakMoreUptoSaid : Prop := rowbreakMoreUptoRow.holds Tryd.pinned (OpenSpec.upto rowbreakMoreSpec)

/-- 'captionerlaw36.RowbreakWords', WHERE WHAT IT READS IS OF BULK AT MOST 1048576: true; the input reads as it did. -/
def rowbreakWordsUptoRow : OpenClaim := { program := "ytbhgpiakeimmlaadoor", sum := "91f7995e1d97446842428f0e4d443db319c61c1d5546f3e3e60d14907cf4f798", func := "captioner/captionerlaw36.RowbreakWords", spec := "rowbreakWords", inPlace := ["internal/bytealg.IndexByteString", "internal/bytealg.IndexString", "internal/abi.NoEscape", "internal/bytealg.MakeNoZero"], named := ["internal/bytealg.MaxLen", "unicode/utf8.first", "unicode/utf8.acceptRanges"], apart := false, laid := [("unicode/utf8.acceptRanges", laid_unicode_utf8_acceptRanges), ("unicode/utf8.first", laid_unicode_utf8_first)], narrowed := true }
def RowbreakWordsUptoSaid : Prop := rowbreakWordsUptoRow.holds Tryd.pinned (OpenSpec.upto rowbreakWordsSpec)

/-- 'captionerlaw36.RowbreakLeast', WHERE WHAT IT READS IS OF BULK AT MOST 1048576: true; the input reads as it did. -/
def rowbreakLeastUptoRow : OpenClaim := { program := "ytbhgpiakeimmlaadoor", sum := "91f7995e1d97446842428f0e4d443db319c61c1d5546f3e3e60d14907cf4f798", func := "captioner/captionerlaw36.RowbreakLeast", spec := "rowbreakLeast", inPlace := ["internal/bytealg.IndexByteString", "internal/bytealg.IndexString", "internal/abi.NoEscape", "internal/bytealg.MakeNoZero"], named := ["internal/bytealg.MaxLen", "unicode/utf8.first", "unicode/utf8.acceptRanges"], apart := false, laid := [("unicode/utf8.acceptRanges", laid_unicode_utf8_acceptRanges), ("unicode/utf8.first", laid_unicode_utf8_first)], narrowed := true }
def RowbreakLeastUptoSaid : Prop := rowbreakLeastUptoRow.holds Tryd.pinned (OpenSpec.upto rowbreakLeastSpec)

/-- 'captionerlaw36.RowbreakProves', WHERE WHAT IT READS IS OF BULK AT MOST 1048576: true; the input reads as it did. -/
def rowbreakProvesUptoRow : OpenClaim := { program := "ytbhgpiakeimmlaadoor", sum := "91f7995e1d97446842428f0e4d443db319c61c1d5546f3e3e60d14907cf4f798", func := "captioner/captionerlaw36.RowbreakProves", spec := "rowbreakProves", inPlace := ["internal/bytealg.IndexByteString", "internal/bytealg.IndexString", "internal/abi.NoEscape", "internal/bytealg.MakeNoZero"], named := ["internal/bytealg.MaxLen", "unicode/utf8.first", "unicode/utf8.acceptRanges"], apart := false, laid := [("unicode/utf8.acceptRanges", laid_unicode_utf8_acceptRanges), ("unicode/utf8.first", laid_unicode_utf8_first)], narrowed := true }
def RowbreakProvesUptoSaid : Prop := rowbreakProvesUptoRow.holds Tryd.pinned (OpenSpec.upto rowbreakProvesSpec)

/-- 'captionerlaw36.RowbreakSound', WHERE WHAT IT READS IS OF BULK AT MOST 1048576: true; the input reads as it did. -/
def rowbreakSoundUptoRow : OpenClaim := { program := "ytbhgpiakeimmlaadoor", sum := "91f7995e1d97446842428f0e4d443db319c61c1d5546f3e3e60d14907cf4f798", func := "captioner/captionerlaw36.RowbreakSound", spec := "rowbreakSound", inPlace := ["internal/bytealg.IndexByteString", "internal/bytealg.IndexString", "internal/abi.NoEscape", "internal/bytealg.MakeNoZero"], named := ["internal/bytealg.MaxLen", "unicode/utf8.first", "unicode/utf8.acceptRanges"], apart := false, laid := [("unicode/utf8.acceptRanges", laid_unicode_utf8_acceptRanges), ("unicode/utf8.first", laid_unicode_utf8_first)], narrowed := true }
def RowbreakSoundUptoSaid : Prop := rowbreakSoundUptoRow.holds Tryd.pinned (OpenSpec.upto rowbreakSoundSpec)

end Rows
end Go.Proofs.YtbhgpiakeimmlaaDoor
