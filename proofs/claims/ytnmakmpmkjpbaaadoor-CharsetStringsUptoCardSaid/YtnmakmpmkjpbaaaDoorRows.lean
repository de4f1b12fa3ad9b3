/-
  NARROWER THAN 'FOR EVERY INPUT', by the rows' own cells (each row's printed sentence says how): CharsetOrders: laid · CharsetStrings: laid · CharsetLists: laid · CharsetParts: laid · CharsetCases: laid · CharsetTables: laid.
  DERIVED. THE GIVEN ROWS OF THIS SEAT. 6 by the template 'for every input the law returns true; each argument reads behind the call as it read before'; 0 by the template 'total and deterministic' (their statements: YtnmakmpmkjpbaaaDoorTotals.lean).
  GIVEN WITH THE SEED: the statements are not yours to turn. If you find one false, say at which input.
  Laid BY PROGRAM, IN A SANDBOX (cutbox-rows.mjs): the forced cells as the released guide's own fill.sh prints them over the translation a1f7b39ad1b3a156… (all of the seat's roots in one cut). By AI agents, Wed Nov 11 2026. No macro, syntax, notation, axiom, sorry.
-/
import Derived.Test.YtnmakmpmkjpbaaaDoorChecked
import GoSem.PinnedTables
import GoSem.Claim
import GoSem.ClaimJoined
import GoSem.ClaimMapViews
import Derived.JoinedTies
import Derived.KernelRfl
namespace Go.Proofs.YtnmakmpmkjpbaaaDoor
/- THE CELL 'sum', in the pinned program and in every row, IS THE sha256 OF THE DUMP (.gsa) THAT YtnmakmpmkjpbaaaDoorProg.lean LOADS. Nothing in Lean hashes anything: it is a label: what it is worth is what the hold of that sum in a sandbox is worth. -/
noncomputable def Tryd.pinned : Pinned := { name := "ytnmakmpmkjpbaaadoor", sum := "a1f7b39ad1b3a15665405a7041e2c745b88674db606f3dca2b87eed48c03e619", checked := Tryd.checked }
namespace Rows
def none {H : Type} : Left H := { results := [], args := [] }

/- WHAT THE LISTED PACKAGE-LEVEL VARIABLES READ AS WHEN THE CALL BEGINS. Each datum BY PROGRAM (the guide's laid-datum.mjs) off the statement by which the dump's own 'gosem.cut.vars' lays the variable. In a bare row this is a premise. The card (YtnmakmpmkjpbaaaDoorCards.lean) ties it to the program's text. -/
def laid_unicode_utf8_acceptRanges {H : Type} : DataW H := .agg [.agg [.lit (.int .u8 128), .lit (.int .u8 191)], .agg [.lit (.int .u8 160), .lit (.int .u8 191)], .agg [.lit (.int .u8 128), .lit (.int .u8 159)], .agg [.lit (.int .u8 144), .lit (.int .u8 191)], .agg [.lit (.int .u8 128), .lit (.int .u8 143)], .agg [.lit (.int .u8 0), .lit (.int .u8 0)], .agg [.lit (.int .u8 0), .lit (.int .u8 0)], .agg [.lit (.int .u8 0), .lit (.int .u8 0)], .agg [.lit (.int .u8 0), .lit (.int .u8 0)], .agg [.lit (.int .u8 0), .lit (.int .u8 0)], .agg [.lit (.int .u8 0), .lit (.int .u8 0)], .agg [.lit (.int .u8 0), .lit (.int .u8 0)], .agg [.lit (.int .u8 0), .lit (.int .u8 0)], .agg [.lit (.int .u8 0), .lit (.int .u8 0)], .agg [.lit (.int .u8 0), .lit (.int .u8 0)], .agg [.lit (.int .u8 0), .lit (.int .u8 0)]]
/-- One of Go's own tables, pinned by name: the form's constant. -/
def laid_unicode_utf8_first : DataW Unit := Go.Pinned.utf8First

/-- 'captionerlaw08.CharsetOrders': WHATEVER THE INPUT: true; the input reads as it did. -/
def charsetOrdersSpec : ChangeSpec := { name := "charsetOrders", fn := fun _ => fun
  | [d] => { results := [.lit (.bool true)], args := [d] }
  | _ => none }
def charsetOrdersRow : OpenClaim := { program := "ytnmakmpmkjpbaaadoor", sum := "a1f7b39ad1b3a15665405a7041e2c745b88674db606f3dca2b87eed48c03e619", func := "captioner/captionerlaw08.CharsetOrders", spec := "charsetOrders", inPlace := ["internal/bytealg.IndexByteString", "internal/bytealg.IndexString"], named := ["unicode/utf8.first", "unicode/utf8.acceptRanges", "internal/bytealg.MaxLen"], apart := false, laid := [("unicode/utf8.acceptRanges", laid_unicode_utf8_acceptRanges), ("unicode/utf8.first", laid_unicode_utf8_first)] }
def CharsetOrdersSaid : Prop := charsetOrdersRow.holds Tryd.pinned (OpenSpec.ofChange charsetOrdersSpec)

/-- ITS FALSE NEIGHBOUR: 'it returns false'. Refute it at one input. -/
def charsetOrdersWrong : ChangeSpec := { name := "charsetOrders", fn := fun _ => fun
  | [d] => { results := [.lit (.bool false)], args := [d] }
  | _ => none }
def CharsetOrdersWrongFalsely : Prop := charsetOrdersRow.holds Tryd.pinned (OpenSpec.ofChange charsetOrdersWrong)

/-- 'captionerlaw08.CharsetStrings': WHATEVER THE INPUT: true; the input reads as it did. -/
def charsetStringsSpec : ChangeSpec := { name := "charsetStrings", fn := fun _ => fun
  | [d1, d2, d3] => { results := [.lit (.bool true)], args := [d1, d2, d3] }
  | _ => none }
def charsetStringsRow : OpenClaim := { program := "ytnmakmpmkjpbaaadoor", sum := "a1f7b39ad1b3a15665405a7041e2c745b88674db606f3dca2b87eed48c03e619", func := "captioner/captionerlaw08.CharsetStrings", spec := "charsetStrings", inPlace := ["internal/bytealg.IndexByteString", "internal/bytealg.IndexString"], named := ["unicode/utf8.first", "unicode/utf8.acceptRanges", "internal/bytealg.MaxLen"], apart := false, laid := [("unicode/utf8.acceptRanges", laid_unicode_utf8_acceptRanges), ("unicode/utf8.first", laid_unicode_utf8_first)] }
def CharsetStringsSaid : Prop := charsetStringsRow.holds Tryd.pinned (OpenSpec.ofChange charsetStringsSpec)

/-- ITS FALSE NEIGHBOUR: 'it returns false'. Refute it at one input. -/
def charsetStringsWrong : ChangeSpec := { name := "charsetStrings", fn := fun _ => fun
  | [d1, d2, d3] => { results := [.lit (.bool false)], args := [d1, d2, d3] }
  | _ => none }
def CharsetStringsWrongFalsely : Prop := charsetStringsRow.holds Tryd.pinned (OpenSpec.ofChange charsetStringsWrong)

/-- 'captionerlaw08.CharsetLists': WHATEVER THE INPUT: true; the input reads as it did. -/
def charsetListsSpec : ChangeSpec := { name := "charsetLists", fn := fun _ => fun
  | [d] => { results := [.lit (.bool true)], args := [d] }
  | _ => none }
def charsetListsRow : OpenClaim := { program := "ytnmakmpmkjpbaaadoor", sum := "a1f7b39ad1b3a15665405a7041e2c745b88674db606f3dca2b87eed48c03e619", func := "captioner/captionerlaw08.CharsetLists", spec := "charsetLists", inPlace := ["internal/bytealg.IndexByteString", "internal/bytealg.IndexString"], named := ["unicode/utf8.first", "unicode/utf8.acceptRanges", "internal/bytealg.MaxLen"], apart := false, laid := [("unicode/utf8.acceptRanges", laid_unicode_utf8_acceptRanges), ("unicode/utf8.first", laid_unicode_utf8_first)] }
def CharsetListsSaid : Prop := charsetListsRow.holds Tryd.pinned (OpenSpec.ofChange charsetListsSpec)

/-- ITS FALSE NEIGHBOUR: 'it returns false'. Refute it at one input. -/
def charsetListsWrong : ChangeSpec := { name := "charsetLists", fn := fun _ => fun
  | [d] => { results := [.lit (.bool false)], args := [d] }
  | _ => none }
def CharsetListsWrongFalsely : Prop := charsetListsRow.holds Tryd.pinned (OpenSpec.ofChange charsetListsWrong)

/-- 'captionerlaw08.CharsetParts': WHATEVER THE INPUT: true; the input reads as it did. -/
def charsetPartsSpec : ChangeSpec := { name := "charsetParts", fn := fun _ => fun
  | [d1, d2] => { results := [.lit (.bool true)], args := [d1, d2] }
  | _ => none }
def charsetPartsRow : OpenClaim := { program := "ytnmakmpmkjpbaaadoor", sum := "a1f7b39ad1b3a15665405a7041e2c745b88674db606f3dca2b87eed48c03e619", func := "captioner/captionerlaw08.CharsetParts", spec := "charsetParts", inPlace := ["internal/bytealg.IndexByteString", "internal/bytealg.IndexString"], named := ["unicode/utf8.first", "unicode/utf8.acceptRanges", "internal/bytealg.MaxLen"], apart := false, laid := [("unicode/utf8.acceptRanges", laid_unicode_utf8_acceptRanges), ("unicode/utf8.first", laid_unicode_utf8_first)] }
def CharsetPartsSaid : Prop := charsetPartsRow.holds Tryd.pinned (OpenSpec.ofChange charsetPartsSpec)

/-- ITS FALSE NEIGHBOUR: 'it returns false'. Refute it at one input. -/
def charsetPartsWrong : ChangeSpec := { name := "charsetParts", fn := fun _ => fun
  | [d1, d2] => { results := [.lit (.bool false)], args := [d1, d2] }
  | _ => none }
def CharsetPartsWrongFalsely : Prop := charsetPartsRow.holds Tryd.pinned (OpenSpec.ofChange charsetPartsWrong)

/-- 'captionerlaw08.CharsetCases': WHATEVER THE INPUT: true; the input reads as it did. -/
def charsetCasesSpec : ChangeSpec := { name := "charsetCases", fn := fun _ => fun
  | [d1, d2] => { results := [.lit (.bool true)], args := [d1, d2] }
  | _ => none }
def charsetCasesRow : OpenClaim := { program := "ytnmakmpmkjpbaaadoor", sum := "a1f7b39ad1b3a15665405a7041e2c745b88674db606f3dca2b87eed48c03e619", func := "captioner/captionerlaw08.CharsetCases", spec := "charsetCases", inPlace := ["internal/bytealg.IndexByteString", "internal/bytealg.IndexString"], named := ["unicode/utf8.first", "unicode/utf8.acceptRanges", "internal/bytealg.MaxLen"], apart := false, laid := [("unicode/utf8.acceptRanges", laid_unicode_utf8_acceptRanges), ("unicode/utf8.first", laid_unicode_utf8_first)] }
def CharsetCasesSaid : Prop := charsetCasesRow.holds Tryd.pinned (OpenSpec.ofChange charsetCasesSpec)

/-- ITS FALSE NEIGHBOUR: 'it returns false'. Refute it at one input. -/
def charsetCasesWrong : ChangeSpec := { name := "charsetCases", fn := fun _ => fun
  | [d1, d2] => { results := [.lit (.bool false)], args := [d1, d2] }
  | _ => none }
def CharsetCasesWrongFalsely : Prop := charsetCasesRow.holds Tryd.pinned (OpenSpec.ofChange charsetCasesWrong)

/-- 'captionerlaw08.CharsetTables': WHATEVER THE INPUT: true; the input reads as it did. -/
def charsetTablesSpec : ChangeSpec := { name := "charsetTables", fn := fun _ => fun
  | [d1, d2] => { results := [.lit (.bool true)], args := [d1, d2] }
  | _ => none }
def charsetTablesRow : OpenClaim := { program := "ytnmakmpmkjpbaaadoor", sum := "a1f7b39ad1b3a15665405a7041e2c745b88674db606f3dca2b87eed48c03e619", func := "captioner/captionerlaw08.CharsetTables", spec := "charsetTables", inPlace := ["internal/bytealg.IndexByteString", "internal/bytealg.IndexString"], named := ["unicode/utf8.first", "unicode/utf8.acceptRanges", "internal/bytealg.MaxLen"], apart := false, laid := [("unicode/utf8.acceptRanges", laid_unicode_utf8_acceptRanges), ("unicode/utf8.first", laid_unicode_utf8_first)] }
def CharsetTablesSaid : Prop := charsetTablesRow.holds Tryd.pinned (OpenSpec.ofChange charsetTablesSpec)

/-- ITS FALSE NEIGHBOUR: 'it returns false'. Refute it at one input. -/
def charsetTablesWrong : ChangeSpec := { name := "charsetTables", fn := fun _ => fun
  | [d1, d2] => { results := [.lit (.bool false)], args := [d1, d2] }
  | _ => none }
def CharsetTablesWrongFalsely : Prop := charsetTablesRow.holds Tryd.pinned (OpenSpec.ofChange charsetTablesWrong)

/- THE SECOND FORM. 'bulk': how many values and letters a reading holds, each counted each time it is reached (what is shared counts as often as it is met; a slice's spare places count too). A statement '..UptoSaid' is the law's where the arguments, and the package variables that the reading takes, are together of bulk at most 1048576: NARROWER than '..Said'. Prove '..Said' where nothing that the law and all that it calls make is longer than what came in: it says more and counts as full. Else prove '..UptoSaid'. A law counts once. -/
mutual
def uptoBulk {H : Type} : DataW H → Nat
  | .lit (.string bytes) => bytes.length + 1
  | .lit _ => 1
  | .nil => 1
  | .ptr d => uptoBulk d + 1
  | .slice elems spare => uptoBulkAll elems + uptoBulkAll spare + 1
  | .agg parts => uptoBulkAll parts + 1
  | .iface _ d => uptoBulk d + 1
  | .map entries => uptoBulkEntries entries + 1
  | .held _ => 1
def uptoBulkAll {H : Type} : List (DataW H) → Nat
  | [] => 0
  | d :: r => uptoBulk d + uptoBulkAll r
def uptoBulkEntries {H : Type} : List (Lit × DataW H) → Nat
  | [] => 0
  | x :: r => uptoBulkEntry x + uptoBulkEntries r
def uptoBulkEntry {H : Type} : Lit × DataW H → Nat
  | (.string bytes, d) => bytes.length + uptoBulk d + 1
  | (_, d) => uptoBulk d + 1
 end
def uptoSmall : (H : Type) → List (DataW H) → Bool := fun _ ds => decide (uptoBulkAll ds ≤ 1048576)
def OpenSpec.upto (s : _root_.Go.ChangeSpec) : _root_.Go.OpenSpec := { _root_.Go.OpenSpec.ofChange s with cond := some uptoSmall }

/-- 'captionerlaw08.CharsetOrders', WHERE WHAT IT READS IS OF BULK AT MOST 1048576: true; the input reads as it did. -/
def charsetOrdersUptoRow : OpenClaim := { program := "ytnmakmpmkjpbaaadoor", sum := "a1f7b39ad1b3a15665405a7041e2c745b88674db606f3dca2b87eed48c03e619", func := "captioner/captionerlaw08.CharsetOrders", spec := "charsetOrders", inPlace := ["internal/bytealg.IndexByteString", "internal/bytealg.IndexString"], named := ["unicode/utf8.first", "unicode/utf8.acceptRanges", "internal/bytealg.MaxLen"], apart := false, laid := [("unicode/utf8.acceptRanges", laid_unicode_utf8_acceptRanges), ("unicode/utf8.first", laid_unicode_utf8_first)], narrowed := true }
def CharsetOrdersUptoSaid : Prop := charsetOrdersUptoRow.holds Tryd.pinned (OpenSpec.upto charsetOrdersSpec)

/-- 'captionerlaw08.CharsetStrings', WHERE WHAT IT READS IS OF BULK AT MOST 1048576: true; the input reads as it did. -/
def charsetStringsUptoRow : OpenClaim := { program := "ytnmakmpmkjpbaaadoor", sum := "a1f7b39ad1b3a15665405a7041e2c745b88674db606f3dca2b87eed48c03e619", func := "captioner/captionerlaw08.CharsetStrings", spec := "charsetStrings", inPlace := ["internal/bytealg.IndexByteString", "internal/bytealg.IndexString"], named := ["unicode/utf8.first", "unicode/utf8.acceptRanges", "internal/bytealg.MaxLen"], apart := false, laid := [("unicode/utf8.acceptRanges", laid_unicode_utf8_acceptRanges), ("unicode/utf8.first", laid_unicode_utf8_first)], narrowed := true }
def CharsetStringsUptoSaid : Prop := charsetStringsUptoRow.holds Tryd.pinned (OpenSpec.upto charsetStringsSpec)

/-- 'captionerlaw08.CharsetLists', WHERE WHAT IT READS IS OF BULK AT MOST 1048576: true; the input reads as it did. -/
def charsetListsUptoRow : OpenClaim := { program := "ytnmakmpmkjpbaaadoor", sum := "a1f7b39ad1b3a15665405a7041e2c745b88674db606f3dca2b87eed48c03e619", func := "captioner/captionerlaw08.CharsetLists", spec := "charsetLists", inPlace := ["internal/bytealg.IndexByteString", "internal/bytealg.IndexString"], named := ["unicode/utf8.first", "unicode/utf8.acceptRanges", "internal/bytealg.MaxLen"], apart := false, laid := [("unicode/utf8.acceptRanges", laid_unicode_utf8_acceptRanges), ("unicode/utf8.first", laid_unicode_utf8_first)], narrowed := true }
def CharsetListsUptoSaid : Prop := charsetListsUptoRow.holds Tryd.pinned (OpenSpec.upto charsetListsSpec)

/-- 'captionerlaw08.CharsetParts', WHERE WHAT IT READS IS OF BULK AT MOST 1048576: true; the input reads as it did. -/
def charsetPartsUptoRow : OpenClaim := { program := "ytnmakmpmkjpbaaadoor", sum := "a1f7b39ad1b3a15665405a7041e2c745b88674db606f3dca2b87eed48c03e619", func := "captioner/captionerlaw08.CharsetParts", spec := "charsetParts", inPlace := ["internal/bytealg.IndexByteString", "internal/bytealg.IndexString"], named := ["unicode/utf8.first", "unicode/utf8.acceptRanges", "internal/bytealg.MaxLen"], apart := false, laid := [("unicode/utf8.acceptRanges", laid_unicode_utf8_acceptRanges), ("unicode/utf8.first", laid_unicode_utf8_first)], narrowed := true }
def CharsetPartsUptoSaid : Prop := charsetPartsUptoRow.holds Tryd.pinned (OpenSpec.upto charsetPartsSpec)

/-- 'captionerlaw08.CharsetCases', WHERE WHAT IT READS IS OF BULK AT MOST 1048576: true; the input reads as it did. -/
def charsetCasesUptoRow : OpenClaim := { program := "ytnmakmpmkjpbaaadoor", sum := "a1f7b39ad1b3a15665405a7041e2c745b88674db606f3dca2b87eed48c03e619", func := "captioner/captionerlaw08.CharsetCases", spec := "charsetCases", inPlace := ["internal/bytealg.IndexByteString", "internal/bytealg.IndexString"], named := ["unicode/utf8.first", "unicode/utf8.acceptRanges", "internal/bytealg.MaxLen"], apart := false, laid := [("unicode/utf8.acceptRanges", laid_unicode_utf8_acceptRanges), ("unicode/utf8.first", laid_unicode_utf8_first)], narrowed := true }
def CharsetCasesUptoSaid : Prop := charsetCasesUptoRow.holds Tryd.pinned (OpenSpec.upto charsetCasesSpec)

/-- 'captionerlaw08.CharsetTables', WHERE WHAT IT READS IS OF BULK AT MOST 1048576: true; the input reads as it did. -/
def charsetTablesUptoRow : OpenClaim := { program := "ytnmakmpmkjpbaaadoor", sum := "a1f7b39ad1b3a15665405a7041e2c745b88674db606f3dca2b87eed48c03e619", func := "captioner/captionerlaw08.CharsetTables", spec := "charsetTables", inPlace := ["internal/bytealg.IndexByteString", "internal/bytealg.IndexString"], named := ["unicode/utf8.first", "unicode/utf8.acceptRanges", "internal/bytealg.MaxLen"], apart := false, laid := [("unicode/utf8.acceptRanges", laid_unicode_utf8_acceptRanges), ("unicode/utf8.first", laid_unicode_utf8_first)], narrowed := true }
def CharsetTablesUptoSaid : Prop := charsetTablesUptoRow.holds Tryd.pinned (OpenSpec.upto charsetTablesSpec)

end Rows
end Go.Proofs.YtnmakmpmkjpbaaaDoor
