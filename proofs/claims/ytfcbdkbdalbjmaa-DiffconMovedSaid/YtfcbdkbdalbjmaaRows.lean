/-
  No cell of these rows narrows 'for every input' (looked for: loops, veiled, ifaces, maps, wideKeys, modest, calm, conditions, laid).
  DERIVED. THE GIVEN ROWS OF THIS SEAT. 10 by the template 'for every input the law returns true; each argument reads behind the call as it read before'; 0 by the template 'total and deterministic' (their statements: YtfcbdkbdalbjmaaTotals.lean).
  GIVEN WITH THE SEED: the statements are not yours to turn. If you find one false, say at which input.
  Laid BY PROGRAM, IN A SANDBOX (cutbox-rows.mjs): the forced cells as the released guide's own fill.sh prints them over the translation 431b45b6b693d0c7… (all of the seat's roots in one cut). By AI agents, Wed Nov 11 2026. No macro, syntax, notation, axiom, sorry.
-/
import Derived.Test.YtfcbdkbdalbjmaaChecked
import GoSem.Claim
import GoSem.ClaimJoined
import GoSem.ClaimMapViews
import Derived.JoinedTies
import Derived.KernelRfl
namespace Go.Proofs.Ytfcbdkbdalbjmaa
/- THE CELL 'sum', in the pinned program and in every row, IS THE sha256 OF THE DUMP (.gsa) THAT YtfcbdkbdalbjmaaProg.lean LOADS. Nothing in Lean hashes anything: it is a label: what it is worth is what the hold of that sum in a sandbox is worth. -/
noncomputable def Try.pinned : Pinned := { name := "ytfcbdkbdalbjmaa", sum := "431b45b6b693d0c714dc5ece247c318610208245a7947a3cb66c500a949c91e8", checked := Try.checked }
namespace Rows
def none {H : Type} : Left H := { results := [], args := [] }

/-- 'captionerlaw42.DiffconSolves': WHATEVER THE INPUT: true; the input reads as it did. -/
def diffconSolvesSpec : ChangeSpec := { name := "diffconSolves", fn := fun _ => fun
  | [d1, d2] => { results := [.lit (.bool true)], args := [d1, d2] }
  | _ => none }
def diffconSolvesRow : OpenClaim := { program := "ytfcbdkbdalbjmaa", sum := "431b45b6b693d0c714dc5ece247c318610208245a7947a3cb66c500a949c91e8", func := "captioner/captionerlaw42.DiffconSolves", spec := "diffconSolves", apart := false }
def DiffconSolvesSaid : Prop := diffconSolvesRow.holds Try.pinned (OpenSpec.ofChange diffconSolvesSpec)

/-- ITS FALSE NEIGHBOUR: 'it returns false'. Refute it at one input. -/
def diffconSolvesWrong : ChangeSpec := { name := "diffconSolves", fn := fun _ => fun
  | [d1, d2] => { results := [.lit (.bool false)], args := [d1, d2] }
  | _ => none }
def DiffconSolvesWrongFalsely : Prop := diffconSolvesRow.holds Try.pinned (OpenSpec.ofChange diffconSolvesWrong)

/-- 'captionerlaw42.DiffconSlacks': WHATEVER THE INPUT: true; the input reads as it did. -/
def diffconSlacksSpec : ChangeSpec := { name := "diffconSlacks", fn := fun _ => fun
  | [d1, d2, d3] => { results := [.lit (.bool true)], args := [d1, d2, d3] }
  | _ => none }
def diffconSlacksRow : OpenClaim := { program := "ytfcbdkbdalbjmaa", sum := "431b45b6b693d0c714dc5ece247c318610208245a7947a3cb66c500a949c91e8", func := "captioner/captionerlaw42.DiffconSlacks", spec := "diffconSlacks", apart := false }
def DiffconSlacksSaid : Prop := diffconSlacksRow.holds Try.pinned (OpenSpec.ofChange diffconSlacksSpec)

/-- ITS FALSE NEIGHBOUR: 'it returns false'. Refute it at one input. -/
def diffconSlacksWrong : ChangeSpec := { name := "diffconSlacks", fn := fun _ => fun
  | [d1, d2, d3] => { results := [.lit (.bool false)], args := [d1, d2, d3] }
  | _ => none }
def DiffconSlacksWrongFalsely : Prop := diffconSlacksRow.holds Try.pinned (OpenSpec.ofChange diffconSlacksWrong)

/-- 'captionerlaw42.DiffconMinimal': WHATEVER THE INPUT: true; the input reads as it did. -/
def diffconMinimalSpec : ChangeSpec := { name := "diffconMinimal", fn := fun _ => fun
  | [d1, d2, d3] => { results := [.lit (.bool true)], args := [d1, d2, d3] }
  | _ => none }
def diffconMinimalRow : OpenClaim := { program := "ytfcbdkbdalbjmaa", sum := "431b45b6b693d0c714dc5ece247c318610208245a7947a3cb66c500a949c91e8", func := "captioner/captionerlaw42.DiffconMinimal", spec := "diffconMinimal", apart := false }
def DiffconMinimalSaid : Prop := diffconMinimalRow.holds Try.pinned (OpenSpec.ofChange diffconMinimalSpec)

/-- ITS FALSE NEIGHBOUR: 'it returns false'. Refute it at one input. -/
def diffconMinimalWrong : ChangeSpec := { name := "diffconMinimal", fn := fun _ => fun
  | [d1, d2, d3] => { results := [.lit (.bool false)], args := [d1, d2, d3] }
  | _ => none }
def DiffconMinimalWrongFalsely : Prop := diffconMinimalRow.holds Try.pinned (OpenSpec.ofChange diffconMinimalWrong)

/-- 'captionerlaw42.DiffconFewest': WHATEVER THE INPUT: true; the input reads as it did. -/
def diffconFewestSpec : ChangeSpec := { name := "diffconFewest", fn := fun _ => fun
  | [d1, d2, d3] => { results := [.lit (.bool true)], args := [d1, d2, d3] }
  | _ => none }
def diffconFewestRow : OpenClaim := { program := "ytfcbdkbdalbjmaa", sum := "431b45b6b693d0c714dc5ece247c318610208245a7947a3cb66c500a949c91e8", func := "captioner/captionerlaw42.DiffconFewest", spec := "diffconFewest", apart := false }
def DiffconFewestSaid : Prop := diffconFewestRow.holds Try.pinned (OpenSpec.ofChange diffconFewestSpec)

/-- ITS FALSE NEIGHBOUR: 'it returns false'. Refute it at one input. -/
def diffconFewestWrong : ChangeSpec := { name := "diffconFewest", fn := fun _ => fun
  | [d1, d2, d3] => { results := [.lit (.bool false)], args := [d1, d2, d3] }
  | _ => none }
def DiffconFewestWrongFalsely : Prop := diffconFewestRow.holds Try.pinned (OpenSpec.ofChange diffconFewestWrong)

/-- 'captionerlaw42.DiffconTight': WHATEVER THE INPUT: true; the input reads as it did. -/
def diffconTightSpec : ChangeSpec := { name := "diffconTight", fn := fun _ => fun
  | [d1, d2, d3] => { results := [.lit (.bool true)], args := [d1, d2, d3] }
  | _ => none }
def diffconTightRow : OpenClaim := { program := "ytfcbdkbdalbjmaa", sum := "431b45b6b693d0c714dc5ece247c318610208245a7947a3cb66c500a949c91e8", func := "captioner/captionerlaw42.DiffconTight", spec := "diffconTight", apart := false }
def DiffconTightSaid : Prop := diffconTightRow.holds Try.pinned (OpenSpec.ofChange diffconTightSpec)

/-- ITS FALSE NEIGHBOUR: 'it returns false'. Refute it at one input. -/
def diffconTightWrong : ChangeSpec := { name := "diffconTight", fn := fun _ => fun
  | [d1, d2, d3] => { results := [.lit (.bool false)], args := [d1, d2, d3] }
  | _ => none }
def DiffconTightWrongFalsely : Prop := diffconTightRow.holds Try.pinned (OpenSpec.ofChange diffconTightWrong)

/-- 'captionerlaw42.DiffconAccepts': WHATEVER THE INPUT: true; the input reads as it did. -/
def diffconAcceptsSpec : ChangeSpec := { name := "diffconAccepts", fn := fun _ => fun
  | [d1, d2, d3] => { results := [.lit (.bool true)], args := [d1, d2, d3] }
  | _ => none }
def diffconAcceptsRow : OpenClaim := { program := "ytfcbdkbdalbjmaa", sum := "431b45b6b693d0c714dc5ece247c318610208245a7947a3cb66c500a949c91e8", func := "captioner/captionerlaw42.DiffconAccepts", spec := "diffconAccepts", apart := false }
def DiffconAcceptsSaid : Prop := diffconAcceptsRow.holds Try.pinned (OpenSpec.ofChange diffconAcceptsSpec)

/-- ITS FALSE NEIGHBOUR: 'it returns false'. Refute it at one input. -/
def diffconAcceptsWrong : ChangeSpec := { name := "diffconAccepts", fn := fun _ => fun
  | [d1, d2, d3] => { results := [.lit (.bool false)], args := [d1, d2, d3] }
  | _ => none }
def DiffconAcceptsWrongFalsely : Prop := diffconAcceptsRow.holds Try.pinned (OpenSpec.ofChange diffconAcceptsWrong)

/-- 'captionerlaw42.DiffconGreatest': WHATEVER THE INPUT: true; the input reads as it did. -/
def diffconGreatestSpec : ChangeSpec := { name := "diffconGreatest", fn := fun _ => fun
  | [d1, d2, d3] => { results := [.lit (.bool true)], args := [d1, d2, d3] }
  | _ => none }
def diffconGreatestRow : OpenClaim := { program := "ytfcbdkbdalbjmaa", sum := "431b45b6b693d0c714dc5ece247c318610208245a7947a3cb66c500a949c91e8", func := "captioner/captionerlaw42.DiffconGreatest", spec := "diffconGreatest", apart := false }
def DiffconGreatestSaid : Prop := diffconGreatestRow.holds Try.pinned (OpenSpec.ofChange diffconGreatestSpec)

/-- ITS FALSE NEIGHBOUR: 'it returns false'. Refute it at one input. -/
def diffconGreatestWrong : ChangeSpec := { name := "diffconGreatest", fn := fun _ => fun
  | [d1, d2, d3] => { results := [.lit (.bool false)], args := [d1, d2, d3] }
  | _ => none }
def DiffconGreatestWrongFalsely : Prop := diffconGreatestRow.holds Try.pinned (OpenSpec.ofChange diffconGreatestWrong)

/-- 'captionerlaw42.DiffconRefutes': WHATEVER THE INPUT: true; the input reads as it did. -/
def diffconRefutesSpec : ChangeSpec := { name := "diffconRefutes", fn := fun _ => fun
  | [d1, d2, d3] => { results := [.lit (.bool true)], args := [d1, d2, d3] }
  | _ => none }
def diffconRefutesRow : OpenClaim := { program := "ytfcbdkbdalbjmaa", sum := "431b45b6b693d0c714dc5ece247c318610208245a7947a3cb66c500a949c91e8", func := "captioner/captionerlaw42.DiffconRefutes", spec := "diffconRefutes", apart := false }
def DiffconRefutesSaid : Prop := diffconRefutesRow.holds Try.pinned (OpenSpec.ofChange diffconRefutesSpec)

/-- ITS FALSE NEIGHBOUR: 'it returns false'. Refute it at one input. -/
def diffconRefutesWrong : ChangeSpec := { name := "diffconRefutes", fn := fun _ => fun
  | [d1, d2, d3] => { results := [.lit (.bool false)], args := [d1, d2, d3] }
  | _ => none }
def DiffconRefutesWrongFalsely : Prop := diffconRefutesRow.holds Try.pinned (OpenSpec.ofChange diffconRefutesWrong)

/-- 'captionerlaw42.DiffconMoved': WHATEVER THE INPUT: true; the input reads as it did. -/
def diffconMovedSpec : ChangeSpec := { name := "diffconMoved", fn := fun _ => fun
  | [d1, d2, d3] => { results := [.lit (.bool true)], args := [d1, d2, d3] }
  | _ => none }
def diffconMovedRow : OpenClaim := { program := "ytfcbdkbdalbjmaa", sum := "431b45b6b693d0c714dc5ece247c318610208245a7947a3cb66c500a949c91e8", func := "captioner/captionerlaw42.DiffconMoved", spec := "diffconMoved", apart := false }
def DiffconMovedSaid : Prop := diffconMovedRow.holds Try.pinned (OpenSpec.ofChange diffconMovedSpec)

/-- ITS FALSE NEIGHBOUR: 'it returns false'. Refute it at one input. -/
def diffconMovedWrong : ChangeSpec := { name := "diffconMoved", fn := fun _ => fun
  | [d1, d2, d3] => { results := [.lit (.bool false)], args := [d1, d2, d3] }
  | _ => none }
def DiffconMovedWrongFalsely : Prop := diffconMovedRow.holds Try.pinned (OpenSpec.ofChange diffconMovedWrong)

/-- 'captionerlaw42.DiffconDecides': WHATEVER THE INPUT: true; the input reads as it did. -/
def diffconDecidesSpec : ChangeSpec := { name := "diffconDecides", fn := fun _ => fun
  | [d1, d2] => { results := [.lit (.bool true)], args := [d1, d2] }
  | _ => none }
def diffconDecidesRow : OpenClaim := { program := "ytfcbdkbdalbjmaa", sum := "431b45b6b693d0c714dc5ece247c318610208245a7947a3cb66c500a949c91e8", func := "captioner/captionerlaw42.DiffconDecides", spec := "diffconDecides", apart := false }
def DiffconDecidesSaid : Prop := diffconDecidesRow.holds Try.pinned (OpenSpec.ofChange diffconDecidesSpec)

/-- ITS FALSE NEIGHBOUR: 'it returns false'. Refute it at one input. -/
def diffconDecidesWrong : ChangeSpec := { name := "diffconDecides", fn := fun _ => fun
  | [d1, d2] => { results := [.lit (.bool false)], args := [d1, d2] }
  | _ => none }
def DiffconDecidesWrongFalsely : Prop := diffconDecidesRow.holds Try.pinned (OpenSpec.ofChange diffconDecidesWrong)

/- THE SECOND FORM. 'bulk': how many values and letters a reading holds, each counted each time it is reached (what is shared counts as often as it is met; a slice's spare places count too). A statement '..UptoSaid' is the law's where the arguments, and the package variables that the reading takes, are together of bulk at most 1048576: NARROWER than '..Said'. Prove '..Said' where nothing that the law and all that it calls make is longer than what came in: it says more and counts as full. Else prove '..UptoSaid'. A law counts once. -/
mutual
def uptoBulk {H : Type} : DataW H → Nat
  | .lit (.string bytes) => bytes.length + 1
  | .lit _ => 1
  | .nil => 1
  | .ptr d => uptoBulk d + 1
  | .slice elems spare => uptoBulkAll elems + uptoBulkAll spare + 1
  | .agg parts => uptoBulkAll parts + 1
  | .iface _ d => uptoBulk d + 1
  | .map entries => uptoBulkEntries entries + 1
  | .held _ => 1
def uptoBulkAll {H : Type} : List (DataW H) → Nat
  | [] => 0
  | d :: r => uptoBulk d + uptoBulkAll r
def uptoBulkEntries {H : Type} : List (Lit × DataW H) → Nat
  | [] => 0
  | x :: r => uptoBulkEntry x + uptoBulkEntries r
def uptoBulkEntry {H : Type} : Lit × DataW H → Nat
  | (.string bytes, d) => bytes.length + uptoBulk d + 1
  | (_, d) => uptoBulk d + 1
 end
def uptoSmall : (H : Type) → List (DataW H) → Bool := fun _ ds => decide (uptoBulkAll ds ≤ 1048576)
def OpenSpec.upto (s : _root_.Go.ChangeSpec) : _root_.Go.OpenSpec := { _root_.Go.OpenSpec.ofChange s with cond := some uptoSmall }

/-- 'captionerlaw42.DiffconSolves', WHERE WHAT IT READS IS OF BULK AT MOST 1048576: true; the input reads as it did. -/
def diffconSolvesUptoRow : OpenClaim := { program := "ytfcbdkbdalbjmaa", sum := "431b45b6b693d0c714dc5ece247c318610208245a7947a3cb66c500a949c91e8", func := "captioner/captionerlaw42.DiffconSolves", spec := "diffconSolves", apart := false, narrowed := true }
def DiffconSolvesUptoSaid : Prop := diffconSolvesUptoRow.holds Try.pinned (OpenSpec.upto diffconSolvesSpec)

/-- 'captionerlaw42.DiffconSlacks', WHERE WHAT IT READS IS OF BULK AT MOST 1048576: true; the input reads as it did. -/
def diffconSlacksUptoRow : OpenClaim := { program := "ytfcbdkbdalbjmaa", sum := "431b45b6b693d0c714dc5ece247c318610208245a7947a3cb66c500a949c91e8", func := "captioner/captionerlaw42.DiffconSlacks", spec := "diffconSlacks", apart := false, narrowed := true }
def DiffconSlacksUptoSaid : Prop := diffconSlacksUptoRow.holds Try.pinned (OpenSpec.upto diffconSlacksSpec)

/-- 'captionerlaw42.DiffconMinimal', WHERE WHAT IT READS IS OF BULK AT MOST 1048576: true; the input reads as it did. -/
def diffconMinimalUptoRow : OpenClaim := { program := "ytfcbdkbdalbjmaa", sum := "431b45b6b693d0c714dc5ece247c318610208245a7947a3cb66c500a949c91e8", func := "captioner/captionerlaw42.DiffconMinimal", spec := "diffconMinimal", apart := false, narrowed := true }
def DiffconMinimalUptoSaid : Prop := diffconMinimalUptoRow.holds Try.pinned (OpenSpec.upto diffconMinimalSpec)

/-- 'captionerlaw42.DiffconFewest', WHERE WHAT IT READS IS OF BULK AT MOST 1048576: true; the input reads as it did. -/
def diffconFewestUptoRow : OpenClaim := { program := "ytfcbdkbdalbjmaa", sum := "431b45b6b693d0c714dc5ece247c318610208245a7947a3cb66c500a949c91e8", func := "captioner/captionerlaw42.DiffconFewest", spec := "diffconFewest", apart := false, narrowed := true }
def DiffconFewestUptoSaid : Prop := diffconFewestUptoRow.holds Try.pinned (OpenSpec.upto diffconFewestSpec)

/-- 'captionerlaw42.DiffconTight', WHERE WHAT IT READS IS OF BULK AT MOST 1048576: true; the input reads as it did. -/
def diffconTightUptoRow : OpenClaim := { program := "ytfcbdkbdalbjmaa", sum := "431b45b6b693d0c714dc5ece247c318610208245a7947a3cb66c500a949c91e8", func := "captioner/captionerlaw42.DiffconTight", spec := "diffconTight", apart := false, narrowed := true }
def DiffconTightUptoSaid : Prop := diffconTightUptoRow.holds Try.pinned (OpenSpec.upto diffconTightSpec)

/-- 'captionerlaw42.DiffconAccepts', WHERE WHAT IT READS IS OF BULK AT MOST 1048576: true; the input reads as it did. -/
def diffconAcceptsUptoRow : OpenClaim := { program := "ytfcbdkbdalbjmaa", sum := "431b45b6b693d0c714dc5ece247c318610208245a7947a3cb66c500a949c91e8", func := "captioner/captionerlaw42.DiffconAccepts", spec := "diffconAccepts", apart := false, narrowed := true }
def DiffconAcceptsUptoSaid : Prop := diffconAcceptsUptoRow.holds Try.pinned (OpenSpec.upto diffconAcceptsSpec)

/-- 'captionerlaw42.DiffconGreatest', WHERE WHAT IT READS IS OF BULK AT MOST 1048576: true; the input reads as it did. -/
def diffconGreatestUptoRow : OpenClaim := { program := "ytfcbdkbdalbjmaa", sum := "431b45b6b693d0c714dc5ece247c318610208245a7947a3cb66c500a949c91e8", func := "captioner/captionerlaw42.DiffconGreatest", spec := "diffconGreatest", apart := false, narrowed := true }
def DiffconGreatestUptoSaid : Prop := diffconGreatestUptoRow.holds Try.pinned (OpenSpec.upto diffconGreatestSpec)

/-- 'captionerlaw42.DiffconRefutes', WHERE WHAT IT READS IS OF BULK AT MOST 1048576: true; the input reads as it did. -/
def diffconRefutesUptoRow : OpenClaim := { program := "ytfcbdkbdalbjmaa", sum := "431b45b6b693d0c714dc5ece247c318610208245a7947a3cb66c500a949c91e8", func := "captioner/captionerlaw42.DiffconRefutes", spec := "diffconRefutes", apart := false, narrowed := true }
def DiffconRefutesUptoSaid : Prop := diffconRefutesUptoRow.holds Try.pinned (OpenSpec.upto diffconRefutesSpec)

/-- 'captionerlaw42.DiffconMoved', WHERE WHAT IT READS IS OF BULK AT MOST 1048576: true; the input reads as it did. -/
def diffconMovedUptoRow : OpenClaim := { program := "ytfcbdkbdalbjmaa", sum := "431b45b6b693d0c714dc5ece247c318610208245a7947a3cb66c500a949c91e8", func := "captioner/captionerlaw42.DiffconMoved", spec := "diffconMoved", apart := false, narrowed := true }
def DiffconMovedUptoSaid : Prop := diffconMovedUptoRow.holds Try.pinned (OpenSpec.upto diffconMovedSpec)

/-- 'captionerlaw42.DiffconDecides', WHERE WHAT IT READS IS OF BULK AT MOST 1048576: true; the input reads as it did. -/
def diffconDecidesUptoRow : OpenClaim := { program := "ytfcbdkbdalbjmaa", sum := "431b45b6b693d0c714dc5ece247c318610208245a7947a3cb66c500a949c91e8", func := "captioner/captionerlaw42.DiffconDecides", spec := "diffconDecides", apart := false, narrowed := true }
def DiffconDecidesUptoSaid : Prop := diffconDecidesUptoRow.holds Try.pinned (OpenSpec.upto diffconDecidesSpec)

end Rows
end Go.Proofs.Ytfcbdkbdalbjmaa
