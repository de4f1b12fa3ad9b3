/-
  No cell of these rows narrows 'for every input' (looked for: loops, veiled, ifaces, maps, wideKeys, modest, calm, conditions, laid).
  DERIVED. THE GIVEN ROWS OF THIS SEAT. 7 by the template 'for every input the law returns true; each argument reads behind the call as it read before'; 0 by the template 'total and deterministic' (their statements: YtbficpmoppailaaTotals.lean).
  GIVEN WITH THE SEED: the statements are not yours to turn. If you find one false, say at which input.
  Laid BY PROGRAM, IN A SANDBOX (cutbox-rows.mjs): the forced cells as the released guide's own fill.sh prints them over the translation d9dc87380a9105af… (all of the seat's roots in one cut). By AI agents, Wed Nov 11 2026. No macro, syntax, notation, axiom, sorry.
-/
import Derived.Test.YtbficpmoppailaaChecked
import GoSem.Claim
import GoSem.ClaimJoined
import GoSem.ClaimMapViews
import Derived.JoinedTies
import Derived.KernelRfl
namespace Go.Proofs.Ytbficpmoppailaa
/- THE CELL 'sum', in the pinned program and in every row, IS THE sha256 OF THE DUMP (.gsa) THAT YtbficpmoppailaaProg.lean LOADS. Nothing in Lean hashes anything: it is a label: what it is worth is what the hold of that sum in a sandbox is worth. -/
noncomputable def Try.pinned : Pinned := { name := "ytbficpmoppailaa", sum := "d9dc87380a9105af8b18fcc5187e44844ce6fb63807ac449fe351d27ea668173", checked := Try.checked }
namespace Rows
def none {H : Type} : Left H := { results := [], args := [] }

/-- 'captionerlaw55.JournalKeeps': WHATEVER THE INPUT: true; the input reads as it did. -/
def journalKeepsSpec : ChangeSpec := { name := "journalKeeps", fn := fun _ => fun
  | [d1, d2] => { results := [.lit (.bool true)], args := [d1, d2] }
  | _ => none }
def journalKeepsRow : OpenClaim := { program := "ytbficpmoppailaa", sum := "d9dc87380a9105af8b18fcc5187e44844ce6fb63807ac449fe351d27ea668173", func := "captioner/captionerlaw55.JournalKeeps", spec := "journalKeeps", apart := false }
def JournalKeepsSaid : Prop := journalKeepsRow.holds Try.pinned (OpenSpec.ofChange journalKeepsSpec)

/-- ITS FALSE NEIGHBOUR: 'it returns false'. Refute it at one input. -/
def journalKeepsWrong : ChangeSpec := { name := "journalKeeps", fn := fun _ => fun
  | [d1, d2] => { results := [.lit (.bool false)], args := [d1, d2] }
  | _ => none }
def JournalKeepsWrongFalsely : Prop := journalKeepsRow.holds Try.pinned (OpenSpec.ofChange journalKeepsWrong)

/-- 'captionerlaw55.JournalPower': WHATEVER THE INPUT: true; the input reads as it did. -/
def journalPowerSpec : ChangeSpec := { name := "journalPower", fn := fun _ => fun
  | [d1, d2, d3] => { results := [.lit (.bool true)], args := [d1, d2, d3] }
  | _ => none }
def journalPowerRow : OpenClaim := { program := "ytbficpmoppailaa", sum := "d9dc87380a9105af8b18fcc5187e44844ce6fb63807ac449fe351d27ea668173", func := "captioner/captionerlaw55.JournalPower", spec := "journalPower", apart := false }
def JournalPowerSaid : Prop := journalPowerRow.holds Try.pinned (OpenSpec.ofChange journalPowerSpec)

/-- ITS FALSE NEIGHBOUR: 'it returns false'. Refute it at one input. -/
def journalPowerWrong : ChangeSpec := { name := "journalPower", fn := fun _ => fun
  | [d1, d2, d3] => { results := [.lit (.bool false)], args := [d1, d2, d3] }
  | _ => none }
def JournalPowerWrongFalsely : Prop := journalPowerRow.holds Try.pinned (OpenSpec.ofChange journalPowerWrong)

/-- 'captionerlaw55.JournalMakes': WHATEVER THE INPUT: true; the input reads as it did. -/
def journalMakesSpec : ChangeSpec := { name := "journalMakes", fn := fun _ => fun
  | [d] => { results := [.lit (.bool true)], args := [d] }
  | _ => none }
def journalMakesRow : OpenClaim := { program := "ytbficpmoppailaa", sum := "d9dc87380a9105af8b18fcc5187e44844ce6fb63807ac449fe351d27ea668173", func := "captioner/captionerlaw55.JournalMakes", spec := "journalMakes", apart := false }
def JournalMakesSaid : Prop := journalMakesRow.holds Try.pinned (OpenSpec.ofChange journalMakesSpec)

/-- ITS FALSE NEIGHBOUR: 'it returns false'. Refute it at one input. -/
def journalMakesWrong : ChangeSpec := { name := "journalMakes", fn := fun _ => fun
  | [d] => { results := [.lit (.bool false)], args := [d] }
  | _ => none }
def JournalMakesWrongFalsely : Prop := journalMakesRow.holds Try.pinned (OpenSpec.ofChange journalMakesWrong)

/-- 'captionerlaw55.JournalDamage': WHATEVER THE INPUT: true; the input reads as it did. -/
def journalDamageSpec : ChangeSpec := { name := "journalDamage", fn := fun _ => fun
  | [d1, d2, d3] => { results := [.lit (.bool true)], args := [d1, d2, d3] }
  | _ => none }
def journalDamageRow : OpenClaim := { program := "ytbficpmoppailaa", sum := "d9dc87380a9105af8b18fcc5187e44844ce6fb63807ac449fe351d27ea668173", func := "captioner/captionerlaw55.JournalDamage", spec := "journalDamage", apart := false }
def JournalDamageSaid : Prop := journalDamageRow.holds Try.pinned (OpenSpec.ofChange journalDamageSpec)

/-- ITS FALSE NEIGHBOUR: 'it returns false'. Refute it at one input. -/
def journalDamageWrong : ChangeSpec := { name := "journalDamage", fn := fun _ => fun
  | [d1, d2, d3] => { results := [.lit (.bool false)], args := [d1, d2, d3] }
  | _ => none }
def JournalDamageWrongFalsely : Prop := journalDamageRow.holds Try.pinned (OpenSpec.ofChange journalDamageWrong)

/-- 'captionerlaw55.JournalBroken': WHATEVER THE INPUT: true; the input reads as it did. -/
def journalBrokenSpec : ChangeSpec := { name := "journalBroken", fn := fun _ => fun
  | [d1, d2, d3] => { results := [.lit (.bool true)], args := [d1, d2, d3] }
  | _ => none }
def journalBrokenRow : OpenClaim := { program := "ytbficpmoppailaa", sum := "d9dc87380a9105af8b18fcc5187e44844ce6fb63807ac449fe351d27ea668173", func := "captioner/captionerlaw55.JournalBroken", spec := "journalBroken", apart := false }
def JournalBrokenSaid : Prop := journalBrokenRow.holds Try.pinned (OpenSpec.ofChange journalBrokenSpec)

/-- ITS FALSE NEIGHBOUR: 'it returns false'. Refute it at one input. -/
def journalBrokenWrong : ChangeSpec := { name := "journalBroken", fn := fun _ => fun
  | [d1, d2, d3] => { results := [.lit (.bool false)], args := [d1, d2, d3] }
  | _ => none }
def JournalBrokenWrongFalsely : Prop := journalBrokenRow.holds Try.pinned (OpenSpec.ofChange journalBrokenWrong)

/-- 'captionerlaw55.JournalPlays': WHATEVER THE INPUT: true; the input reads as it did. -/
def journalPlaysSpec : ChangeSpec := { name := "journalPlays", fn := fun _ => fun
  | [d1, d2] => { results := [.lit (.bool true)], args := [d1, d2] }
  | _ => none }
def journalPlaysRow : OpenClaim := { program := "ytbficpmoppailaa", sum := "d9dc87380a9105af8b18fcc5187e44844ce6fb63807ac449fe351d27ea668173", func := "captioner/captionerlaw55.JournalPlays", spec := "journalPlays", apart := false }
def JournalPlaysSaid : Prop := journalPlaysRow.holds Try.pinned (OpenSpec.ofChange journalPlaysSpec)

/-- ITS FALSE NEIGHBOUR: 'it returns false'. Refute it at one input. -/
def journalPlaysWrong : ChangeSpec := { name := "journalPlays", fn := fun _ => fun
  | [d1, d2] => { results := [.lit (.bool false)], args := [d1, d2] }
  | _ => none }
def JournalPlaysWrongFalsely : Prop := journalPlaysRow.holds Try.pinned (OpenSpec.ofChange journalPlaysWrong)

/-- 'captionerlaw55.JournalNil': WHATEVER THE INPUT: true; the input reads as it did. -/
def journalNilSpec : ChangeSpec := { name := "journalNil", fn := fun _ => fun
  | [d1, d2] => { results := [.lit (.bool true)], args := [d1, d2] }
  | _ => none }
def journalNilRow : OpenClaim := { program := "ytbficpmoppailaa", sum := "d9dc87380a9105af8b18fcc5187e44844ce6fb63807ac449fe351d27ea668173", func := "captioner/captionerlaw55.JournalNil", spec := "journalNil", apart := false }
def JournalNilSaid : Prop := journalNilRow.holds Try.pinned (OpenSpec.ofChange journalNilSpec)

/-- ITS FALSE NEIGHBOUR: 'it returns false'. Refute it at one input. -/
def journalNilWrong : ChangeSpec := { name := "journalNil", fn := fun _ => fun
  | [d1, d2] => { results := [.lit (.bool false)], args := [d1, d2] }
  | _ => none }
def JournalNilWrongFalsely : Prop := journalNilRow.holds Try.pinned (OpenSpec.ofChange journalNilWrong)

/- THE SECOND FORM. 'bulk': how many values and letters a reading holds, each counted each time it is reached (what is shared counts as often as it is met; a slice's spare places count too). A statement '..UptoSaid' is the law's where the arguments, and the package variables that the reading takes, are together of bulk at most 1048576: NARROWER than '..Said'. Prove '..Said' where nothing that the law and all that it calls make is longer than what came in: it says more and counts as full. Else prove '..UptoSaid'. A law counts once. -/
mutual
def uptoBulk {H : Type} : DataW H → Nat
  | .lit (.string bytes) => bytes.length + 1
  | .lit _ => 1
  | .nil => 1
  | .ptr d => uptoBulk d + 1
  | .slice elems spare => uptoBulkAll elems + uptoBulkAll spare + 1
  | .agg parts => uptoBulkAll parts + 1
  | .iface _ d => uptoBulk d + 1
  | .map entries => uptoBulkEntries entries + 1
  | .held _ => 1
def uptoBulkAll {H : Type} : List (DataW H) → Nat
  | [] => 0
  | d :: r => uptoBulk d + uptoBulkAll r
def uptoBulkEntries {H : Type} : List (Lit × DataW H) → Nat
  | [] => 0
  | x :: r => uptoBulkEntry x + uptoBulkEntries r
def uptoBulkEntry {H : Type} : Lit × DataW H → Nat
  | (.string bytes, d) => bytes.length + uptoBulk d + 1
  | (_, d) => uptoBulk d + 1
 end
def uptoSmall : (H : Type) → List (DataW H) → Bool := fun _ ds => decide (uptoBulkAll ds ≤ 1048576)
def OpenSpec.upto (s : _root_.Go.ChangeSpec) : _root_.Go.OpenSpec := { _root_.Go.OpenSpec.ofChange s with cond := some uptoSmall }

/-- 'captionerlaw55.JournalKeeps', WHERE WHAT IT READS IS OF BULK AT MOST 1048576: true; the input reads as it did. -/
def journalKeepsUptoRow : OpenClaim := { program := "ytbficpmoppailaa", sum := "d9dc87380a9105af8b18fcc5187e44844ce6fb63807ac449fe351d27ea668173", func := "captioner/captionerlaw55.JournalKeeps", spec := "journalKeeps", apart := false, narrowed := true }
def JournalKeepsUptoSaid : Prop := journalKeepsUptoRow.holds Try.pinned (OpenSpec.upto journalKeepsSpec)

/-- 'captionerlaw55.JournalPower', WHERE WHAT IT READS IS OF BULK AT MOST 1048576: true; the input reads as it did. -/
def journalPowerUptoRow : OpenClaim := { program := "ytbficpmoppailaa", sum := "d9dc87380a9105af8b18fcc5187e44844ce6fb63807ac449fe351d27ea668173", func := "captioner/captionerlaw55.JournalPower", spec := "journalPower", apart := false, narrowed := true }
def JournalPowerUptoSaid : Prop := journalPowerUptoRow.holds Try.pinned (OpenSpec.upto journalPowerSpec)

/-- 'captionerlaw55.JournalMakes', WHERE WHAT IT READS IS OF BULK AT MOST 1048576: true; the input reads as it did. -/
def journalMakesUptoRow : OpenClaim := { program := "ytbficpmoppailaa", sum := "d9dc87380a9105af8b18fcc5187e44844ce6fb63807ac449fe351d27ea668173", func := "captioner/captionerlaw55.JournalMakes", spec := "journalMakes", apart := false, narrowed := true }
def JournalMakesUptoSaid : Prop := journalMakesUptoRow.holds Try.pinned (OpenSpec.upto journalMakesSpec)

/-- 'captionerlaw55.JournalDamage', WHERE WHAT IT READS IS OF BULK AT MOST 1048576: true; the input reads as it did. -/
def journalDamageUptoRow : OpenClaim := { program := "ytbficpmoppailaa", sum := "d9dc87380a9105af8b18fcc5187e44844ce6fb63807ac449fe351d27ea668173", func := "captioner/captionerlaw55.JournalDamage", spec := "journalDamage", apart := false, narrowed := true }
def JournalDamageUptoSaid : Prop := journalDamageUptoRow.holds Try.pinned (OpenSpec.upto journalDamageSpec)

/-- 'captionerlaw55.JournalBroken', WHERE WHAT IT READS IS OF BULK AT MOST 1048576: true; the input reads as it did. -/
def journalBrokenUptoRow : OpenClaim := { program := "ytbficpmoppailaa", sum := "d9dc87380a9105af8b18fcc5187e44844ce6fb63807ac449fe351d27ea668173", func := "captioner/captionerlaw55.JournalBroken", spec := "journalBroken", apart := false, narrowed := true }
def JournalBrokenUptoSaid : Prop := journalBrokenUptoRow.holds Try.pinned (OpenSpec.upto journalBrokenSpec)

/-- 'captionerlaw55.JournalPlays', WHERE WHAT IT READS IS OF BULK AT MOST 1048576: true; the input reads as it did. -/
def journalPlaysUptoRow : OpenClaim := { program := "ytbficpmoppailaa", sum := "d9dc87380a9105af8b18fcc5187e44844ce6fb63807ac449fe351d27ea668173", func := "captioner/captionerlaw55.JournalPlays", spec := "journalPlays", apart := false, narrowed := true }
def JournalPlaysUptoSaid : Prop := journalPlaysUptoRow.holds Try.pinned (OpenSpec.upto journalPlaysSpec)

/-- 'captionerlaw55.JournalNil', WHERE WHAT IT READS IS OF BULK AT MOST 1048576: true; the input reads as it did. -/
def journalNilUptoRow : OpenClaim := { program := "ytbficpmoppailaa", sum := "d9dc87380a9105af8b18fcc5187e44844ce6fb63807ac449fe351d27ea668173", func := "captioner/captionerlaw55.JournalNil", spec := "journalNil", apart := false, narrowed := true }
def JournalNilUptoSaid : Prop := journalNilUptoRow.holds Try.pinned (OpenSpec.upto journalNilSpec)

end Rows
end Go.Proofs.Ytbficpmoppailaa
