/-
  DERIVED. GIVEN WITH THE SEED: THE CARDS: each row of YtfldcmeecpgpeaaGreatDoorRows.lean that lists a variable, with what it lists TIED to the program's text (the seventh form; the later family's looks); each row that meets fmt, with fmt's text TOLD by the authors' own Lean function (tested against real Go, not proved from fmt's source: count such statements apart). THE CARD IS WHAT COUNTS. Prove the row's statement (the work); the ties are given (YtfldcmeecpgpeaaGreatDoorTie.lean); close each card by the builder's one call (the guide's Derived/Test/ToyasCard.lean, 'card_holds'). Laid BY PROGRAM, IN A SANDBOX (cutbox-door.mjs). By AI agents, Wed Nov 11 2026. No macro, syntax, notation, axiom, sorry.
-/
import Derived.Test.YtfldcmeecpgpeaaGreatDoorRows
import GoSem.ClaimSeven
namespace Go.Proofs.YtfldcmeecpgpeaaGreatDoor
namespace Rows

/-- THE TIED CARD OF 'captionerlaw51.GlossaryChecks'. -/
def glossaryChecksCard : Claim7 := { stood := { row := glossaryChecksRow, standIns := [], harness := (true, "d851aba14f05cb34dd24727608fe9c7803c8178d97034abb0da853a490af6da0"), looks := false }, kinds := [], alts := [], laidByText := true, laidKinds := [.data, .pinned], laidTests := true, laidLooks := .later }
def GlossaryChecksCardSaid : Prop := Claim7.holds Tryz.pinned (.plain (OpenSpec.ofChange glossaryChecksSpec)) glossaryChecksCard

/-- THE SECOND FORM's CARD OF 'captionerlaw51.GlossaryChecks'. -/
def glossaryChecksUptoCard : Claim7 := { stood := { row := glossaryChecksUptoRow, standIns := [], harness := (true, "d851aba14f05cb34dd24727608fe9c7803c8178d97034abb0da853a490af6da0"), looks := false }, kinds := [], alts := [], laidByText := true, laidKinds := [.data, .pinned], laidTests := true, laidLooks := .later }
def GlossaryChecksUptoCardSaid : Prop := Claim7.holds Tryz.pinned (.plain (OpenSpec.upto glossaryChecksSpec)) glossaryChecksUptoCard
end Rows
end Go.Proofs.YtfldcmeecpgpeaaGreatDoor
