/-
  DERIVED. GIVEN WITH THE SEED: THE CARDS: each row of YtfldcmeecpgpeaaDoorRows.lean that lists a variable, with what it lists TIED to the program's text (the seventh form; the later family's looks); each row that meets fmt, with fmt's text TOLD by the authors' own Lean function (tested against real Go, not proved from fmt's source: count such statements apart). THE CARD IS WHAT COUNTS. Prove the row's statement (the work); the ties are given (YtfldcmeecpgpeaaDoorTie.lean); close each card by the builder's one call (the guide's Derived/Test/ToyasCard.lean, 'card_holds'). Laid BY PROGRAM, IN A SANDBOX (cutbox-door.mjs). By AI agents, Wed Nov 11 2026. No macro, syntax, notation, axiom, sorry.
-/
import Derived.Test.YtfldcmeecpgpeaaDoorRows
import GoSem.ClaimSeven
namespace Go.Proofs.YtfldcmeecpgpeaaDoor
namespace Rows

/-- THE TIED CARD OF 'captionerlaw51.GlossaryJudges'. -/
def glossaryJudgesCard : Claim7 := { stood := { row := glossaryJudgesRow, standIns := [], harness := (true, "23cea9e4238f0e2c7ccb414c7007950abf5efdf296ab2caf493d1412d474c8b2"), looks := false }, kinds := [], alts := [], laidByText := true, laidKinds := [.data, .pinned], laidTests := true, laidLooks := .later }
def GlossaryJudgesCardSaid : Prop := Claim7.holds Tryd.pinned (.plain (OpenSpec.ofChange glossaryJudgesSpec)) glossaryJudgesCard

/-- THE TIED CARD OF 'captionerlaw51.GlossaryWords'. -/
def glossaryWordsCard : Claim7 := { stood := { row := glossaryWordsRow, standIns := [], harness := (true, "23cea9e4238f0e2c7ccb414c7007950abf5efdf296ab2caf493d1412d474c8b2"), looks := false }, kinds := [], alts := [], laidByText := true, laidKinds := [.data, .pinned], laidTests := true, laidLooks := .later }
def GlossaryWordsCardSaid : Prop := Claim7.holds Tryd.pinned (.plain (OpenSpec.ofChange glossaryWordsSpec)) glossaryWordsCard

/-- THE TIED CARD OF 'captionerlaw51.GlossaryParses'. -/
def glossaryParsesCard : Claim7 := { stood := { row := glossaryParsesRow, standIns := [], harness := (true, "23cea9e4238f0e2c7ccb414c7007950abf5efdf296ab2caf493d1412d474c8b2"), looks := false }, kinds := [], alts := [], laidByText := true, laidKinds := [.data, .pinned], laidTests := true, laidLooks := .later }
def GlossaryParsesCardSaid : Prop := Claim7.holds Tryd.pinned (.plain (OpenSpec.ofChange glossaryParsesSpec)) glossaryParsesCard

/-- THE SECOND FORM's CARD OF 'captionerlaw51.GlossaryJudges'. -/
def glossaryJudgesUptoCard : Claim7 := { stood := { row := glossaryJudgesUptoRow, standIns := [], harness := (true, "23cea9e4238f0e2c7ccb414c7007950abf5efdf296ab2caf493d1412d474c8b2"), looks := false }, kinds := [], alts := [], laidByText := true, laidKinds := [.data, .pinned], laidTests := true, laidLooks := .later }
def GlossaryJudgesUptoCardSaid : Prop := Claim7.holds Tryd.pinned (.plain (OpenSpec.upto glossaryJudgesSpec)) glossaryJudgesUptoCard

/-- THE SECOND FORM's CARD OF 'captionerlaw51.GlossaryWords'. -/
def glossaryWordsUptoCard : Claim7 := { stood := { row := glossaryWordsUptoRow, standIns := [], harness := (true, "23cea9e4238f0e2c7ccb414c7007950abf5efdf296ab2caf493d1412d474c8b2"), looks := false }, kinds := [], alts := [], laidByText := true, laidKinds := [.data, .pinned], laidTests := true, laidLooks := .later }
def GlossaryWordsUptoCardSaid : Prop := Claim7.holds Tryd.pinned (.plain (OpenSpec.upto glossaryWordsSpec)) glossaryWordsUptoCard

/-- THE SECOND FORM's CARD OF 'captionerlaw51.GlossaryParses'. -/
def glossaryParsesUptoCard : Claim7 := { stood := { row := glossaryParsesUptoRow, standIns := [], harness := (true, "23cea9e4238f0e2c7ccb414c7007950abf5efdf296ab2caf493d1412d474c8b2"), looks := false }, kinds := [], alts := [], laidByText := true, laidKinds := [.data, .pinned], laidTests := true, laidLooks := .later }
def GlossaryParsesUptoCardSaid : Prop := Claim7.holds Tryd.pinned (.plain (OpenSpec.upto glossaryParsesSpec)) glossaryParsesUptoCard
end Rows
end Go.Proofs.YtfldcmeecpgpeaaDoor
