/-
  DERIVED. GIVEN WITH THE SEED: THE CARDS: each row of YtaemdlpikaakcaaDoorRows.lean that lists a variable, with what it lists TIED to the program's text (the seventh form; the later family's looks); each row that meets fmt, with fmt's text TOLD by the authors' own Lean function (tested against real Go, not proved from fmt's source: count such statements apart). THE CARD IS WHAT COUNTS. Prove the row's statement (the work); the ties are given (YtaemdlpikaakcaaDoorTie.lean); close each card by the builder's one call (the guide's Derived/Test/ToyasCard.lean, 'card_holds'). Laid BY PROGRAM, IN A SANDBOX (cutbox-door.mjs). By AI agents, Wed Nov 11 2026. No macro, syntax, notation, axiom, sorry.
-/
import Derived.Test.YtaemdlpikaakcaaDoorRows
import GoSem.ClaimSeven
namespace Go.Proofs.YtaemdlpikaakcaaDoor
namespace Rows

/-- THE TIED CARD OF 'captionerlaw22.LatinPuts'. -/
def latinPutsCard : Claim7 := { stood := { row := latinPutsRow, standIns := [], harness := (true, "e5afe764442e7fc6883bf1739cc20edc18d44172f8d7636aa37575cd5803d66c"), looks := false }, kinds := [], alts := [], laidByText := true, laidKinds := [.data, .pinned], laidTests := true, laidLooks := .later }
def LatinPutsCardSaid : Prop := Claim7.holds Tryd.pinned (.plain (OpenSpec.ofChange latinPutsSpec)) latinPutsCard

/-- THE TIED CARD OF 'captionerlaw22.LatinGets'. -/
def latinGetsCard : Claim7 := { stood := { row := latinGetsRow, standIns := [], harness := (true, "e5afe764442e7fc6883bf1739cc20edc18d44172f8d7636aa37575cd5803d66c"), looks := false }, kinds := [], alts := [], laidByText := true, laidKinds := [.data, .pinned], laidTests := true, laidLooks := .later }
def LatinGetsCardSaid : Prop := Claim7.holds Tryd.pinned (.plain (OpenSpec.ofChange latinGetsSpec)) latinGetsCard

/-- THE TIED CARD OF 'captionerlaw22.LatinEncodes'. -/
def latinEncodesCard : Claim7 := { stood := { row := latinEncodesRow, standIns := [], harness := (true, "e5afe764442e7fc6883bf1739cc20edc18d44172f8d7636aa37575cd5803d66c"), looks := false }, kinds := [], alts := [], laidByText := true, laidKinds := [.data, .pinned], laidTests := true, laidLooks := .later }
def LatinEncodesCardSaid : Prop := Claim7.holds Tryd.pinned (.plain (OpenSpec.ofChange latinEncodesSpec)) latinEncodesCard

/-- THE TIED CARD OF 'captionerlaw22.LatinWhole'. -/
def latinWholeCard : Claim7 := { stood := { row := latinWholeRow, standIns := [], harness := (true, "e5afe764442e7fc6883bf1739cc20edc18d44172f8d7636aa37575cd5803d66c"), looks := false }, kinds := [], alts := [], laidByText := true, laidKinds := [.data, .pinned], laidTests := true, laidLooks := .later }
def LatinWholeCardSaid : Prop := Claim7.holds Tryd.pinned (.plain (OpenSpec.ofChange latinWholeSpec)) latinWholeCard

/-- THE TIED CARD OF 'captionerlaw22.LatinDecodes'. -/
def latinDecodesCard : Claim7 := { stood := { row := latinDecodesRow, standIns := [], harness := (true, "e5afe764442e7fc6883bf1739cc20edc18d44172f8d7636aa37575cd5803d66c"), looks := false }, kinds := [], alts := [], laidByText := true, laidKinds := [.data, .pinned], laidTests := true, laidLooks := .later }
def LatinDecodesCardSaid : Prop := Claim7.holds Tryd.pinned (.plain (OpenSpec.ofChange latinDecodesSpec)) latinDecodesCard

/-- THE TIED CARD OF 'captionerlaw22.LatinReturns'. -/
def latinReturnsCard : Claim7 := { stood := { row := latinReturnsRow, standIns := [], harness := (true, "e5afe764442e7fc6883bf1739cc20edc18d44172f8d7636aa37575cd5803d66c"), looks := false }, kinds := [], alts := [], laidByText := true, laidKinds := [.data, .pinned], laidTests := true, laidLooks := .later }
def LatinReturnsCardSaid : Prop := Claim7.holds Tryd.pinned (.plain (OpenSpec.ofChange latinReturnsSpec)) latinReturnsCard

/-- THE TIED CARD OF 'captionerlaw22.LatinAgain'. -/
def latinAgainCard : Claim7 := { stood := { row := latinAgainRow, standIns := [], harness := (true, "e5afe764442e7fc6883bf1739cc20edc18d44172f8d7636aa37575cd5803d66c"), looks := false }, kinds := [], alts := [], laidByText := true, laidKinds := [.data, .pinned], laidTests := true, laidLooks := .later }
def LatinAgainCardSaid : Prop := Claim7.holds Tryd.pinned (.plain (OpenSpec.ofChange latinAgainSpec)) latinAgainCard

/-- THE SECOND FORM's CARD OF 'captionerlaw22.LatinPuts'. -/
def latinPutsUptoCard : Claim7 := { stood := { row := latinPutsUptoRow, standIns := [], harness := (true, "e5afe764442e7fc6883bf1739cc20edc18d44172f8d7636aa37575cd5803d66c"), looks := false }, kinds := [], alts := [], laidByText := true, laidKinds := [.data, .pinned], laidTests := true, laidLooks := .later }
def LatinPutsUptoCardSaid : Prop := Claim7.holds Tryd.pinned (.plain (OpenSpec.upto latinPutsSpec)) latinPutsUptoCard

/-- THE SECOND FORM's CARD OF 'captionerlaw22.LatinGets'. -/
def latinGetsUptoCard : Claim7 := { stood := { row := latinGetsUptoRow, standIns := [], harness := (true, "e5afe764442e7fc6883bf1739cc20edc18d44172f8d7636aa37575cd5803d66c"), looks := false }, kinds := [], alts := [], laidByText := true, laidKinds := [.data, .pinned], laidTests := true, laidLooks := .later }
def LatinGetsUptoCardSaid : Prop := Claim7.holds Tryd.pinned (.plain (OpenSpec.upto latinGetsSpec)) latinGetsUptoCard

/-- THE SECOND FORM's CARD OF 'captionerlaw22.LatinEncodes'. -/
def latinEncodesUptoCard : Claim7 := { stood := { row := latinEncodesUptoRow, standIns := [], harness := (true, "e5afe764442e7fc6883bf1739cc20edc18d44172f8d7636aa37575cd5803d66c"), looks := false }, kinds := [], alts := [], laidByText := true, laidKinds := [.data, .pinned], laidTests := true, laidLooks := .later }
def LatinEncodesUptoCardSaid : Prop := Claim7.holds Tryd.pinned (.plain (OpenSpec.upto latinEncodesSpec)) latinEncodesUptoCard

/-- THE SECOND FORM's CARD OF 'captionerlaw22.LatinWhole'. -/
def latinWholeUptoCard : Claim7 := { stood := { row := latinWholeUptoRow, standIns := [], harness := (true, "e5afe764442e7fc6883bf1739cc20edc18d44172f8d7636aa37575cd5803d66c"), looks := false }, kinds := [], alts := [], laidByText := true, laidKinds := [.data, .pinned], laidTests := true, laidLooks := .later }
def LatinWholeUptoCardSaid : Prop := Claim7.holds Tryd.pinned (.plain (OpenSpec.upto latinWholeSpec)) latinWholeUptoCard

/-- THE SECOND FORM's CARD OF 'captionerlaw22.LatinDecodes'. -/
def latinDecodesUptoCard : Claim7 := { stood := { row := latinDecodesUptoRow, standIns := [], harness := (true, "e5afe764442e7fc6883bf1739cc20edc18d44172f8d7636aa37575cd5803d66c"), looks := false }, kinds := [], alts := [], laidByText := true, laidKinds := [.data, .pinned], laidTests := true, laidLooks := .later }
def LatinDecodesUptoCardSaid : Prop := Claim7.holds Tryd.pinned (.plain (OpenSpec.upto latinDecodesSpec)) latinDecodesUptoCard

/-- THE SECOND FORM's CARD OF 'captionerlaw22.LatinReturns'. -/
def latinReturnsUptoCard : Claim7 := { stood := { row := latinReturnsUptoRow, standIns := [], harness := (true, "e5afe764442e7fc6883bf1739cc20edc18d44172f8d7636aa37575cd5803d66c"), looks := false }, kinds := [], alts := [], laidByText := true, laidKinds := [.data, .pinned], laidTests := true, laidLooks := .later }
def LatinReturnsUptoCardSaid : Prop := Claim7.holds Tryd.pinned (.plain (OpenSpec.upto latinReturnsSpec)) latinReturnsUptoCard

/-- THE SECOND FORM's CARD OF 'captionerlaw22.LatinAgain'. -/
def latinAgainUptoCard : Claim7 := { stood := { row := latinAgainUptoRow, standIns := [], harness := (true, "e5afe764442e7fc6883bf1739cc20edc18d44172f8d7636aa37575cd5803d66c"), looks := false }, kinds := [], alts := [], laidByText := true, laidKinds := [.data, .pinned], laidTests := true, laidLooks := .later }
def LatinAgainUptoCardSaid : Prop := Claim7.holds Tryd.pinned (.plain (OpenSpec.upto latinAgainSpec)) latinAgainUptoCard
end Rows
end Go.Proofs.YtaemdlpikaakcaaDoor
