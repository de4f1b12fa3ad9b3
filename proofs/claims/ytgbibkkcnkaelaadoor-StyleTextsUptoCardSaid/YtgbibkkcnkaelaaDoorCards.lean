/-
  DERIVED. GIVEN WITH THE SEED: THE CARDS: each row of YtgbibkkcnkaelaaDoorRows.lean that lists a variable, with what it lists TIED to the program's text (the seventh form; the later family's looks); each row that meets fmt, with fmt's text TOLD by the authors' own Lean function (tested against real Go, not proved from fmt's source: count such statements apart). THE CARD IS WHAT COUNTS. Prove the row's statement (the work); the ties are given (YtgbibkkcnkaelaaDoorTie.lean); close each card by the builder's one call (the guide's Derived/Test/ToyasCard.lean, 'card_holds'). Laid BY PROGRAM, IN A SANDBOX (cutbox-door.mjs). By AI agents, Wed Nov 11 2026. No macro, syntax, notation, axiom, sorry.
-/
import Derived.Test.YtgbibkkcnkaelaaDoorRows
import GoSem.ClaimSeven
namespace Go.Proofs.YtgbibkkcnkaelaaDoor
namespace Rows

/-- THE TIED CARD OF 'captionerlaw09.StyleParts'. -/
def stylePartsCard : Claim7 := { stood := { row := stylePartsRow, standIns := [], harness := (true, "2e6879972c0331058ae5ac2ca9d386a966b0523deb56b25518ebc13d8d1175de"), looks := false }, kinds := [], alts := [], laidByText := true, laidKinds := [.data, .pinned], laidTests := true, laidLooks := .later }
def StylePartsCardSaid : Prop := Claim7.holds Tryd.pinned (.plain (OpenSpec.ofChange stylePartsSpec)) stylePartsCard

/-- THE TIED CARD OF 'captionerlaw09.StyleCuts'. -/
def styleCutsCard : Claim7 := { stood := { row := styleCutsRow, standIns := [], harness := (true, "2e6879972c0331058ae5ac2ca9d386a966b0523deb56b25518ebc13d8d1175de"), looks := false }, kinds := [], alts := [], laidByText := true, laidKinds := [.data, .pinned], laidTests := true, laidLooks := .later }
def StyleCutsCardSaid : Prop := Claim7.holds Tryd.pinned (.plain (OpenSpec.ofChange styleCutsSpec)) styleCutsCard

/-- THE TIED CARD OF 'captionerlaw09.StyleMarks'. -/
def styleMarksCard : Claim7 := { stood := { row := styleMarksRow, standIns := [], harness := (true, "2e6879972c0331058ae5ac2ca9d386a966b0523deb56b25518ebc13d8d1175de"), looks := false }, kinds := [], alts := [], laidByText := true, laidKinds := [.data, .pinned], laidTests := true, laidLooks := .later }
def StyleMarksCardSaid : Prop := Claim7.holds Tryd.pinned (.plain (OpenSpec.ofChange styleMarksSpec)) styleMarksCard

/-- THE TIED CARD OF 'captionerlaw09.StyleParses'. -/
def styleParsesCard : Claim7 := { stood := { row := styleParsesRow, standIns := [], harness := (true, "2e6879972c0331058ae5ac2ca9d386a966b0523deb56b25518ebc13d8d1175de"), looks := false }, kinds := [], alts := [], laidByText := true, laidKinds := [.data, .pinned], laidTests := true, laidLooks := .later }
def StyleParsesCardSaid : Prop := Claim7.holds Tryd.pinned (.plain (OpenSpec.ofChange styleParsesSpec)) styleParsesCard

/-- THE TIED CARD OF 'captionerlaw09.StyleTexts'. -/
def styleTextsCard : Claim7 := { stood := { row := styleTextsRow, standIns := [], harness := (true, "2e6879972c0331058ae5ac2ca9d386a966b0523deb56b25518ebc13d8d1175de"), looks := false }, kinds := [], alts := [], laidByText := true, laidKinds := [.data, .pinned], laidTests := true, laidLooks := .later }
def StyleTextsCardSaid : Prop := Claim7.holds Tryd.pinned (.plain (OpenSpec.ofChange styleTextsSpec)) styleTextsCard

/-- THE TIED CARD OF 'captionerlaw09.StyleKeeps'. -/
def styleKeepsCard : Claim7 := { stood := { row := styleKeepsRow, standIns := [], harness := (true, "2e6879972c0331058ae5ac2ca9d386a966b0523deb56b25518ebc13d8d1175de"), looks := false }, kinds := [], alts := [], laidByText := true, laidKinds := [.data, .pinned], laidTests := true, laidLooks := .later }
def StyleKeepsCardSaid : Prop := Claim7.holds Tryd.pinned (.plain (OpenSpec.ofChange styleKeepsSpec)) styleKeepsCard

/-- THE TIED CARD OF 'captionerlaw09.StyleChecks'. -/
def styleChecksCard : Claim7 := { stood := { row := styleChecksRow, standIns := [], harness := (true, "2e6879972c0331058ae5ac2ca9d386a966b0523deb56b25518ebc13d8d1175de"), looks := false }, kinds := [], alts := [], laidByText := true, laidKinds := [.data, .pinned], laidTests := true, laidLooks := .later }
def StyleChecksCardSaid : Prop := Claim7.holds Tryd.pinned (.plain (OpenSpec.ofChange styleChecksSpec)) styleChecksCard

/-- THE SECOND FORM's CARD OF 'captionerlaw09.StyleParts'. -/
def stylePartsUptoCard : Claim7 := { stood := { row := stylePartsUptoRow, standIns := [], harness := (true, "2e6879972c0331058ae5ac2ca9d386a966b0523deb56b25518ebc13d8d1175de"), looks := false }, kinds := [], alts := [], laidByText := true, laidKinds := [.data, .pinned], laidTests := true, laidLooks := .later }
def StylePartsUptoCardSaid : Prop := Claim7.holds Tryd.pinned (.plain (OpenSpec.upto stylePartsSpec)) stylePartsUptoCard

/-- THE SECOND FORM's CARD OF 'captionerlaw09.StyleCuts'. -/
def styleCutsUptoCard : Claim7 := { stood := { row := styleCutsUptoRow, standIns := [], harness := (true, "2e6879972c0331058ae5ac2ca9d386a966b0523deb56b25518ebc13d8d1175de"), looks := false }, kinds := [], alts := [], laidByText := true, laidKinds := [.data, .pinned], laidTests := true, laidLooks := .later }
def StyleCutsUptoCardSaid : Prop := Claim7.holds Tryd.pinned (.plain (OpenSpec.upto styleCutsSpec)) styleCutsUptoCard

/-- THE SECOND FORM's CARD OF 'captionerlaw09.StyleMarks'. -/
def styleMarksUptoCard : Claim7 := { stood := { row := styleMarksUptoRow, standIns := [], harness := (true, "2e6879972c0331058ae5ac2ca9d386a966b0523deb56b25518ebc13d8d1175de"), looks := false }, kinds := [], alts := [], laidByText := true, laidKinds := [.data, .pinned], laidTests := true, laidLooks := .later }
def StyleMarksUptoCardSaid : Prop := Claim7.holds Tryd.pinned (.plain (OpenSpec.upto styleMarksSpec)) styleMarksUptoCard

/-- THE SECOND FORM's CARD OF 'captionerlaw09.StyleParses'. -/
def styleParsesUptoCard : Claim7 := { stood := { row := styleParsesUptoRow, standIns := [], harness := (true, "2e6879972c0331058ae5ac2ca9d386a966b0523deb56b25518ebc13d8d1175de"), looks := false }, kinds := [], alts := [], laidByText := true, laidKinds := [.data, .pinned], laidTests := true, laidLooks := .later }
def StyleParsesUptoCardSaid : Prop := Claim7.holds Tryd.pinned (.plain (OpenSpec.upto styleParsesSpec)) styleParsesUptoCard

/-- THE SECOND FORM's CARD OF 'captionerlaw09.StyleTexts'. -/
def styleTextsUptoCard : Claim7 := { stood := { row := styleTextsUptoRow, standIns := [], harness := (true, "2e6879972c0331058ae5ac2ca9d386a966b0523deb56b25518ebc13d8d1175de"), looks := false }, kinds := [], alts := [], laidByText := true, laidKinds := [.data, .pinned], laidTests := true, laidLooks := .later }
def StyleTextsUptoCardSaid : Prop := Claim7.holds Tryd.pinned (.plain (OpenSpec.upto styleTextsSpec)) styleTextsUptoCard

/-- THE SECOND FORM's CARD OF 'captionerlaw09.StyleKeeps'. -/
def styleKeepsUptoCard : Claim7 := { stood := { row := styleKeepsUptoRow, standIns := [], harness := (true, "2e6879972c0331058ae5ac2ca9d386a966b0523deb56b25518ebc13d8d1175de"), looks := false }, kinds := [], alts := [], laidByText := true, laidKinds := [.data, .pinned], laidTests := true, laidLooks := .later }
def StyleKeepsUptoCardSaid : Prop := Claim7.holds Tryd.pinned (.plain (OpenSpec.upto styleKeepsSpec)) styleKeepsUptoCard

/-- THE SECOND FORM's CARD OF 'captionerlaw09.StyleChecks'. -/
def styleChecksUptoCard : Claim7 := { stood := { row := styleChecksUptoRow, standIns := [], harness := (true, "2e6879972c0331058ae5ac2ca9d386a966b0523deb56b25518ebc13d8d1175de"), looks := false }, kinds := [], alts := [], laidByText := true, laidKinds := [.data, .pinned], laidTests := true, laidLooks := .later }
def StyleChecksUptoCardSaid : Prop := Claim7.holds Tryd.pinned (.plain (OpenSpec.upto styleChecksSpec)) styleChecksUptoCard
end Rows
end Go.Proofs.YtgbibkkcnkaelaaDoor
