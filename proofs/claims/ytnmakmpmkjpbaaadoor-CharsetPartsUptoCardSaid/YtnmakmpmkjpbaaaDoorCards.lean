/-
  DERIVED. GIVEN WITH THE SEED: THE CARDS: each row of YtnmakmpmkjpbaaaDoorRows.lean that lists a variable, with what it lists TIED to the program's text (the seventh form; the later family's looks); each row that meets fmt, with fmt's text TOLD by the authors' own Lean function (tested against real Go, not proved from fmt's source: count such statements apart). THE CARD IS WHAT COUNTS. Prove the row's statement (the work); the ties are given (YtnmakmpmkjpbaaaDoorTie.lean); close each card by the builder's one call (the guide's Derived/Test/ToyasCard.lean, 'card_holds'). Laid BY PROGRAM, IN A SANDBOX (cutbox-door.mjs). By AI agents, Wed Nov 11 2026. No macro, syntax, notation, axiom, sorry.
-/
import Derived.Test.YtnmakmpmkjpbaaaDoorRows
import GoSem.ClaimSeven
namespace Go.Proofs.YtnmakmpmkjpbaaaDoor
namespace Rows

/-- THE TIED CARD OF 'captionerlaw08.CharsetOrders'. -/
def charsetOrdersCard : Claim7 := { stood := { row := charsetOrdersRow, standIns := [], harness := (true, "1ea71bdf38e501074a08d8379d53ea289250b60ec58b16e4089368087d519b0e"), looks := false }, kinds := [], alts := [], laidByText := true, laidKinds := [.data, .pinned], laidTests := true, laidLooks := .later }
def CharsetOrdersCardSaid : Prop := Claim7.holds Tryd.pinned (.plain (OpenSpec.ofChange charsetOrdersSpec)) charsetOrdersCard

/-- THE TIED CARD OF 'captionerlaw08.CharsetStrings'. -/
def charsetStringsCard : Claim7 := { stood := { row := charsetStringsRow, standIns := [], harness := (true, "1ea71bdf38e501074a08d8379d53ea289250b60ec58b16e4089368087d519b0e"), looks := false }, kinds := [], alts := [], laidByText := true, laidKinds := [.data, .pinned], laidTests := true, laidLooks := .later }
def CharsetStringsCardSaid : Prop := Claim7.holds Tryd.pinned (.plain (OpenSpec.ofChange charsetStringsSpec)) charsetStringsCard

/-- THE TIED CARD OF 'captionerlaw08.CharsetLists'. -/
def charsetListsCard : Claim7 := { stood := { row := charsetListsRow, standIns := [], harness := (true, "1ea71bdf38e501074a08d8379d53ea289250b60ec58b16e4089368087d519b0e"), looks := false }, kinds := [], alts := [], laidByText := true, laidKinds := [.data, .pinned], laidTests := true, laidLooks := .later }
def CharsetListsCardSaid : Prop := Claim7.holds Tryd.pinned (.plain (OpenSpec.ofChange charsetListsSpec)) charsetListsCard

/-- THE TIED CARD OF 'captionerlaw08.CharsetParts'. -/
def charsetPartsCard : Claim7 := { stood := { row := charsetPartsRow, standIns := [], harness := (true, "1ea71bdf38e501074a08d8379d53ea289250b60ec58b16e4089368087d519b0e"), looks := false }, kinds := [], alts := [], laidByText := true, laidKinds := [.data, .pinned], laidTests := true, laidLooks := .later }
def CharsetPartsCardSaid : Prop := Claim7.holds Tryd.pinned (.plain (OpenSpec.ofChange charsetPartsSpec)) charsetPartsCard

/-- THE TIED CARD OF 'captionerlaw08.CharsetCases'. -/
def charsetCasesCard : Claim7 := { stood := { row := charsetCasesRow, standIns := [], harness := (true, "1ea71bdf38e501074a08d8379d53ea289250b60ec58b16e4089368087d519b0e"), looks := false }, kinds := [], alts := [], laidByText := true, laidKinds := [.data, .pinned], laidTests := true, laidLooks := .later }
def CharsetCasesCardSaid : Prop := Claim7.holds Tryd.pinned (.plain (OpenSpec.ofChange charsetCasesSpec)) charsetCasesCard

/-- THE TIED CARD OF 'captionerlaw08.CharsetTables'. -/
def charsetTablesCard : Claim7 := { stood := { row := charsetTablesRow, standIns := [], harness := (true, "1ea71bdf38e501074a08d8379d53ea289250b60ec58b16e4089368087d519b0e"), looks := false }, kinds := [], alts := [], laidByText := true, laidKinds := [.data, .pinned], laidTests := true, laidLooks := .later }
def CharsetTablesCardSaid : Prop := Claim7.holds Tryd.pinned (.plain (OpenSpec.ofChange charsetTablesSpec)) charsetTablesCard

/-- THE SECOND FORM's CARD OF 'captionerlaw08.CharsetOrders'. -/
def charsetOrdersUptoCard : Claim7 := { stood := { row := charsetOrdersUptoRow, standIns := [], harness := (true, "1ea71bdf38e501074a08d8379d53ea289250b60ec58b16e4089368087d519b0e"), looks := false }, kinds := [], alts := [], laidByText := true, laidKinds := [.data, .pinned], laidTests := true, laidLooks := .later }
def CharsetOrdersUptoCardSaid : Prop := Claim7.holds Tryd.pinned (.plain (OpenSpec.upto charsetOrdersSpec)) charsetOrdersUptoCard

/-- THE SECOND FORM's CARD OF 'captionerlaw08.CharsetStrings'. -/
def charsetStringsUptoCard : Claim7 := { stood := { row := charsetStringsUptoRow, standIns := [], harness := (true, "1ea71bdf38e501074a08d8379d53ea289250b60ec58b16e4089368087d519b0e"), looks := false }, kinds := [], alts := [], laidByText := true, laidKinds := [.data, .pinned], laidTests := true, laidLooks := .later }
def CharsetStringsUptoCardSaid : Prop := Claim7.holds Tryd.pinned (.plain (OpenSpec.upto charsetStringsSpec)) charsetStringsUptoCard

/-- THE SECOND FORM's CARD OF 'captionerlaw08.CharsetLists'. -/
def charsetListsUptoCard : Claim7 := { stood := { row := charsetListsUptoRow, standIns := [], harness := (true, "1ea71bdf38e501074a08d8379d53ea289250b60ec58b16e4089368087d519b0e"), looks := false }, kinds := [], alts := [], laidByText := true, laidKinds := [.data, .pinned], laidTests := true, laidLooks := .later }
def CharsetListsUptoCardSaid : Prop := Claim7.holds Tryd.pinned (.plain (OpenSpec.upto charsetListsSpec)) charsetListsUptoCard

/-- THE SECOND FORM's CARD OF 'captionerlaw08.CharsetParts'. -/
def charsetPartsUptoCard : Claim7 := { stood := { row := charsetPartsUptoRow, standIns := [], harness := (true, "1ea71bdf38e501074a08d8379d53ea289250b60ec58b16e4089368087d519b0e"), looks := false }, kinds := [], alts := [], laidByText := true, laidKinds := [.data, .pinned], laidTests := true, laidLooks := .later }
def CharsetPartsUptoCardSaid : Prop := Claim7.holds Tryd.pinned (.plain (OpenSpec.upto charsetPartsSpec)) charsetPartsUptoCard

/-- THE SECOND FORM's CARD OF 'captionerlaw08.CharsetCases'. -/
def charsetCasesUptoCard : Claim7 := { stood := { row := charsetCasesUptoRow, standIns := [], harness := (true, "1ea71bdf38e501074a08d8379d53ea289250b60ec58b16e4089368087d519b0e"), looks := false }, kinds := [], alts := [], laidByText := true, laidKinds := [.data, .pinned], laidTests := true, laidLooks := .later }
def CharsetCasesUptoCardSaid : Prop := Claim7.holds Tryd.pinned (.plain (OpenSpec.upto charsetCasesSpec)) charsetCasesUptoCard

/-- THE SECOND FORM's CARD OF 'captionerlaw08.CharsetTables'. -/
def charsetTablesUptoCard : Claim7 := { stood := { row := charsetTablesUptoRow, standIns := [], harness := (true, "1ea71bdf38e501074a08d8379d53ea289250b60ec58b16e4089368087d519b0e"), looks := false }, kinds := [], alts := [], laidByText := true, laidKinds := [.data, .pinned], laidTests := true, laidLooks := .later }
def CharsetTablesUptoCardSaid : Prop := Claim7.holds Tryd.pinned (.plain (OpenSpec.upto charsetTablesSpec)) charsetTablesUptoCard
end Rows
end Go.Proofs.YtnmakmpmkjpbaaaDoor
