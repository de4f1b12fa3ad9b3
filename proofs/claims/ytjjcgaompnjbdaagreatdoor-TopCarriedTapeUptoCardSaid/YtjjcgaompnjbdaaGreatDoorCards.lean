/-
  DERIVED. GIVEN WITH THE SEED: THE CARDS: each row of YtjjcgaompnjbdaaGreatDoorRows.lean that lists a variable, with what it lists TIED to the program's text (the seventh form; the later family's looks); each row that meets fmt, with fmt's text TOLD by the authors' own Lean function (tested against real Go, not proved from fmt's source: count such statements apart). THE CARD IS WHAT COUNTS. Prove the row's statement (the work); the ties are given (YtjjcgaompnjbdaaGreatDoorTie.lean); close each card by the builder's one call (the guide's Derived/Test/ToyasCard.lean, 'card_holds'). Laid BY PROGRAM, IN A SANDBOX (cutbox-door.mjs). By AI agents, Wed Nov 11 2026. No macro, syntax, notation, axiom, sorry.
-/
import Derived.Test.YtjjcgaompnjbdaaGreatDoorRows
import GoSem.ClaimSeven
namespace Go.Proofs.YtjjcgaompnjbdaaGreatDoor
namespace Rows

/-- THE TIED CARD OF 'captionertop.TopRepair'. -/
def topRepairCard : Claim7 := { stood := { row := topRepairRow, standIns := [], harness := (true, "52bd87df01a21f40260040c2eafab06777cd8e24c44f65fd65bd852221d99be3"), looks := false }, kinds := [], alts := [], laidByText := true, laidKinds := [.data, .pinned], laidTests := true, laidLooks := .later }
def TopRepairCardSaid : Prop := Claim7.holds Tryz.pinned (.plain (OpenSpec.ofChange topRepairSpec)) topRepairCard

/-- THE TIED CARD OF 'captionertop.TopCarriedTape'. -/
def topCarriedTapeCard : Claim7 := { stood := { row := topCarriedTapeRow, standIns := [], harness := (true, "52bd87df01a21f40260040c2eafab06777cd8e24c44f65fd65bd852221d99be3"), looks := false }, kinds := [], alts := [], laidByText := true, laidKinds := [.data, .data, .data, .data, .pinned], laidTests := true, laidLooks := .later }
def TopCarriedTapeCardSaid : Prop := Claim7.holds Tryz.pinned (.plain (OpenSpec.ofChange topCarriedTapeSpec)) topCarriedTapeCard

/-- THE SECOND FORM's CARD OF 'captionertop.TopRepair'. -/
def topRepairUptoCard : Claim7 := { stood := { row := topRepairUptoRow, standIns := [], harness := (true, "52bd87df01a21f40260040c2eafab06777cd8e24c44f65fd65bd852221d99be3"), looks := false }, kinds := [], alts := [], laidByText := true, laidKinds := [.data, .pinned], laidTests := true, laidLooks := .later }
def TopRepairUptoCardSaid : Prop := Claim7.holds Tryz.pinned (.plain (OpenSpec.upto topRepairSpec)) topRepairUptoCard

/-- THE SECOND FORM's CARD OF 'captionertop.TopCarriedTape'. -/
def topCarriedTapeUptoCard : Claim7 := { stood := { row := topCarriedTapeUptoRow, standIns := [], harness := (true, "52bd87df01a21f40260040c2eafab06777cd8e24c44f65fd65bd852221d99be3"), looks := false }, kinds := [], alts := [], laidByText := true, laidKinds := [.data, .data, .data, .data, .pinned], laidTests := true, laidLooks := .later }
def TopCarriedTapeUptoCardSaid : Prop := Claim7.holds Tryz.pinned (.plain (OpenSpec.upto topCarriedTapeSpec)) topCarriedTapeUptoCard
end Rows
end Go.Proofs.YtjjcgaompnjbdaaGreatDoor
