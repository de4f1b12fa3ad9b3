/-
  DERIVED. GIVEN WITH THE SEED: THE CARDS: each row of YtbhgpiakeimmlaaDoorRows.lean that lists a variable, with what it lists TIED to the program's text (the seventh form; the later family's looks); each row that meets fmt, with fmt's text TOLD by the authors' own Lean function (tested against real Go, not proved from fmt's source: count such statements apart). THE CARD IS WHAT COUNTS. Prove the row's statement (the work); the ties are given (YtbhgpiakeimmlaaDoorTie.lean); close each card by the builder's one call (the guide's Derived/Test/ToyasCard.lean, 'card_holds'). Laid BY PROGRAM, IN A SANDBOX (cutbox-door.mjs). By AI agents, Wed Nov 11 2026. No macro, syntax, notation, axiom, sorry.
-/
import Derived.Test.YtbhgpiakeimmlaaDoorRows
import GoSem.ClaimSeven
namespace Go.Proofs.YtbhgpiakeimmlaaDoor
namespace Rows

/-- THE TIED CARD OF 'captionerlaw36.RowbreakCosts'. -/
def rowbreakCostsCard : Claim7 := { stood := { row := rowbreakCostsRow, standIns := [], harness := (true, "fe334a95a74973bb268bd00f9d54a82f723b02fa1d9997f2a37e62b0585fb48f"), looks := false }, kinds := [], alts := [], laidByText := true, laidKinds := [.data, .pinned], laidTests := true, laidLooks := .later }
def RowbreakCostsCardSaid : Prop := Claim7.holds Tryd.pinned (.plain (OpenSpec.ofChange rowbreakCostsSpec)) rowbreakCostsCard

/-- THE TIED CARD OF 'captionerlaw36.RowbreakBreaks'. -/
def rowbreakBreaksCard : Claim7 := { stood := { row := rowbreakBreaksRow, standIns := [], harness := (true, "fe334a95a74973bb268bd00f9d54a82f723b02fa1d9997f2a37e62b0585fb48f"), looks := false }, kinds := [], alts := [], laidByText := true, laidKinds := [.data, .pinned], laidTests := true, laidLooks := .later }
def RowbreakBreaksCardSaid : Prop := Claim7.holds Tryd.pinned (.plain (OpenSpec.ofChange rowbreakBreaksSpec)) rowbreakBreaksCard

/-- THE TIED CARD OF 'captionerlaw36.RowbreakMore'. -/
def rowbreakMoreCard : Claim7 := { stood := { row := rowbreakMoreRow, standIns := [], harness := (true, "fe334a95a74973bb268bd00f9d54a82f723b02fa1d9997f2a37e62b0585fb48f"), looks := false }, kinds := [], alts := [], laidByText := true, laidKinds := [.data, .pinned], laidTests := true, laidLooks := .later }
def RowbreakMoreCardSaid : Prop := Claim7.holds Tryd.pinned (.plain (OpenSpec.ofChange rowbreakMoreSpec)) rowbreakMoreCard

/-- THE TIED CARD OF 'captionerlaw36.RowbreakWords'. -/
def rowbreakWordsCard : Claim7 := { stood := { row := rowbreakWordsRow, standIns := [], harness := (true, "fe334a95a74973bb268bd00f9d54a82f723b02fa1d9997f2a37e62b0585fb48f"), looks := false }, kinds := [], alts := [], laidByText := true, laidKinds := [.data, .pinned], laidTests := true, laidLooks := .later }
def RowbreakWordsCardSaid : Prop := Claim7.holds Tryd.pinned (.plain (OpenSpec.ofChange rowbreakWordsSpec)) rowbreakWordsCard

/-- THE TIED CARD OF 'captionerlaw36.RowbreakLeast'. -/
def rowbreakLeastCard : Claim7 := { stood := { row := rowbreakLeastRow, standIns := [], harness := (true, "fe334a95a74973bb268bd00f9d54a82f723b02fa1d9997f2a37e62b0585fb48f"), looks := false }, kinds := [], alts := [], laidByText := true, laidKinds := [.data, .pinned], laidTests := true, laidLooks := .later }
def RowbreakLeastCardSaid : Prop := Claim7.holds Tryd.pinned (.plain (OpenSpec.ofChange rowbreakLeastSpec)) rowbreakLeastCard

/-- THE TIED CARD OF 'captionerlaw36.RowbreakProves'. -/
def rowbreakProvesCard : Claim7 := { stood := { row := rowbreakProvesRow, standIns := [], harness := (true, "fe334a95a74973bb268bd00f9d54a82f723b02fa1d9997f2a37e62b0585fb48f"), looks := false }, kinds := [], alts := [], laidByText := true, laidKinds := [.data, .pinned], laidTests := true, laidLooks := .later }
def RowbreakProvesCardSaid : Prop := Claim7.holds Tryd.pinned (.plain (OpenSpec.ofChange rowbreakProvesSpec)) rowbreakProvesCard

/-- THE TIED CARD OF 'captionerlaw36.RowbreakSound'. -/
def rowbreakSoundCard : Claim7 := { stood := { row := rowbreakSoundRow, standIns := [], harness := (true, "fe334a95a74973bb268bd00f9d54a82f723b02fa1d9997f2a37e62b0585fb48f"), looks := false }, kinds := [], alts := [], laidByText := true, laidKinds := [.data, .pinned], laidTests := true, laidLooks := .later }
def RowbreakSoundCardSaid : Prop := Claim7.holds Tryd.pinned (.plain (OpenSpec.ofChange rowbreakSoundSpec)) rowbreakSoundCard

/-- THE SECOND FORM's CARD OF 'captionerlaw36.RowbreakCosts'. -/
def rowbreakCostsUptoCard : Claim7 := { stood := { row := rowbreakCostsUptoRow, standIns := [], harness := (true, "fe334a95a74973bb268bd00f9d54a82f723b02fa1d9997f2a37e62b0585fb48f"), looks := false }, kinds := [], alts := [], laidByText := true, laidKinds := [.data, .pinned], laidTests := true, laidLooks := .later }
def RowbreakCostsUptoCardSaid : Prop := Claim7.holds Tryd.pinned (.plain (OpenSpec.upto rowbreakCostsSpec)) rowbreakCostsUptoCard

/-- THE SECOND FORM's CARD OF 'captionerlaw36.RowbreakBreaks'. -/
def rowbreakBreaksUptoCard : Claim7 := { stood := { row := rowbreakBreaksUptoRow, standIns := [], harness := (true, "fe334a95a74973bb268bd00f9d54a82f723b02fa1d9997f2a37e62b0585fb48f"), looks := false }, kinds := [], alts := [], laidByText := true, laidKinds := [.data, .pinned], laidTests := true, laidLooks := .later }
def RowbreakBreaksUptoCardSaid : Prop := Claim7.holds Tryd.pinned (.plain (OpenSpec.upto rowbreakBreaksSpec)) rowbreakBreaksUptoCard

/-- THE SECOND FORM's CARD OF 'captionerlaw36.RowbreakMore'. -/
def rowbreakMoreUptoCard : Claim7 := { stood := { row := rowbreakMoreUptoRow, standIns := [], harness := (true, "fe334a95a74973bb268bd00f9d54a82f723b02fa1d9997f2a37e62b0585fb48f"), looks := false }, kinds := [], alts := [], laidByText := true, laidKinds := [.data, .pinned], laidTests := true, laidLooks := .later }
def RowbreakMoreUptoCardSaid : Prop := Claim7.holds Tryd.pinned (.plain (OpenSpec.upto rowbreakMoreSpec)) rowbreakMoreUptoCard

/-- THE SECOND FORM's CARD OF 'captionerlaw36.RowbreakWords'. -/
def rowbreakWordsUptoCard : Claim7 := { stood := { row := rowbreakWordsUptoRow, standIns := [], harness := (true, "fe334a95a74973bb268bd00f9d54a82f723b02fa1d9997f2a37e62b0585fb48f"), looks := false }, kinds := [], alts := [], laidByText := true, laidKinds := [.data, .pinned], laidTests := true, laidLooks := .later }
def RowbreakWordsUptoCardSaid : Prop := Claim7.holds Tryd.pinned (.plain (OpenSpec.upto rowbreakWordsSpec)) rowbreakWordsUptoCard

/-- THE SECOND FORM's CARD OF 'captionerlaw36.RowbreakLeast'. -/
def rowbreakLeastUptoCard : Claim7 := { stood := { row := rowbreakLeastUptoRow, standIns := [], harness := (true, "fe334a95a74973bb268bd00f9d54a82f723b02fa1d9997f2a37e62b0585fb48f"), looks := false }, kinds := [], alts := [], laidByText := true, laidKinds := [.data, .pinned], laidTests := true, laidLooks := .later }
def RowbreakLeastUptoCardSaid : Prop := Claim7.holds Tryd.pinned (.plain (OpenSpec.upto rowbreakLeastSpec)) rowbreakLeastUptoCard

/-- THE SECOND FORM's CARD OF 'captionerlaw36.RowbreakProves'. -/
def rowbreakProvesUptoCard : Claim7 := { stood := { row := rowbreakProvesUptoRow, standIns := [], harness := (true, "fe334a95a74973bb268bd00f9d54a82f723b02fa1d9997f2a37e62b0585fb48f"), looks := false }, kinds := [], alts := [], laidByText := true, laidKinds := [.data, .pinned], laidTests := true, laidLooks := .later }
def RowbreakProvesUptoCardSaid : Prop := Claim7.holds Tryd.pinned (.plain (OpenSpec.upto rowbreakProvesSpec)) rowbreakProvesUptoCard

/-- THE SECOND FORM's CARD OF 'captionerlaw36.RowbreakSound'. -/
def rowbreakSoundUptoCard : Claim7 := { stood := { row := rowbreakSoundUptoRow, standIns := [], harness := (true, "fe334a95a74973bb268bd00f9d54a82f723b02fa1d9997f2a37e62b0585fb48f"), looks := false }, kinds := [], alts := [], laidByText := true, laidKinds := [.data, .pinned], laidTests := true, laidLooks := .later }
def RowbreakSoundUptoCardSaid : Prop := Claim7.holds Tryd.pinned (.plain (OpenSpec.upto rowbreakSoundSpec)) rowbreakSoundUptoCard
end Rows
end Go.Proofs.YtbhgpiakeimmlaaDoor
