/-
  DERIVED. GIVEN WITH THE SEED: THE CARDS: each row of YtjjcgaompnjbdaaDoorRows.lean that lists a variable, with what it lists TIED to the program's text (the seventh form; the later family's looks); each row that meets fmt, with fmt's text TOLD by the authors' own Lean function (tested against real Go, not proved from fmt's source: count such statements apart). THE CARD IS WHAT COUNTS. Prove the row's statement (the work); the ties are given (YtjjcgaompnjbdaaDoorTie.lean); close each card by the builder's one call (the guide's Derived/Test/ToyasCard.lean, 'card_holds'). Laid BY PROGRAM, IN A SANDBOX (cutbox-door.mjs). By AI agents, Wed Nov 11 2026. No macro, syntax, notation, axiom, sorry.
-/
import Derived.Test.YtjjcgaompnjbdaaDoorRows
import GoSem.ClaimSeven
namespace Go.Proofs.YtjjcgaompnjbdaaDoor
namespace Rows

/-- THE TIED CARD OF 'captionertop.TopRetimed'. -/
def topRetimedCard : Claim7 := { stood := { row := topRetimedRow, standIns := [], harness := (true, "4846fbf65621aaeed50c99e5992986cafac85671ae4129b44458ce898cc9a599"), looks := false }, kinds := [], alts := [], laidByText := true, laidKinds := [.data, .pinned], laidTests := true, laidLooks := .later }
def TopRetimedCardSaid : Prop := Claim7.holds Tryd.pinned (.plain (OpenSpec.ofChange topRetimedSpec)) topRetimedCard

/-- THE SECOND FORM's CARD OF 'captionertop.TopRetimed'. -/
def topRetimedUptoCard : Claim7 := { stood := { row := topRetimedUptoRow, standIns := [], harness := (true, "4846fbf65621aaeed50c99e5992986cafac85671ae4129b44458ce898cc9a599"), looks := false }, kinds := [], alts := [], laidByText := true, laidKinds := [.data, .pinned], laidTests := true, laidLooks := .later }
def TopRetimedUptoCardSaid : Prop := Claim7.holds Tryd.pinned (.plain (OpenSpec.upto topRetimedSpec)) topRetimedUptoCard
end Rows
end Go.Proofs.YtjjcgaompnjbdaaDoor
