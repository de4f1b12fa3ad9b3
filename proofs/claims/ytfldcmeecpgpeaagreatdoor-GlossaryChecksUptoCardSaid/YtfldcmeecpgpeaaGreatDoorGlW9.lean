/-
  lines' reference, walked: the lines of a text and its diagnostics.
-/
import Derived.Test.YtfldcmeecpgpeaaGreatDoorGlW8
import Derived.Test.YtfldcmeecpgpeaaGreatDoorGlWC
namespace Go.Gh
set_option linter.unusedSimpArgs false
set_option linter.unusedVariables false
set_option maxHeartbeats 4000000
open Go.RowKit Go.Lib
set_option maxRecDepth 4000
theorem DgR.pre {H : GHeap} (hw : H.wf) {v : Value} {D : List Dg} (h : GArg1 H 3 v D.length (DgC D)) {b : Nat} (hb : b ≤ D.length) :
    ∃ v', (∀ H', Same H H' → gslice (.sl 3) H' v none (some (.int .i64 (b : Int))) none = some v') ∧ GArg1 H 3 v' (D.take b).length (DgC (D.take b)) := by
  obtain ⟨v', e, h1⟩ := h.preI hw hb
  refine ⟨v', e, ?_⟩
  rw [DgC_take] at h1
  rw [List.length_take, Nat.min_eq_left hb]; exact h1
end Go.Gh
