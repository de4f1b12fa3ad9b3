/-
  style: runs of one's own; arguments that are rows.
-/
import Derived.Test.YtgbibkkcnkaelaaDoorSyK1
namespace Go.Gh
set_option linter.unusedSimpArgs false
set_option linter.unusedVariables false
open Go.RowKit
set_option maxRecDepth 4000

/-- runs of one's own -/
abbrev OR (H0 H : GHeap) (v : Value) (l : List SR) : Prop := OS 5 5 H0 H v l.length (RunsC l)
theorem OR.rr {H0 H : GHeap} {v : Value} {l : List SR} (h : OR H0 H v l) : RR H v l := OwnG.arg h.same.wf h.own (.inr rfl)
theorem OR.flat {H0 H : GHeap} {v : Value} {l : List SR} (h : OR H0 H v l) : flatV v = true := h.rr.flat
def runShp : Shp := .st [.str, .st [.int .u8, .bool, .bool], .str]
theorem run_of {Q : Nat → Prop} {H : GHeap} {r : List Value} (h : RdSQ Q H runShp r) : ∃ x : SR, r = runC x := by
  simp only [runShp, RdSQ, RdSsQ] at h
  obtain ⟨_, _, rfl, ⟨s, rfl, _⟩, _, _, rfl, ⟨_, _, rfl, ⟨c, rfl, _⟩, _, _, rfl, ⟨i, rfl⟩, _, _, rfl, ⟨u, rfl⟩, rfl⟩, _, _, rfl, ⟨y, rfl, _⟩, rfl⟩ := h
  refine ⟨⟨s.data.toList, ⟨c, i, u⟩, y.data.toList⟩, ?_⟩
  simp [runC, strB_of]
end Go.Gh
