/-
  style and its reference, walked: copies of rows.
-/
import Derived.Test.YtjjcgaompnjbdaaDoorSyA
namespace Go.Gh
set_option linter.unusedSimpArgs false
set_option linter.unusedVariables false
set_option maxHeartbeats 4000000
open Go.RowKit
set_option maxRecDepth 4000

/-- a table of rows of one's own -/
structure TO (H0 H : GHeap) (v : Value) (L : List VR') : Prop where
  own : OS 1 1 H0 H v L.length (L.map (·.1))
  rows : ∀ x ∈ L, OR H0 H x.1 x.2
theorem TO.tr {H0 H : GHeap} {v : Value} {L : List VR'} (h : TO H0 H v L) : TR H v L := ⟨OwnG.arg h.own.same.wf h.own.own (.inr rfl), fun x hx => (h.rows x hx).rr⟩
theorem TO.later {H0 H H' : GHeap} {v : Value} {L : List VR'} (h : TO H0 H v L) (hs : Same H H') : TO H0 H' v L := ⟨h.own.later hs, fun x hx => (h.rows x hx).later hs⟩
theorem TO.snoc {H0 H : GHeap} {v : Value} {L : List VR'} (h : TO H0 H v L) {w : Value} {l : List SR} (hx : OR H0 H w l) (hl : (L.length + 1) * 24 ≤ 140737488355328) :
    ∃ v' H', gapp 1 24 1 (H.add (some (.cells [w] 1 true))) v (.slice (some ⟨H.len, 0, none⟩) 1 2) = some (v', H') ∧ TO H0 H' v' (L ++ [(w, l)]) ∧ But (fun j => j ∈ idOf v) H H' := by
  obtain ⟨v', H', e, hO, hB⟩ := h.own.app1 (by decide) (by decide) (news := [w]) rfl (b := 24) hl (by omega)
  refine ⟨v', H', e, ⟨by simpa using hO, fun y hy => ?_⟩, hB⟩
  have : OR H0 H y.1 y.2 := by
    rcases List.mem_append.1 hy with hy | hy
    · exact h.rows y hy
    · rw [List.mem_singleton.1 hy]; exact hx
  exact this.but hB (fun k hk ha => by have := (h.own.ids ha).1; omega) (this.unit_ne h.own (by decide))
end Go.Gh
