/-
  style's reference, walked: Same, SameRows.
-/
import Derived.Test.YtjjcgaompnjbdaaDoorSyF
namespace Go.Gh
set_option linter.unusedSimpArgs false
set_option linter.unusedVariables false
set_option maxHeartbeats 4000000
open Go.RowKit
set_option maxRecDepth 4000

theorem RR.isSl {H : GHeap} {v : Value} {l : List SR} (h : RR H v l) : IsSl v l.length := h.rd.isSl
theorem RR.later {H H' : GHeap} {v : Value} {l : List SR} (h : RR H v l) (hw : H.wf) (hs : Same H H') : RR H' v l := GArg1.same h hw hs
theorem cells1 {v : Value} (h : flatV v = true) : (Value.agg #[v]).cells.toList = [v] := rfl
theorem RR.flat {H : GHeap} {v : Value} {l : List SR} (h : RR H v l) : flatV v = true := by
  obtain ⟨a, gc, e, _⟩ := h.sl
  rw [e]; exact flatV_sl
/-! ### tables of rows -/
abbrev VR' := Value × List SR
/-- a slice of rows -/
structure TR (H : GHeap) (v : Value) (L : List VR') : Prop where
  rd : GArg1 H 1 v L.length (L.map (·.1))
  rows : ∀ x ∈ L, RR H x.1 x.2
theorem TR.later {H H' : GHeap} {v : Value} {L : List VR'} (h : TR H v L) (hw : H.wf) (hs : Same H H') : TR H' v L := ⟨GArg1.same h.rd hw hs, fun x hx => (h.rows x hx).later hw hs⟩
theorem TR.row {H : GHeap} {v : Value} {L : List VR'} (h : TR H v L) {j : Nat} (hj : j < L.length) : H.rdn (blk v) (ofs v + j) 1 = some (rowV L[j]!.1) ∧ H.rd (blk v) (ofs v + j) = some L[j]!.1 ∧ RR H L[j]!.1 L[j]!.2 := by
  have h1 : H.rd (blk v) (ofs v + j) = some L[j]!.1 := by
    rw [h.rd.rd.rd (by simpa using hj), List.getElem?_map, gget hj]; rfl
  refine ⟨?_, h1, h.rows _ (by rw [getElem!_pos L j hj]; exact List.getElem_mem _)⟩
  have h0 := h.rd.rd.rdn (by decide) (c := j) (m := 1) (by decide) (by simp; omega)
  have e : (L.map (·.1)).drop j = L[j]!.1 :: (L.map (·.1)).drop (j + 1) := by
    rw [List.drop_eq_getElem_cons (by simpa using hj), List.getElem_map, getElem!_pos L j hj]
  rw [h0, e]; rfl
theorem TR.isSl {H : GHeap} {v : Value} {L : List VR'} (h : TR H v L) : IsSl v L.length := h.rd.rd.isSl
/-- short enough -/
def Shorts (L : List VR') : Prop := ∀ x ∈ L, x.2.length ≤ 4611686018427387904
theorem Shorts.at_ {L : List VR'} (h : Shorts L) {j : Nat} (hj : j < L.length) : L[j]!.2.length ≤ 4611686018427387904 := h _ (by rw [getElem!_pos L j hj]; exact List.getElem_mem _)
end Go.Gh
