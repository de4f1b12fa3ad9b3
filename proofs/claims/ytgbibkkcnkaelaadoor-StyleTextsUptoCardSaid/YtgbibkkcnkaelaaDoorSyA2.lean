/-
  style: arguments that are rows; calls where the order is open.
-/
import Derived.Test.YtgbibkkcnkaelaaDoorSyN3
namespace Go.Gh
set_option linter.unusedSimpArgs false
set_option linter.unusedVariables false
open Go.RowKit
set_option maxRecDepth 4000

theorem RR.up {H : GHeap} {v : Value} {l : List SR} (h : RR H v l) : RR H.up v l := ⟨h.rd, h.sl⟩
theorem TR.up {H : GHeap} {v : Value} {l : List VR'} (h : TR H v l) : TR H.up v l := ⟨⟨h.rd.rd, h.rd.sl⟩, fun x hx => (h.rows x hx).up⟩
/-- an argument that is a row -/
structure ArgR (H : GHeap) (a : Value) (A : List SR) : Prop where
  rr : RR H a A
  len : A.length ≤ 1048576
  each : ∀ x ∈ A, x.t.length ≤ 1048576 ∧ x.y.length ≤ 1048576
theorem ArgR.later {H H' : GHeap} {a : Value} {A : List SR} (h : ArgR H a A) (hw : H.wf) (hs : Same H H') : ArgR H' a A := ⟨h.rr.later hw hs, h.len, h.each⟩
theorem drop_bangR {l : List SR} {n : Nat} (h : n < l.length) : l.drop n = l[n]! :: l.drop (n + 1) := by rw [List.drop_eq_getElem_cons h, getElem!_pos l n h]
end Go.Gh
