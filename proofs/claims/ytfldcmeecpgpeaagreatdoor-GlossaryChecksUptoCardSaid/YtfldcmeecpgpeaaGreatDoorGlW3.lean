/-
  glossary, walked: Find, Judge, the reference's too; the law Judges.
-/
import Derived.Test.YtfldcmeecpgpeaaGreatDoorGlW2
namespace Go.Gh
set_option linter.unusedSimpArgs false
set_option linter.unusedVariables false
set_option maxHeartbeats 4000000
open Go.RowKit Go.Lib
set_option maxRecDepth 4000
def strs (l : List (List UInt8)) : List Value := l.map fun b => .string (strB b)
abbrev SRd (H : GHeap) (v : Value) (l : List (List UInt8)) : Prop := GArg1 H 1 v l.length (strs l)
theorem strs_len (l : List (List UInt8)) : (strs l).length = l.length := by simp [strs]
theorem SRd.at_ {H : GHeap} {v : Value} {l : List (List UInt8)} (h : SRd H v l) {j : Nat} (hj : j < l.length) : H.rd (blk v) (ofs v + j) = some (.string (strB l[j]!)) := by
  rw [h.rd.rd (by rw [strs_len]; exact hj)]
  simp only [strs, List.getElem?_map]
  rw [gget hj]; rfl
structure Tm where
  s : List UInt8
  v : Value
  g : List (List UInt8)
deriving Inhabited
def tmC (x : Tm) : List Value := [.string (strB x.s), x.v]
theorem tmC_len (x : Tm) : (tmC x).length = 2 := rfl
def TmC (l : List Tm) : List Value := l.flatMap tmC
def tmV (x : Tm) : Value := .agg #[.string (strB x.s), x.v]
structure TR (H : GHeap) (v : Value) (l : List Tm) : Prop where
  ar : GArg1 H 2 v l.length (TmC l)
  tg : ∀ x ∈ l, SRd H x.v x.g
  le : l.length ≤ 16777216
  sz : ∀ x ∈ l, x.s.length ≤ 16777216 ∧ x.g.length ≤ 16777216 ∧ ∀ t ∈ x.g, t.length ≤ 16777216
theorem TR.later {H H' : GHeap} {v : Value} {l : List Tm} (h : TR H v l) (hw : H.wf) (hs : Same H H') : TR H' v l :=
  ⟨GArg1.same h.ar hw hs, fun x hx => GArg1.same (h.tg x hx) hw hs, h.le, h.sz⟩
theorem TR.rowN {H : GHeap} {v : Value} {l : List Tm} (h : TR H v l) {k : Nat} (hk : k < l.length) : H.rdn (blk v) (ofs v + k * 2) 2 = some (tmV l[k]!) := GRd.rowN (f := tmC) h.ar.rd tmC_len (by decide) hk
theorem TR.row {H : GHeap} {v : Value} {l : List Tm} (h : TR H v l) {k c : Nat} (hk : k < l.length) (hc : c < 2) : H.rd (blk v) (ofs v + k * 2 + c) = (tmC l[k]!)[c]? := GRd.row (f := tmC) h.ar.rd tmC_len hk hc
theorem TR.isSl {H : GHeap} {v : Value} {l : List Tm} (h : TR H v l) : IsSl v l.length := h.ar.rd.isSl
theorem SRd.flat {H : GHeap} {v : Value} {l : List (List UInt8)} (h : SRd H v l) : flatV v = true := by
  obtain ⟨a, gc, e, _⟩ := h.sl
  rw [e]; exact flatV_sl
theorem bang_mem {α : Type} [Inhabited α] {l : List α} {j : Nat} (h : j < l.length) : l[j]! ∈ l := by rw [getElem!_pos l j h]; exact List.getElem_mem h
theorem gsetn_tm {cs : List Value} {x : Tm} (h : cs.length = 2) (hf : flatV x.v = true) : gsetn cs 0 2 (tmV x) = some (tmC x) := gsetn_all h rfl (by
  show ([.string (strB x.s), x.v] : List Value).all flatV = true
  simp only [List.all_cons, List.all_nil, hf]; rfl)
theorem filter_snoc (p : Nat → Bool) (l : List Nat) (j : Nat) : (l ++ [j]).filter p = if p j = true then l.filter p ++ [j] else l.filter p := by
  rw [List.filter_append]
  cases h : p j <;> simp [List.filter, h]
end Go.Gh
