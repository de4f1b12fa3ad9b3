/-
  Plain: tokens, tables, paragraphs, their cells; what the checks answer.
-/
import Derived.Test.YtbhgpiakeimmlaaDoorRbC3
namespace Go.Gh
set_option linter.unusedSimpArgs false
set_option linter.unusedVariables false
open Go.RowKit
set_option maxRecDepth 4000

/-- a token -/
structure Tk where
  t : List UInt8
  s : Int
deriving DecidableEq, Inhabited
def tkC (x : Tk) : List Value := [.string (strB x.t), .int .i64 x.s]
def TkC (l : List Tk) : List Value := l.flatMap tkC
theorem tkC_len (x : Tk) : (tkC x).length = 2 := rfl
theorem TkC_len (l : List Tk) : (TkC l).length = l.length * 2 := rows_len tkC_len l
def tkV (x : Tk) : Value := .agg #[.string (strB x.t), .int .i64 x.s]
theorem tkV_eq (x : Tk) : Value.agg (tkC x).toArray = tkV x := rfl
abbrev KR (H : GHeap) (v : Value) (l : List Tk) : Prop := GArg1 H 2 v l.length (TkC l)
theorem KR.rowN {H : GHeap} {v : Value} {l : List Tk} (h : KR H v l) {k : Nat} (hk : k < l.length) : H.rdn (blk v) (ofs v + k * 2) 2 = some (tkV l[k]!) := GRd.rowN (f := tkC) h.rd tkC_len (by decide) hk
theorem KR.row {H : GHeap} {v : Value} {l : List Tk} (h : KR H v l) {k c : Nat} (hk : k < l.length) (hc : c < 2) : H.rd (blk v) (ofs v + k * 2 + c) = (tkC l[k]!)[c]? := GRd.row (f := tkC) h.rd tkC_len hk hc
theorem KR.isSl {H : GHeap} {v : Value} {l : List Tk} (h : KR H v l) : IsSl v l.length := h.rd.isSl
theorem KR.later {H H' : GHeap} {v : Value} {l : List Tk} (h : KR H v l) (hw : H.wf) (hs : Same H H') : KR H' v l := GArg1.same h hw hs
theorem KR.flat {H : GHeap} {v : Value} {l : List Tk} (h : KR H v l) : flatV v = true := by
  obtain ⟨a, gc, e, _⟩ := h.sl
  rw [e]; exact flatV_sl
/-- a penalty table -/
structure Tab where
  s0 : Int
  s1 : Int
  s2 : Int
  s3 : Int
  s4 : Int
  s5 : Int
  rg : Int
  rw : Int
  ev : Int
  fa : Int
  ga : Int
  sh : Int
deriving DecidableEq, Inhabited
def tabL (t : Tab) : List Int := [t.s0, t.s1, t.s2, t.s3, t.s4, t.s5, t.rg, t.rw, t.ev, t.fa, t.ga, t.sh]
def tabC (t : Tab) : List Value := [.int .i64 t.s0, .int .i64 t.s1, .int .i64 t.s2, .int .i64 t.s3, .int .i64 t.s4, .int .i64 t.s5, .int .i64 t.rg, .int .i64 t.rw, .int .i64 t.ev, .int .i64 t.fa, .int .i64 t.ga, .int .i64 t.sh]
def tabV (t : Tab) : Value := .agg #[.int .i64 t.s0, .int .i64 t.s1, .int .i64 t.s2, .int .i64 t.s3, .int .i64 t.s4, .int .i64 t.s5, .int .i64 t.rg, .int .i64 t.rw, .int .i64 t.ev, .int .i64 t.fa, .int .i64 t.ga, .int .i64 t.sh]
theorem tabC_ints (t : Tab) : tabC t = ints .i64 (tabL t) := rfl
theorem tab_cells (t : Tab) : (tabV t).cells.toList = tabC t := rfl
theorem tab_cflat (t : Tab) : (tabV t).cells.all flatV = true := by simp [tabV, Value.cells, flatV]
theorem lit_tab (t : Tab) : litOk (tabV t) = true := by simp [tabV, litOk, litFlat]
/-- a paragraph -/
structure Par where
  v : Value
  l : List Tk
  w : Int
  r : Int
  tb : Tab
def parC (p : Par) : List Value := [p.v, .int .i64 p.w, .int .i64 p.r, .int .i64 p.tb.s0, .int .i64 p.tb.s1, .int .i64 p.tb.s2, .int .i64 p.tb.s3, .int .i64 p.tb.s4, .int .i64 p.tb.s5, .int .i64 p.tb.rg, .int .i64 p.tb.rw, .int .i64 p.tb.ev, .int .i64 p.tb.fa, .int .i64 p.tb.ga, .int .i64 p.tb.sh]
def parV (p : Par) : Value := .agg #[p.v, .int .i64 p.w, .int .i64 p.r, .int .i64 p.tb.s0, .int .i64 p.tb.s1, .int .i64 p.tb.s2, .int .i64 p.tb.s3, .int .i64 p.tb.s4, .int .i64 p.tb.s5, .int .i64 p.tb.rg, .int .i64 p.tb.rw, .int .i64 p.tb.ev, .int .i64 p.tb.fa, .int .i64 p.tb.ga, .int .i64 p.tb.sh]
/-! ### the checks -/
def tk1 (x : Tk) : Int := if x.t = [] ∨ 32 ∈ x.t then 4 else if vldB (strB x.t) = false then 10 else if x.s < 0 ∨ 5 < x.s then 2 else 0
def tkGo : List Tk → Int
  | [] => 0
  | x :: r => if tk1 x = 0 then tkGo r else tk1 x
def tkF (l : List Tk) : Int := if 200 < l.length then 9 else tkGo l
theorem tkGo_ok : ∀ {l : List Tk}, tkGo l = 0 → ∀ x ∈ l, tk1 x = 0
  | [], _, x, hx => by simp at hx
  | y :: l, h, x, hx => by
    rw [tkGo] at h
    split at h
    · rename_i h1
      rcases List.mem_cons.1 hx with rfl | hx
      · exact h1
      · exact tkGo_ok h x hx
    · rename_i h1; exact absurd h h1
theorem tk1_ok {x : Tk} (h : tk1 x = 0) : x.t ≠ [] ∧ 32 ∉ x.t ∧ vldB (strB x.t) = true ∧ 0 ≤ x.s ∧ x.s ≤ 5 := by
  unfold tk1 at h
  split at h
  · cases h
  · rename_i h1
    split at h
    · cases h
    · rename_i h2
      split at h
      · cases h
      · rename_i h3
        refine ⟨fun e => h1 (.inl e), fun e => h1 (.inr e), by simpa using h2, by omega, by omega⟩
def nOk (n : Int) : Bool := decide (0 ≤ n ∧ n ≤ 1000000)
def penF (t : Tab) : Int := if (tabL t).all nOk = false then 2 else if t.s0 < t.s1 ∨ t.s1 < t.s2 ∨ t.s2 < t.s3 ∨ t.s3 < t.s4 ∨ t.s4 < t.s5 then 8 else 0
def parF (p : Par) : Int := if tkF p.l ≠ 0 then tkF p.l else if p.l = [] then 6 else if p.w < 1 ∨ 32 < p.w ∨ p.r < 1 ∨ 4 < p.r then 2 else penF p.tb
end Go.Gh
