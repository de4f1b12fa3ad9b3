/-
  Plain: runs of text, their cells; comparisons.
-/
import Derived.Test.YtjjcgaompnjbdaaDoorSyB
namespace Go.Gh
set_option linter.unusedSimpArgs false
set_option linter.unusedVariables false
set_option maxHeartbeats 4000000
open Go.RowKit
set_option maxRecDepth 4000

/-- a style -/
structure Sy where
  c : Int
  i : Bool
  u : Bool
deriving DecidableEq, Inhabited
/-- a run -/
structure SR where
  t : List UInt8
  s : Sy
  y : List UInt8
deriving DecidableEq, Inhabited
def syC (s : Sy) : List Value := [.int .u8 s.c, .bool s.i, .bool s.u]
def runC (x : SR) : List Value := [.string (strB x.t), .int .u8 x.s.c, .bool x.s.i, .bool x.s.u, .string (strB x.y)]
def RunsC (l : List SR) : List Value := l.flatMap runC
theorem runC_len (x : SR) : (runC x).length = 5 := rfl
theorem RunsC_len (l : List SR) : (RunsC l).length = l.length * 5 := rows_len runC_len l
def syV (s : Sy) : Value := .agg #[.int .u8 s.c, .bool s.i, .bool s.u]
def runV (x : SR) : Value := .agg #[.string (strB x.t), .int .u8 x.s.c, .bool x.s.i, .bool x.s.u, .string (strB x.y)]
theorem runV_eq (x : SR) : Value.agg (runC x).toArray = runV x := rfl
theorem syV_eq (s : Sy) : Value.agg (syC s).toArray = syV s := rfl
theorem strB_inj {a b : List UInt8} : strB a = strB b ↔ a = b := by
  constructor
  · intro h
    rw [← strB_data a, ← strB_data b, h]
  · rintro rfl; rfl
def qSy : EqK := .parts [(0, none, .int), (1, none, .bool), (2, none, .bool)]
def qRun : EqK := .parts [(0, none, .str), (1, some 3, .parts [(0, none, .int), (1, none, .bool), (2, none, .bool)]), (4, none, .str)]
theorem geq_int {n : Nat} {k : IntKind} {a b : Int} : geqIn n .int (.int k a) (.int k b) = some (a == b) := by
  cases n <;> simp [geqIn]
theorem geq_bool {n : Nat} {a b : Bool} : geqIn n .bool (.bool a) (.bool b) = some (a == b) := by
  cases n <;> simp [geqIn]
theorem geq_str {n : Nat} {a b : ByteArray} : geqIn n .str (.string a) (.string b) = some (a == b) := by
  cases n <;> simp [geqIn]
theorem geq_sy (n : Nat) (a b : Sy) : geqIn (n + 1) qSy (syV a) (syV b) = some (decide (a = b)) := by
  obtain ⟨c, i, u⟩ := a
  obtain ⟨c', i', u'⟩ := b
  have h0 : ∀ x y : Sy, geqIn (n + 1) qSy (syV x) (syV y) = match geqIn n .int (.int .u8 x.c) (.int .u8 y.c) with
    | some true => (match geqIn n .bool (.bool x.i) (.bool y.i) with
      | some true => (match geqIn n .bool (.bool x.u) (.bool y.u) with
        | some true => some true
        | z => z)
      | z => z)
    | z => z := fun x y => rfl
  rw [h0]
  simp only [geq_int, geq_bool, Sy.mk.injEq]
  by_cases h : c = c' <;> by_cases h2 : i = i' <;> by_cases h3 : u = u' <;> simp [h, h2, h3]
theorem strB_beq {a b : List UInt8} : (strB a == strB b) = decide (a = b) := by
  show ((strB a).data == (strB b).data) = decide (a = b)
  rw [Bool.eq_iff_iff, beq_iff_eq, decide_eq_true_eq]
  simp [strB]
theorem geq_run (n : Nat) (a b : SR) : geqIn (n + 2) qRun (runV a) (runV b) = some (decide (a = b)) := by
  have h0 : ∀ x y : SR, geqIn (n + 2) qRun (runV x) (runV y) = match geqIn (n + 1) .str (.string (strB x.t)) (.string (strB y.t)) with
    | some true => (match geqIn (n + 1) qSy (syV x.s) (syV y.s) with
      | some true => (match geqIn (n + 1) .str (.string (strB x.y)) (.string (strB y.y)) with
        | some true => some true
        | z => z)
      | z => z)
    | z => z := fun x y => rfl
  rw [h0]
  obtain ⟨t, s, y⟩ := a
  obtain ⟨t', s', y'⟩ := b
  simp only [geq_str, geq_sy, strB_beq, SR.mk.injEq]
  by_cases h : t = t' <;> by_cases h2 : s = s' <;> by_cases h3 : y = y' <;> simp [h, h2, h3]
theorem gb_eqR {a b : SR} : gbin .eql (some qRun) (runV a) (runV b) = some (.bool (decide (a = b))) := by
  have := geq_run 10 a b
  simp only [gbin, runV, geq] at this ⊢
  rw [this]; rfl
theorem gb_neR {a b : SR} : gbin .neq (some qRun) (runV a) (runV b) = some (.bool (decide (¬ a = b))) := by
  have := geq_run 10 a b
  simp only [gbin, runV, geq] at this ⊢
  rw [this]; simp
theorem gb_eqS {a b : Sy} : gbin .eql (some qSy) (syV a) (syV b) = some (.bool (decide (a = b))) := by
  have := geq_sy 11 a b
  simp only [gbin, syV, geq] at this ⊢
  rw [this]; rfl
theorem gb_neS {a b : Sy} : gbin .neq (some qSy) (syV a) (syV b) = some (.bool (decide (¬ a = b))) := by
  have := geq_sy 11 a b
  simp only [gbin, syV, geq] at this ⊢
  rw [this]; simp
/-- a row: a slice of runs, out of sight -/
def rowV (v : Value) : Value := .agg #[v]
/-- a slice that reads as runs -/
abbrev RR (H : GHeap) (v : Value) (l : List SR) : Prop := GArg1 H 5 v l.length (RunsC l)
theorem RR.rowN {H : GHeap} {v : Value} {l : List SR} (h : RR H v l) {k : Nat} (hk : k < l.length) : H.rdn (blk v) (ofs v + k * 5) 5 = some (runV l[k]!) := GRd.rowN (f := runC) h.rd runC_len (by decide) hk
theorem RR.row {H : GHeap} {v : Value} {l : List SR} (h : RR H v l) {k c : Nat} (hk : k < l.length) (hc : c < 5) : H.rd (blk v) (ofs v + k * 5 + c) = (runC l[k]!)[c]? := GRd.row (f := runC) h.rd runC_len hk hc
end Go.Gh
