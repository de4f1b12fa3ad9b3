/-
  style: a style that was found, and its place in memory.
-/
import Derived.Test.YtgbibkkcnkaelaaDoorSyP1
namespace Go.Gh
set_option linter.unusedSimpArgs false
set_option linter.unusedVariables false
open Go.RowKit
set_option maxRecDepth 4000

def atC : Option (Nat × Sy) → Int
  | some (c, _) => c
  | none => 0
def atS : Option (Nat × Sy) → Sy
  | some (_, s) => s
  | none => syZ
theorem atV_eq (o : Option (Nat × Sy)) : atV o = .tuple #[.int .i32 (atC o), syV (atS o), .bool o.isSome] := by
  cases o with
  | none => rfl
  | some p => cases p; rfl
theorem neS_self {a : Sy} : gbin .neq (some (.parts [(0, none, .int), (1, none, .bool), (2, none, .bool)])) (syV a) (syV a) = some (.bool false) := by rw [gb_neS']; simp
theorem neI_self {e : Option EqK} {k : IntKind} {a : Int} : gbin .neq e (.int k a) (.int k a) = some (.bool false) := by rw [gb_neq']; simp
theorem neB_self {a : Bool} : gbin .neq (some .bool) (.bool a) (.bool a) = some (.bool false) := by cases a <;> rfl
/-- a style's place in memory -/
def styH (H : GHeap) (s : Sy) : GHeap := (H.add (some (.cells (syC syZ) 0 true))).put H.len (.cells (syC s) 0 true)
theorem gsetn_z {s : Sy} : gsetn (syC syZ) 0 3 (syV s) = some (syC s) := gsetn_sy rfl
theorem styH_same {H : GHeap} (hw : H.wf) (s : Sy) : Same H (styH H s) := (Same.refl hw).new _ _
theorem styH_rdn {H : GHeap} (s : Sy) : (styH H s).rdn H.len 0 3 = some (syV s) := rdn_syp
theorem styH_len {H : GHeap} (s : Sy) : (styH H s).len = H.len + 1 := by rw [styH, len_put, len_add]
theorem styH_mine {H : GHeap} (hw : H.wf) (s : Sy) : (styH H s).mine H.len = some (syC s, 0) := mine_put_same (by rw [lim_add]; exact hw.1)
end Go.Gh
