/-
  latin, walked: strings.ContainsRune at the letters that have a diacritic (kernel runs).
-/
import Derived.Test.YtaemdlpikaakcaaDoorLtW2
namespace Go.Gh
set_option linter.unusedSimpArgs false
set_option linter.unusedVariables false
open Go.RowKit
set_option maxRecDepth 100000

def DIA : List Nat := REP.filter fun x => decide (127 ≤ x) && (fnd SCH x).isNone
theorem dia_up : (DIA.all fun x => DCH.any fun u => uppA x == (u : Int)) = true := by kernel_rfl
theorem cr_run : ((List.range 11).all fun i => DCH.all fun u => isB ((gbody (gcall G 60 8) 60 g28 [.string (accS (193 + (i : Int))), .int .i32 (u : Int)] ⟨.nil, 0, 0⟩).map (·.1)) (inB (ACC (193 + (i : Int))) u)) = true := by kernel_rfl
theorem rep_base : (REP.all fun x => decide (0 ≤ basA x ∧ basA x ≤ 255)) = true := by kernel_rfl
set_option maxRecDepth 4000
theorem cont_ok {r : Int} (h0 : 0 ≤ idxN r) (h1 : ¬ r < 127) (h2 : fnd SCH r = none) {i : Nat} (hi : i < 11) (H : GHeap) :
    gev G 28 [.string (accS (193 + (i : Int))), .int .i32 (uppA r)] H = some (.bool (inB (ACC (193 + (i : Int))) (uppA r)), H) := by
  obtain ⟨x, hx, rfl⟩ := idx_mem (r := r) (by omega)
  have hm : x ∈ DIA := List.mem_filter.2 ⟨hx, by simp [h2]; omega⟩
  obtain ⟨u, hu, e⟩ := List.any_eq_true.1 (List.all_eq_true.1 dia_up x hm)
  rw [beq_iff_eq] at e
  rw [e]
  have h3 := List.all_eq_true.1 (List.all_eq_true.1 cr_run i (List.mem_range.2 hi)) u hu
  exact gev_run (f := 28) rfl rfl rfl (isB_eq h3) H
theorem base_le {r : Int} (h0 : 0 ≤ idxN r) : 0 ≤ basA r ∧ basA r ≤ 255 := by
  obtain ⟨x, hx, rfl⟩ := idx_mem (r := r) (by omega)
  have := List.all_eq_true.1 rep_base x hx
  simpa using this
end Go.Gh
