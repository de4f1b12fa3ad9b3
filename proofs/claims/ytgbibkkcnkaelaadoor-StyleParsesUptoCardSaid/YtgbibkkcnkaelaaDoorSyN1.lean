/-
  style, walked: neighbours that are alike.
-/
import Derived.Test.YtgbibkkcnkaelaaDoorSyA
namespace Go.Gh
set_option linter.unusedSimpArgs false
set_option linter.unusedVariables false
open Go.RowKit
set_option maxRecDepth 4000

theorem runC_0 (x : SR) : (runC x)[0]? = some (.string (strB x.t)) := rfl
theorem runC_1 (x : SR) : (runC x)[1]? = some (.int .u8 x.s.c) := rfl
theorem runC_2 (x : SR) : (runC x)[2]? = some (.bool x.s.i) := rfl
theorem runC_3 (x : SR) : (runC x)[3]? = some (.bool x.s.u) := rfl
theorem runC_4 (x : SR) : (runC x)[4]? = some (.string (strB x.y)) := rfl
theorem syC_0 (x : Sy) : (syC x)[0]? = some (.int .u8 x.c) := rfl
theorem syC_1 (x : Sy) : (syC x)[1]? = some (.bool x.i) := rfl
theorem syC_2 (x : Sy) : (syC x)[2]? = some (.bool x.u) := rfl
theorem runC_flat (x : SR) : (runC x).all flatV = true := by simp [runC, flatV]
theorem syC_flat (x : Sy) : (syC x).all flatV = true := by simp [syC, flatV]
theorem run_cells (x : SR) : (runV x).cells.toList = runC x := rfl
theorem sy_cells (x : Sy) : (syV x).cells.toList = syC x := rfl
theorem run_cflat (x : SR) : (runV x).cells.all flatV = true := by
  rw [← Array.all_toList]; exact runC_flat x
theorem sy_cflat (x : Sy) : (syV x).cells.all flatV = true := by
  rw [← Array.all_toList]; exact syC_flat x
theorem gsetn_run {cs : List Value} {x : SR} (h : cs.length = 5) : gsetn cs 0 5 (runV x) = some (runC x) := gsetn_all h rfl (by simp [flatV])
theorem gsetn_sy {cs : List Value} {x : Sy} (h : cs.length = 3) : gsetn cs 0 3 (syV x) = some (syC x) := gsetn_all h rfl (by simp [flatV])
theorem fill_run {x : SR} : fillL (zeros [.string ⟨#[]⟩, .int .u8 0, .bool false, .bool false, .string ⟨#[]⟩] 1) [(0, 5, runV x)] = some (runC x) := by
  simp [fillL, run_cells, runC_flat, zeros, runC_len]
theorem rdn_run {H : GHeap} {j : Nat} {x : SR} {u : Nat} {b : Bool} (h : H.len = j) : (H.add (some (.cells (runC x) u b))).rdn j 0 5 = some (runV x) := rdn_add_all h rfl
theorem rdn_run3 {H : GHeap} {j : Nat} {x : SR} {u : Nat} {b : Bool} (h : H.len = j) : (H.add (some (.cells (runC x) u b))).rdn j 1 3 = some (syV x.s) := by
  simp only [GHeap.rdn, cs_add_eq h]; rfl
theorem rdn_runp {H : GHeap} {j : Nat} {x : SR} {u : Nat} {b : Bool} : (H.put j (.cells (runC x) u b)).rdn j 0 5 = some (runV x) := rdn_put_all rfl
theorem rdn_run3p {H : GHeap} {j : Nat} {x : SR} {u : Nat} {b : Bool} : (H.put j (.cells (runC x) u b)).rdn j 1 3 = some (syV x.s) := by
  simp only [GHeap.rdn, cs_put_same]; rfl
theorem rdn_sy {H : GHeap} {j : Nat} {x : Sy} {u : Nat} {b : Bool} (h : H.len = j) : (H.add (some (.cells (syC x) u b))).rdn j 0 3 = some (syV x) := rdn_add_all h rfl
theorem rdn_syp {H : GHeap} {j : Nat} {x : Sy} {u : Nat} {b : Bool} : (H.put j (.cells (syC x) u b)).rdn j 0 3 = some (syV x) := rdn_put_all rfl
theorem gb_eqR' {a b : SR} : gbin .eql (some (.parts [(0, none, .str), (1, some 3, .parts [(0, none, .int), (1, none, .bool), (2, none, .bool)]), (4, none, .str)])) (runV a) (runV b) = some (.bool (decide (a = b))) := gb_eqR
theorem gb_neR' {a b : SR} : gbin .neq (some (.parts [(0, none, .str), (1, some 3, .parts [(0, none, .int), (1, none, .bool), (2, none, .bool)]), (4, none, .str)])) (runV a) (runV b) = some (.bool (decide (¬ a = b))) := gb_neR
theorem gb_eqS' {a b : Sy} : gbin .eql (some (.parts [(0, none, .int), (1, none, .bool), (2, none, .bool)])) (syV a) (syV b) = some (.bool (decide (a = b))) := gb_eqS
theorem gb_neS' {a b : Sy} : gbin .neq (some (.parts [(0, none, .int), (1, none, .bool), (2, none, .bool)])) (syV a) (syV b) = some (.bool (decide (¬ a = b))) := gb_neS
theorem gb_eqE {e : Option EqK} {a : List UInt8} : gbin .eql e (.string (strB a)) (.string ⟨#[]⟩) = some (.bool (decide (a = []))) := gb_eqlB (b := [])
theorem gb_neE {e : Option EqK} {a : List UInt8} : gbin .neq e (.string (strB a)) (.string ⟨#[]⟩) = some (.bool (decide (¬ a = []))) := gb_neqB (b := [])
theorem RN : type_of% (And.intro (And.intro (And.intro (And.intro @runC_0 @runC_1) (And.intro @runC_2 @runC_3)) (And.intro (And.intro @runC_4 @syC_0) (And.intro @syC_1 @syC_2))) (And.intro (And.intro (And.intro @run_cells @sy_cells) (And.intro @run_cflat @sy_cflat)) (And.intro (And.intro (And.intro @gsetn_run @gsetn_sy) (And.intro @fill_run @rdn_run)) (And.intro (And.intro (And.intro @rdn_run3 @rdn_runp) (And.intro @rdn_run3p @rdn_sy)) (And.intro (And.intro (And.intro @rdn_syp @gb_eqR') (And.intro @gb_neR' @gb_eqS')) (And.intro @gb_neS' (And.intro @gb_eqE @gb_neE))))))) := ⟨⟨⟨⟨@runC_0, @runC_1⟩, ⟨@runC_2, @runC_3⟩⟩, ⟨⟨@runC_4, @syC_0⟩, ⟨@syC_1, @syC_2⟩⟩⟩, ⟨⟨⟨@run_cells, @sy_cells⟩, ⟨@run_cflat, @sy_cflat⟩⟩, ⟨⟨⟨@gsetn_run, @gsetn_sy⟩, ⟨@fill_run, @rdn_run⟩⟩, ⟨⟨⟨@rdn_run3, @rdn_runp⟩, ⟨@rdn_run3p, @rdn_sy⟩⟩, ⟨⟨⟨@rdn_syp, @gb_eqR'⟩, ⟨@gb_neR', @gb_eqS'⟩⟩, ⟨@gb_neS', ⟨@gb_eqE, @gb_neE⟩⟩⟩⟩⟩⟩⟩
theorem lit_run (x : SR) : litOk (runV x) = true := by simp [runV, litOk, litFlat]
theorem lit_sy (x : Sy) : litOk (syV x) = true := by simp [syV, litOk, litFlat]
def alikeF (a b : SR) : Bool := decide (a.s = b.s) && decide (a.y = []) && decide (b.y = [])
theorem alike_ok (a b : SR) (H : GHeap) : gev G 66 [runV a, runV b] H = some (.bool (alikeF a b), H) := by
  refine gev_GWP (f := 66) rfl (by simp [lit_run]) rfl (fun Post hPost => ?_) H
  have hw := root_wf
  have hlim := hw.1
  simp only [frameOf, Nat.reduceAdd]
  repeat' (first | refine zA ?_ | refine zB ?_ | refine zC ?_ | refine zD ?_ | refine zE ?_ | refine zF ?_ | refine zG ?_ | refine zH ?_ | refine zI ?_ | refine zJ ?_ | refine zK rfl ?_ | refine zL ?_ | refine zM ?_ | refine zN ?_ | refine zO ?_ | refine zP rfl ?_ | refine zQ ?_ | ((first | refine zR ?_ | refine zS ?_ | refine zT ?_ | skip); intro K k; simp (disch := (first | (simp only [yD2, beq_self_eq_true, Nat.reduceLT, Nat.reduceAdd]; done) | ((fail_if_success (apply Bool.eq_iff_iff.2)); first | omega | (simp only [yD2, beq_self_eq_true, Nat.reduceLT, Nat.reduceAdd] <;> omega)) | fail)) only [↓yS, yT, ↓reduceIte, Nat.reduceEqDiff, Nat.reduceAdd, Nat.reduceMul, reduceCtorEq, Int.reduceToNat, g66, RN]; refine yC (k _ _ ?_); clear k K) | ((first | refine zU ?_ | refine zV ?_ | refine zW ?_); intro A B C D a b c d; simp only [↓yG, Nat.reduceEqDiff, ↓reduceIte, g66, RN]; (first | refine zX (a ?_) | refine zY (b ?_) | refine zZ (fun hc => c ?_) (fun hc => d ?_)) <;> clear a b c d A B C D <;> try simp only [yL] at hc) | (refine yA ?_; intro A a; simp only [↓yG, Nat.reduceEqDiff, ↓reduceIte, g66, RN]; refine yB (a ?_); clear a A) | (refine yD ?_; simp only [gresults, ↓yG, Nat.reduceEqDiff, ↓reduceIte, Option.bind_some, gld_1, gld_n, g66, RN]; refine ⟨_, rfl, ?_⟩; simp only [gone]))
  case refine_1.refine_1 =>
    have : alikeF a b = decide (b.y = []) := by simp [alikeF, *]
    rw [this] at hPost
    exact hPost _
  all_goals
    have : alikeF a b = false := by simp [alikeF, *]
    rw [this] at hPost
    exact hPost _
/-! ### the normal form -/
theorem gb_addB {e : Option EqK} {a b : List UInt8} (h : a.length + b.length ≤ 9223372036854775807) : gbin .add e (.string (strB a)) (.string (strB b)) = some (.string (strB (a ++ b))) := by
  have := gb_addS (k := e) (a := a) (e := strB b) (by simpa [toL, strB] using h)
  rw [this]; simp [toL, strB]
end Go.Gh
