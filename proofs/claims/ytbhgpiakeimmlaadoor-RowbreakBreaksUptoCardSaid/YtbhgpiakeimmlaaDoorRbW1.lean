/-
  token.Check, walked.
-/
import Derived.Test.YtbhgpiakeimmlaaDoorRbF
namespace Go.Gh
set_option linter.unusedSimpArgs false
set_option linter.unusedVariables false
open Go.RowKit
set_option maxRecDepth 4000

theorem ixb_mem : ∀ (l : List UInt8) (c : UInt8), 0 ≤ Go.Lib.indexByte l c ↔ c ∈ l
  | [], c => by simp [Go.Lib.indexByte]
  | b :: l, c => by
    have ih := ixb_mem l c
    have hge := Go.Lib.indexByte_ge l c
    rw [Go.Lib.indexByte]
    by_cases h : b = c
    · simp [h]
    · have h1 : (b == c) = false := by simpa using h
      rw [h1]
      have h2 : c ≠ b := fun e => h e.symm
      simp only [Bool.false_eq_true, if_false, List.mem_cons, h2, false_or]
      rw [← ih]
      by_cases h3 : Go.Lib.indexByte l c = -1
      · simp [h3]
      · have h4 : (Go.Lib.indexByte l c == -1) = false := by simpa using h3
        rw [h4]
        simp only [Bool.false_eq_true, if_false]
        omega
theorem gb_eqE {e : Option EqK} {a : List UInt8} : gbin .eql e (.string (strB a)) (.string ⟨#[]⟩) = some (.bool (decide (a = []))) := gb_eqlB (b := [])
def sidx (l : List UInt8) : Int := if l = [32] then 0 else Go.Lib.indexByte l 32
theorem sidx_mem (l : List UInt8) : 0 ≤ sidx l ↔ 32 ∈ l := by
  unfold sidx
  split
  · rename_i h; simp [h]
  · exact ixb_mem l 32
theorem sindex_ok {l : List UInt8} (hl : l.length ≤ 140737488355328) (H : GHeap) :
    gev G 72 [.string (strB l), .string (strB [32])] H = some (.int .i64 (sidx l), H) := by
  by_cases hc : l = [32]
  · rw [sidx, if_pos hc]
    refine gev_GWP (f := 72) rfl rfl rfl (fun Post hPost => ?_) H
    have h1 : (strB [32]).size = 1 := rfl
    have hq := fun e => gb_eqlB (e := e) (a := [32]) (b := l)
    have hyt : ([32] = l) = True := eq_true hc.symm
    simp only [frameOf, Nat.reduceAdd]
    repeat' (first | (exfalso; omega) | refine zA ?_ | refine zB ?_ | refine zC ?_ | refine zD ?_ | refine zE ?_ | refine zF ?_ | refine zG ?_ | refine zH ?_ | refine zI ?_ | refine zJ ?_ | refine zK rfl ?_ | refine zL ?_ | refine zM ?_ | refine zN ?_ | refine zO ?_ | refine zP rfl ?_ | refine zQ ?_ | ((first | refine zR ?_ | refine zS ?_ | refine zT ?_ | skip); intro K k; simp (disch := (first | (simp only [yD2, beq_self_eq_true, Nat.reduceLT, Nat.reduceAdd]; done) | ((fail_if_success (apply Bool.eq_iff_iff.2)); first | omega | (simp only [yD2, beq_self_eq_true, Nat.reduceLT, Nat.reduceAdd] <;> omega)) | fail)) only [↓yS, yT, ↓reduceIte, Nat.reduceEqDiff, Nat.reduceAdd, Nat.reduceMul, reduceCtorEq, Int.reduceToNat, g72, strB_size, h1, hq, hyt, decide_true]; refine yC (k _ _ ?_); clear k K) | ((first | refine zU ?_ | refine zV ?_ | refine zW ?_); intro A B C D a b c d; simp only [↓yG, Nat.reduceEqDiff, ↓reduceIte, g72, strB_size, h1, hq, hyt, decide_true]; (first | refine zX (a ?_) | refine zY (b ?_) | refine zZ (fun hc => c ?_) (fun hc => d ?_)) <;> clear a b c d A B C D <;> try simp only [yL] at hc) | (refine yA ?_; intro A a; simp only [↓yG, Nat.reduceEqDiff, ↓reduceIte, g72, strB_size, h1, hq, hyt, decide_true]; refine yB (a ?_); clear a A) | (refine yD ?_; simp only [gresults, ↓yG, Nat.reduceEqDiff, ↓reduceIte, Option.bind_some, gld_1, gld_n, g72, strB_size, h1, hq, hyt, decide_true]; refine ⟨_, rfl, ?_⟩; simp only [gone]))
    all_goals exact hPost _
  · rw [sidx, if_neg hc]
    refine gev_GWP (f := 72) rfl rfl rfl (fun Post hPost => ?_) H
    have h1 : (strB [32]).size = 1 := rfl
    have hq := fun e => gb_eqlB (e := e) (a := [32]) (b := l)
    have hyt : ([32] = l) = False := eq_false fun e => hc e.symm
    have hat : ∀ k, gix none (.string (strB [32])) (.int k 0) = some (.int .u8 32) := fun k => rfl
    have hib : ∀ H, gev G 78 [.string (strB l), .int .u8 32] H = some (.int .i64 (Go.Lib.indexByte l 32), H) := fun H => gev_lib (f := 78) rfl rfl (by
      simp only [runIndexByte, strB_data]
      rfl) rfl
    simp only [frameOf, Nat.reduceAdd]
    repeat' (first | (exfalso; omega) | refine zA ?_ | refine zB ?_ | refine zC ?_ | refine zD ?_ | refine zE ?_ | refine zF ?_ | refine zG ?_ | refine zH ?_ | refine zI ?_ | refine zJ ?_ | refine zK rfl ?_ | refine zL ?_ | refine zM ?_ | refine zN ?_ | refine zO ?_ | refine zP rfl ?_ | refine zQ ?_ | ((first | refine zR ?_ | refine zS ?_ | refine zT ?_ | skip); intro K k; simp (disch := (first | (simp only [yD2, beq_self_eq_true, Nat.reduceLT, Nat.reduceAdd]; done) | ((fail_if_success (apply Bool.eq_iff_iff.2)); first | omega | (simp only [yD2, beq_self_eq_true, Nat.reduceLT, Nat.reduceAdd] <;> omega)) | fail)) only [↓yS, yT, ↓reduceIte, Nat.reduceEqDiff, Nat.reduceAdd, Nat.reduceMul, reduceCtorEq, Int.reduceToNat, g72, strB_size, h1, hq, hyt, decide_false, hat]; refine yC (k _ _ ?_); clear k K) | ((first | refine zU ?_ | refine zV ?_ | refine zW ?_); intro A B C D a b c d; simp only [↓yG, Nat.reduceEqDiff, ↓reduceIte, g72, strB_size, h1, hq, hyt, decide_false, hat]; (first | refine zX (a ?_) | refine zY (b ?_) | refine zZ (fun hc => c ?_) (fun hc => d ?_)) <;> clear a b c d A B C D <;> try simp only [yL] at hc) | (refine yA ?_; intro A a; simp only [↓yG, Nat.reduceEqDiff, ↓reduceIte, g72, strB_size, h1, hq, hyt, decide_false, hat]; refine yB (a ?_); clear a A) | (refine yD ?_; simp only [gresults, ↓yG, Nat.reduceEqDiff, ↓reduceIte, Option.bind_some, gld_1, gld_n, g72, strB_size, h1, hq, hyt, decide_false, hat]; refine ⟨_, rfl, ?_⟩; simp only [gone]))
    refine Gw_s fun K' hK' => G1_call (by simp only [gtarget, ↓GArg.ev, ↓evs, ↓Tr.get_set, Nat.reduceEqDiff, if_true, if_false, ↓reduceIte, Option.map_some]; rfl) (one_of (hib _)) fun r1 H1 hq1 => hK' _ _ ?_
    obtain ⟨rfl, rfl⟩ := hq1
    repeat' (first | refine zA ?_ | refine zB ?_ | refine zC ?_ | refine zD ?_ | refine zE ?_ | refine zF ?_ | refine zG ?_ | refine zH ?_ | refine zI ?_ | refine zJ ?_ | refine zK rfl ?_ | refine zL ?_ | refine zM ?_ | refine zN ?_ | refine zO ?_ | refine zP rfl ?_ | refine zQ ?_ | ((first | refine zR ?_ | refine zS ?_ | refine zT ?_ | skip); intro K k; simp (disch := (first | (simp only [yD2, beq_self_eq_true, Nat.reduceLT, Nat.reduceAdd]; done) | ((fail_if_success (apply Bool.eq_iff_iff.2)); first | omega | (simp only [yD2, beq_self_eq_true, Nat.reduceLT, Nat.reduceAdd] <;> omega)) | fail)) only [↓yS, yT, ↓reduceIte, Nat.reduceEqDiff, Nat.reduceAdd, Nat.reduceMul, reduceCtorEq, Int.reduceToNat, g72]; refine yC (k _ _ ?_); clear k K) | ((first | refine zU ?_ | refine zV ?_ | refine zW ?_); intro A B C D a b c d; simp only [↓yG, Nat.reduceEqDiff, ↓reduceIte, g72]; (first | refine zX (a ?_) | refine zY (b ?_) | refine zZ (fun hc => c ?_) (fun hc => d ?_)) <;> clear a b c d A B C D <;> try simp only [yL] at hc) | (refine yA ?_; intro A a; simp only [↓yG, Nat.reduceEqDiff, ↓reduceIte, g72]; refine yB (a ?_); clear a A) | (refine yD ?_; simp only [gresults, ↓yG, Nat.reduceEqDiff, ↓reduceIte, Option.bind_some, gld_1, gld_n, g72]; refine ⟨_, rfl, ?_⟩; simp only [gone]))
    exact hPost _
theorem sindex2_ok {l : List UInt8} (hl : l.length ≤ 140737488355328) (H : GHeap) : gev G 64 [.string (strB l), .string (strB [32])] H = some (.int .i64 (sidx l), H) := by
  refine gev_GWP (f := 64) rfl rfl rfl (fun Post hPost => ?_) H
  simp only [frameOf, Nat.reduceAdd]
  repeat' (first | refine zA ?_ | refine zB ?_ | refine zC ?_ | refine zD ?_ | refine zE ?_ | refine zF ?_ | refine zG ?_ | refine zH ?_ | refine zI ?_ | refine zJ ?_ | refine zK rfl ?_ | refine zL ?_ | refine zM ?_ | refine zN ?_ | refine zO ?_ | refine zP rfl ?_ | refine zQ ?_ | ((first | refine zR ?_ | refine zS ?_ | refine zT ?_ | skip); intro K k; simp (disch := (first | (simp only [yD2, beq_self_eq_true, Nat.reduceLT, Nat.reduceAdd]; done) | ((fail_if_success (apply Bool.eq_iff_iff.2)); first | omega | (simp only [yD2, beq_self_eq_true, Nat.reduceLT, Nat.reduceAdd] <;> omega)) | fail)) only [↓yS, yT, ↓reduceIte, Nat.reduceEqDiff, Nat.reduceAdd, Nat.reduceMul, reduceCtorEq, Int.reduceToNat, g64]; refine yC (k _ _ ?_); clear k K) | ((first | refine zU ?_ | refine zV ?_ | refine zW ?_); intro A B C D a b c d; simp only [↓yG, Nat.reduceEqDiff, ↓reduceIte, g64]; (first | refine zX (a ?_) | refine zY (b ?_) | refine zZ (fun hc => c ?_) (fun hc => d ?_)) <;> clear a b c d A B C D <;> try simp only [yL] at hc) | (refine yA ?_; intro A a; simp only [↓yG, Nat.reduceEqDiff, ↓reduceIte, g64]; refine yB (a ?_); clear a A) | (refine yD ?_; simp only [gresults, ↓yG, Nat.reduceEqDiff, ↓reduceIte, Option.bind_some, gld_1, gld_n, g64]; refine ⟨_, rfl, ?_⟩; simp only [gone]))
  refine Gw_s fun K' hK' => G1_call (by simp only [gtarget, ↓GArg.ev, ↓evs, ↓Tr.get_set, Nat.reduceEqDiff, if_true, if_false, ↓reduceIte, Option.map_some]; rfl) (one_of (sindex_ok hl _)) fun r1 H1 hq1 => hK' _ _ ?_
  obtain ⟨rfl, rfl⟩ := hq1
  repeat' (first | refine zA ?_ | refine zB ?_ | refine zC ?_ | refine zD ?_ | refine zE ?_ | refine zF ?_ | refine zG ?_ | refine zH ?_ | refine zI ?_ | refine zJ ?_ | refine zK rfl ?_ | refine zL ?_ | refine zM ?_ | refine zN ?_ | refine zO ?_ | refine zP rfl ?_ | refine zQ ?_ | ((first | refine zR ?_ | refine zS ?_ | refine zT ?_ | skip); intro K k; simp (disch := (first | (simp only [yD2, beq_self_eq_true, Nat.reduceLT, Nat.reduceAdd]; done) | ((fail_if_success (apply Bool.eq_iff_iff.2)); first | omega | (simp only [yD2, beq_self_eq_true, Nat.reduceLT, Nat.reduceAdd] <;> omega)) | fail)) only [↓yS, yT, ↓reduceIte, Nat.reduceEqDiff, Nat.reduceAdd, Nat.reduceMul, reduceCtorEq, Int.reduceToNat, g64]; refine yC (k _ _ ?_); clear k K) | ((first | refine zU ?_ | refine zV ?_ | refine zW ?_); intro A B C D a b c d; simp only [↓yG, Nat.reduceEqDiff, ↓reduceIte, g64]; (first | refine zX (a ?_) | refine zY (b ?_) | refine zZ (fun hc => c ?_) (fun hc => d ?_)) <;> clear a b c d A B C D <;> try simp only [yL] at hc) | (refine yA ?_; intro A a; simp only [↓yG, Nat.reduceEqDiff, ↓reduceIte, g64]; refine yB (a ?_); clear a A) | (refine yD ?_; simp only [gresults, ↓yG, Nat.reduceEqDiff, ↓reduceIte, Option.bind_some, gld_1, gld_n, g64]; refine ⟨_, rfl, ?_⟩; simp only [gone]))
  exact hPost _
theorem contains_ok {l : List UInt8} {B : ByteArray} (hB : B = strB [32]) (hl : l.length ≤ 140737488355328) (H : GHeap) : gev G 50 [.string (strB l), .string B] H = some (.bool (decide (32 ∈ l)), H) := by
  subst hB
  refine gev_GWP (f := 50) rfl rfl rfl (fun Post hPost => ?_) H
  have h1 : decide (0 ≤ sidx l) = decide (32 ∈ l) := by
    have := sidx_mem l
    by_cases h : 32 ∈ l
    · rw [decide_eq_true h, decide_eq_true (this.2 h)]
    · rw [decide_eq_false h, decide_eq_false fun e => h (this.1 e)]
  simp only [frameOf, Nat.reduceAdd]
  repeat' (first | refine zA ?_ | refine zB ?_ | refine zC ?_ | refine zD ?_ | refine zE ?_ | refine zF ?_ | refine zG ?_ | refine zH ?_ | refine zI ?_ | refine zJ ?_ | refine zK rfl ?_ | refine zL ?_ | refine zM ?_ | refine zN ?_ | refine zO ?_ | refine zP rfl ?_ | refine zQ ?_ | ((first | refine zR ?_ | refine zS ?_ | refine zT ?_ | skip); intro K k; simp (disch := (first | (simp only [yD2, beq_self_eq_true, Nat.reduceLT, Nat.reduceAdd]; done) | ((fail_if_success (apply Bool.eq_iff_iff.2)); first | omega | (simp only [yD2, beq_self_eq_true, Nat.reduceLT, Nat.reduceAdd] <;> omega)) | fail)) only [↓yS, yT, ↓reduceIte, Nat.reduceEqDiff, Nat.reduceAdd, Nat.reduceMul, reduceCtorEq, Int.reduceToNat, g50]; refine yC (k _ _ ?_); clear k K) | ((first | refine zU ?_ | refine zV ?_ | refine zW ?_); intro A B C D a b c d; simp only [↓yG, Nat.reduceEqDiff, ↓reduceIte, g50]; (first | refine zX (a ?_) | refine zY (b ?_) | refine zZ (fun hc => c ?_) (fun hc => d ?_)) <;> clear a b c d A B C D <;> try simp only [yL] at hc) | (refine yA ?_; intro A a; simp only [↓yG, Nat.reduceEqDiff, ↓reduceIte, g50]; refine yB (a ?_); clear a A) | (refine yD ?_; simp only [gresults, ↓yG, Nat.reduceEqDiff, ↓reduceIte, Option.bind_some, gld_1, gld_n, g50]; refine ⟨_, rfl, ?_⟩; simp only [gone]))
  refine Gw_s fun K' hK' => G1_call (by simp only [gtarget, ↓GArg.ev, ↓evs, ↓Tr.get_set, Nat.reduceEqDiff, if_true, if_false, ↓reduceIte, Option.map_some]; rfl) (one_of (sindex2_ok hl _)) fun r1 H1 hq1 => hK' _ _ ?_
  obtain ⟨rfl, rfl⟩ := hq1
  repeat' (first | refine zA ?_ | refine zB ?_ | refine zC ?_ | refine zD ?_ | refine zE ?_ | refine zF ?_ | refine zG ?_ | refine zH ?_ | refine zI ?_ | refine zJ ?_ | refine zK rfl ?_ | refine zL ?_ | refine zM ?_ | refine zN ?_ | refine zO ?_ | refine zP rfl ?_ | refine zQ ?_ | ((first | refine zR ?_ | refine zS ?_ | refine zT ?_ | skip); intro K k; simp (disch := (first | (simp only [yD2, beq_self_eq_true, Nat.reduceLT, Nat.reduceAdd]; done) | ((fail_if_success (apply Bool.eq_iff_iff.2)); first | omega | (simp only [yD2, beq_self_eq_true, Nat.reduceLT, Nat.reduceAdd] <;> omega)) | fail)) only [↓yS, yT, ↓reduceIte, Nat.reduceEqDiff, Nat.reduceAdd, Nat.reduceMul, reduceCtorEq, Int.reduceToNat, g50]; refine yC (k _ _ ?_); clear k K) | ((first | refine zU ?_ | refine zV ?_ | refine zW ?_); intro A B C D a b c d; simp only [↓yG, Nat.reduceEqDiff, ↓reduceIte, g50]; (first | refine zX (a ?_) | refine zY (b ?_) | refine zZ (fun hc => c ?_) (fun hc => d ?_)) <;> clear a b c d A B C D <;> try simp only [yL] at hc) | (refine yA ?_; intro A a; simp only [↓yG, Nat.reduceEqDiff, ↓reduceIte, g50]; refine yB (a ?_); clear a A) | (refine yD ?_; simp only [gresults, ↓yG, Nat.reduceEqDiff, ↓reduceIte, Option.bind_some, gld_1, gld_n, g50]; refine ⟨_, rfl, ?_⟩; simp only [gone]))
  rw [h1]
  exact hPost _
/-! ### token.Check -/
theorem tkC_0 (x : Tk) : (tkC x)[0]? = some (.string (strB x.t)) := rfl
theorem tkC_1 (x : Tk) : (tkC x)[1]? = some (.int .i64 x.s) := rfl
theorem tkC_flat (x : Tk) : (tkC x).all flatV = true := by simp [tkC, flatV]
theorem tk_cells (x : Tk) : (tkV x).cells.toList = tkC x := rfl
theorem tk_cflat (x : Tk) : (tkV x).cells.all flatV = true := by rw [← Array.all_toList]; exact tkC_flat x
theorem gsetn_tk {cs : List Value} {x : Tk} (h : cs.length = 2) : gsetn cs 0 2 (tkV x) = some (tkC x) := gsetn_all h rfl (by simp [flatV])
theorem KN : type_of% (And.intro (And.intro @tkC_0 @tkC_1) (And.intro (And.intro @tk_cells @tk_cflat) @gsetn_tk)) := ⟨⟨@tkC_0, @tkC_1⟩, ⟨⟨@tk_cells, @tk_cflat⟩, @gsetn_tk⟩⟩
/-- texts of a length that can be looked at -/
def ShK (l : List Tk) : Prop := ∀ x ∈ l, x.t.length ≤ 140737488355328
theorem drop_bangK {l : List Tk} {n : Nat} (h : n < l.length) : l.drop n = l[n]! :: l.drop (n + 1) := by rw [List.drop_eq_getElem_cons h, getElem!_pos l n h]
theorem mem_bangK {l : List Tk} {n : Nat} (h : n < l.length) : l[n]! ∈ l := by rw [getElem!_pos l n h]; exact List.getElem_mem _
theorem tcheck_ok {H : GHeap} (hw : H.wf) {v : Value} {l : List Tk} (hv : KR H v l) (hll : l.length ≤ 4611686018427387904) (hsh : ShK l) :
    ∃ r H', gev G 32 [v] H = some (r, H') ∧ (r = .int .i64 (tkF l) ∧ Same H H') := by
  refine gev_GW (f := 32) rfl fun Post hPost => ?_
  have hlim := hw.1
  have hsl := hv.isSl
  simp only [frameOf, Nat.reduceAdd]
  repeat' (first | refine zA ?_ | refine zB ?_ | refine zC ?_ | refine zD ?_ | refine zE ?_ | refine zF ?_ | refine zG ?_ | refine zH ?_ | refine zI ?_ | refine zJ ?_ | refine zK rfl ?_ | refine zL ?_ | refine zM ?_ | refine zN ?_ | refine zO ?_ | refine zP rfl ?_ | refine zQ ?_ | ((first | refine zR ?_ | refine zS ?_ | refine zT ?_ | skip); intro K k; simp (disch := (first | (simp only [yD2, beq_self_eq_true, Nat.reduceLT, Nat.reduceAdd]; done) | ((fail_if_success (apply Bool.eq_iff_iff.2)); first | omega | (simp only [yD2, beq_self_eq_true, Nat.reduceLT, Nat.reduceAdd] <;> omega)) | fail)) only [↓yS, yT, ↓reduceIte, Nat.reduceEqDiff, Nat.reduceAdd, Nat.reduceMul, reduceCtorEq, Int.reduceToNat, g32, hsl.len]; refine yC (k _ _ ?_); clear k K) | ((first | refine zU ?_ | refine zV ?_ | refine zW ?_); intro A B C D a b c d; simp only [↓yG, Nat.reduceEqDiff, ↓reduceIte, g32, hsl.len]; (first | refine zX (a ?_) | refine zY (b ?_) | refine zZ (fun hc => c ?_) (fun hc => d ?_)) <;> clear a b c d A B C D <;> try simp only [yL] at hc) | (refine yA ?_; intro A a; simp only [↓yG, Nat.reduceEqDiff, ↓reduceIte, g32, hsl.len]; refine yB (a ?_); clear a A) | (refine yD ?_; simp only [gresults, ↓yG, Nat.reduceEqDiff, ↓reduceIte, Option.bind_some, gld_1, gld_n, g32, hsl.len]; refine ⟨_, rfl, ?_⟩; simp only [gone]))
  case refine_1 => exact hPost _ _ ⟨by rw [tkF, if_pos (by omega)], Same.refl hw⟩
  have hcf : tkF l = tkGo l := by rw [tkF, if_neg (by omega)]
  refine GW_loop (fun k fr H1 => ∃ (j : Nat), k = l.length - j ∧ j ≤ l.length ∧ fr.get 8 = some (v) ∧ fr.get 9 = some (.int .i64 l.length) ∧ fr.get 10 = some (.int .i64 j) ∧ Same H H1 ∧ tkF l = tkGo (l.drop j)) ?_ l.length ?_
  rotate_left
  · refine ⟨0, by omega, by omega, ?_⟩
    simp only [↓yG, Nat.reduceEqDiff, ↓reduceIte, Int.natCast_add, Int.cast_ofNat_Int, Int.natCast_zero, true_and, and_true, Option.some.injEq, Value.int.injEq]
    exact ⟨Same.refl hw, hcf⟩
  rintro k fr H1 ⟨j, rfl, hj, f8, f9, f10, hS, hck⟩ J hJ
  have hw1 := hS.wf
  have hlim1 := hw1.1
  by_cases hj1 : j < l.length
  · have e1 := (hv.later hw hS).rowN hj1
    have hmem := mem_bangK hj1
    have hs1 := hsh _ hmem
    rw [drop_bangK hj1, tkGo] at hck
    generalize l[j]! = x at *
    have hS2 : Same H1 ((H1.add (some (.cells [.string ⟨#[]⟩, .int .i64 0] 0 true))).put H1.len (.cells (tkC x) 0 true)) := (Same.refl hw1).new _ _
    have x0 : ((H1.add (some (.cells [.string ⟨#[]⟩, .int .i64 0] 0 true))).put H1.len (.cells (tkC x) 0 true)).rd H1.len 0 = some (.string (strB x.t)) := by rw [rd_put_same]; rfl
    have x1 : ((H1.add (some (.cells [.string ⟨#[]⟩, .int .i64 0] 0 true))).put H1.len (.cells (tkC x) 0 true)).rd H1.len 1 = some (.int .i64 x.s) := by rw [rd_put_same]; rfl
    have hbad : tk1 x ≠ 0 → tkF l = tk1 x := fun h => by rw [hck, if_neg h]
    have hgo : tk1 x = 0 → tkF l = tkGo (l.drop (j + 1)) := fun h => by rw [hck, if_pos h]
    by_cases ht : x.t = []
    · have hyt := eq_true ht
      have h1 : tk1 x = 4 := if_pos (.inl ht)
      repeat' (first | (exfalso; omega) | refine zA ?_ | refine zB ?_ | refine zC ?_ | refine zD ?_ | refine zE ?_ | refine zF ?_ | refine zG ?_ | refine zH ?_ | refine zI ?_ | refine zJ ?_ | refine zK rfl ?_ | refine zL ?_ | refine zM ?_ | refine zN ?_ | refine zO ?_ | refine zP rfl ?_ | refine zQ ?_ | ((first | refine zR ?_ | refine zS ?_ | refine zT ?_ | skip); intro K k; simp (disch := (first | (simp only [yD2, beq_self_eq_true, Nat.reduceLT, Nat.reduceAdd]; done) | ((fail_if_success (apply Bool.eq_iff_iff.2)); first | omega | (simp only [yD2, beq_self_eq_true, Nat.reduceLT, Nat.reduceAdd] <;> omega)) | fail)) only [↓yS, yT, ↓reduceIte, Nat.reduceEqDiff, Nat.reduceAdd, Nat.reduceMul, reduceCtorEq, Int.reduceToNat, g32, f8, f9, f10, KN, hsl.ia, e1, x0, gb_eqE, hyt, decide_true]; refine yC (k _ _ ?_); clear k K) | ((first | refine zU ?_ | refine zV ?_ | refine zW ?_); intro A B C D a b c d; simp only [↓yG, Nat.reduceEqDiff, ↓reduceIte, g32, f8, f9, f10, KN, hsl.ia, e1, x0, gb_eqE, hyt, decide_true]; (first | refine zX (a ?_) | refine zY (b ?_) | refine zZ (fun hc => c ?_) (fun hc => d ?_)) <;> clear a b c d A B C D <;> try simp only [yL] at hc) | (refine yA ?_; intro A a; simp only [↓yG, Nat.reduceEqDiff, ↓reduceIte, g32, f8, f9, f10, KN, hsl.ia, e1, x0, gb_eqE, hyt, decide_true]; refine yB (a ?_); clear a A) | (refine yD ?_; simp only [gresults, ↓yG, Nat.reduceEqDiff, ↓reduceIte, Option.bind_some, gld_1, gld_n, g32, f8, f9, f10, KN, hsl.ia, e1, x0, gb_eqE, hyt, decide_true]; refine ⟨_, rfl, ?_⟩; simp only [gone]))
      exact hPost _ _ ⟨by rw [hbad (by rw [h1]; decide), h1], hS.trans hS2⟩
    · have hyt := eq_false ht
      repeat' (first | (exfalso; omega) | refine zA ?_ | refine zB ?_ | refine zC ?_ | refine zD ?_ | refine zE ?_ | refine zF ?_ | refine zG ?_ | refine zH ?_ | refine zI ?_ | refine zJ ?_ | refine zK rfl ?_ | refine zL ?_ | refine zM ?_ | refine zN ?_ | refine zO ?_ | refine zP rfl ?_ | refine zQ ?_ | ((first | refine zR ?_ | refine zS ?_ | refine zT ?_ | skip); intro K k; simp (disch := (first | (simp only [yD2, beq_self_eq_true, Nat.reduceLT, Nat.reduceAdd]; done) | ((fail_if_success (apply Bool.eq_iff_iff.2)); first | omega | (simp only [yD2, beq_self_eq_true, Nat.reduceLT, Nat.reduceAdd] <;> omega)) | fail)) only [↓yS, yT, ↓reduceIte, Nat.reduceEqDiff, Nat.reduceAdd, Nat.reduceMul, reduceCtorEq, Int.reduceToNat, g32, f8, f9, f10, KN, hsl.ia, e1, x0, gb_eqE, hyt, decide_false]; refine yC (k _ _ ?_); clear k K) | ((first | refine zU ?_ | refine zV ?_ | refine zW ?_); intro A B C D a b c d; simp only [↓yG, Nat.reduceEqDiff, ↓reduceIte, g32, f8, f9, f10, KN, hsl.ia, e1, x0, gb_eqE, hyt, decide_false]; (first | refine zX (a ?_) | refine zY (b ?_) | refine zZ (fun hc => c ?_) (fun hc => d ?_)) <;> clear a b c d A B C D <;> try simp only [yL] at hc) | (refine yA ?_; intro A a; simp only [↓yG, Nat.reduceEqDiff, ↓reduceIte, g32, f8, f9, f10, KN, hsl.ia, e1, x0, gb_eqE, hyt, decide_false]; refine yB (a ?_); clear a A) | (refine yD ?_; simp only [gresults, ↓yG, Nat.reduceEqDiff, ↓reduceIte, Option.bind_some, gld_1, gld_n, g32, f8, f9, f10, KN, hsl.ia, e1, x0, gb_eqE, hyt, decide_false]; refine ⟨_, rfl, ?_⟩; simp only [gone]))
      generalize (H1.add (some (.cells [.string ⟨#[]⟩, .int .i64 0] 0 true))).put H1.len (.cells (tkC x) 0 true) = H2 at *
      intro K' hK'; refine G1_call (by simp only [gtarget, ↓GArg.ev, ↓evs, ↓Tr.get_set, Nat.reduceEqDiff, if_true, if_false, ↓reduceIte, Option.map_some, f8, f9, f10]; rfl) (one_of (contains_ok rfl hs1 _)) fun r3 H3 hq => hK' _ _ ?_
      obtain ⟨rfl, rfl⟩ := hq
      by_cases h32 : 32 ∈ x.t
      · have h1 : tk1 x = 4 := if_pos (.inr h32)
        rw [decide_eq_true h32]
        repeat' (first | (exfalso; omega) | refine zA ?_ | refine zB ?_ | refine zC ?_ | refine zD ?_ | refine zE ?_ | refine zF ?_ | refine zG ?_ | refine zH ?_ | refine zI ?_ | refine zJ ?_ | refine zK rfl ?_ | refine zL ?_ | refine zM ?_ | refine zN ?_ | refine zO ?_ | refine zP rfl ?_ | refine zQ ?_ | ((first | refine zR ?_ | refine zS ?_ | refine zT ?_ | skip); intro K k; simp (disch := (first | (simp only [yD2, beq_self_eq_true, Nat.reduceLT, Nat.reduceAdd]; done) | ((fail_if_success (apply Bool.eq_iff_iff.2)); first | omega | (simp only [yD2, beq_self_eq_true, Nat.reduceLT, Nat.reduceAdd] <;> omega)) | fail)) only [↓yS, yT, ↓reduceIte, Nat.reduceEqDiff, Nat.reduceAdd, Nat.reduceMul, reduceCtorEq, Int.reduceToNat, g32, f8, f9, f10]; refine yC (k _ _ ?_); clear k K) | ((first | refine zU ?_ | refine zV ?_ | refine zW ?_); intro A B C D a b c d; simp only [↓yG, Nat.reduceEqDiff, ↓reduceIte, g32, f8, f9, f10]; (first | refine zX (a ?_) | refine zY (b ?_) | refine zZ (fun hc => c ?_) (fun hc => d ?_)) <;> clear a b c d A B C D <;> try simp only [yL] at hc) | (refine yA ?_; intro A a; simp only [↓yG, Nat.reduceEqDiff, ↓reduceIte, g32, f8, f9, f10]; refine yB (a ?_); clear a A) | (refine yD ?_; simp only [gresults, ↓yG, Nat.reduceEqDiff, ↓reduceIte, Option.bind_some, gld_1, gld_n, g32, f8, f9, f10]; refine ⟨_, rfl, ?_⟩; simp only [gone]))
        exact hPost _ _ ⟨by rw [hbad (by rw [h1]; decide), h1], hS.trans hS2⟩
      · rw [decide_eq_false h32]
        have hno : ¬ (x.t = [] ∨ 32 ∈ x.t) := fun h => h.elim ht h32
        repeat' (first | (exfalso; omega) | refine zA ?_ | refine zB ?_ | refine zC ?_ | refine zD ?_ | refine zE ?_ | refine zF ?_ | refine zG ?_ | refine zH ?_ | refine zI ?_ | refine zJ ?_ | refine zK rfl ?_ | refine zL ?_ | refine zM ?_ | refine zN ?_ | refine zO ?_ | refine zP rfl ?_ | refine zQ ?_ | ((first | refine zR ?_ | refine zS ?_ | refine zT ?_ | skip); intro K k; simp (disch := (first | (simp only [yD2, beq_self_eq_true, Nat.reduceLT, Nat.reduceAdd]; done) | ((fail_if_success (apply Bool.eq_iff_iff.2)); first | omega | (simp only [yD2, beq_self_eq_true, Nat.reduceLT, Nat.reduceAdd] <;> omega)) | fail)) only [↓yS, yT, ↓reduceIte, Nat.reduceEqDiff, Nat.reduceAdd, Nat.reduceMul, reduceCtorEq, Int.reduceToNat, g32, f8, f9, f10, x0]; refine yC (k _ _ ?_); clear k K) | ((first | refine zU ?_ | refine zV ?_ | refine zW ?_); intro A B C D a b c d; simp only [↓yG, Nat.reduceEqDiff, ↓reduceIte, g32, f8, f9, f10, x0]; (first | refine zX (a ?_) | refine zY (b ?_) | refine zZ (fun hc => c ?_) (fun hc => d ?_)) <;> clear a b c d A B C D <;> try simp only [yL] at hc) | (refine yA ?_; intro A a; simp only [↓yG, Nat.reduceEqDiff, ↓reduceIte, g32, f8, f9, f10, x0]; refine yB (a ?_); clear a A) | (refine yD ?_; simp only [gresults, ↓yG, Nat.reduceEqDiff, ↓reduceIte, Option.bind_some, gld_1, gld_n, g32, f8, f9, f10, x0]; refine ⟨_, rfl, ?_⟩; simp only [gone]))
        refine Gw_s fun K' hK' => G1_call (by simp only [gtarget, ↓GArg.ev, ↓evs, ↓Tr.get_set, Nat.reduceEqDiff, if_true, if_false, ↓reduceIte, Option.map_some, f8, f9, f10]; rfl) (one_of (valid_ok (s := strB x.t) (by rw [strB_size]; exact hs1) _)) fun r4 H4 hq => hK' _ _ ?_
        obtain ⟨rfl, rfl⟩ := hq
        cases hvl : vldB (strB x.t) with
        | false =>
          have h1 : tk1 x = 10 := by rw [tk1, if_neg hno, if_pos hvl]
          repeat' (first | (exfalso; omega) | refine zA ?_ | refine zB ?_ | refine zC ?_ | refine zD ?_ | refine zE ?_ | refine zF ?_ | refine zG ?_ | refine zH ?_ | refine zI ?_ | refine zJ ?_ | refine zK rfl ?_ | refine zL ?_ | refine zM ?_ | refine zN ?_ | refine zO ?_ | refine zP rfl ?_ | refine zQ ?_ | ((first | refine zR ?_ | refine zS ?_ | refine zT ?_ | skip); intro K k; simp (disch := (first | (simp only [yD2, beq_self_eq_true, Nat.reduceLT, Nat.reduceAdd]; done) | ((fail_if_success (apply Bool.eq_iff_iff.2)); first | omega | (simp only [yD2, beq_self_eq_true, Nat.reduceLT, Nat.reduceAdd] <;> omega)) | fail)) only [↓yS, yT, ↓reduceIte, Nat.reduceEqDiff, Nat.reduceAdd, Nat.reduceMul, reduceCtorEq, Int.reduceToNat, g32, f8, f9, f10]; refine yC (k _ _ ?_); clear k K) | ((first | refine zU ?_ | refine zV ?_ | refine zW ?_); intro A B C D a b c d; simp only [↓yG, Nat.reduceEqDiff, ↓reduceIte, g32, f8, f9, f10]; (first | refine zX (a ?_) | refine zY (b ?_) | refine zZ (fun hc => c ?_) (fun hc => d ?_)) <;> clear a b c d A B C D <;> try simp only [yL] at hc) | (refine yA ?_; intro A a; simp only [↓yG, Nat.reduceEqDiff, ↓reduceIte, g32, f8, f9, f10]; refine yB (a ?_); clear a A) | (refine yD ?_; simp only [gresults, ↓yG, Nat.reduceEqDiff, ↓reduceIte, Option.bind_some, gld_1, gld_n, g32, f8, f9, f10]; refine ⟨_, rfl, ?_⟩; simp only [gone]))
          exact hPost _ _ ⟨by rw [hbad (by rw [h1]; decide), h1], hS.trans hS2⟩
        | true =>
          have h0 : tk1 x = if x.s < 0 ∨ 5 < x.s then 2 else 0 := by rw [tk1, if_neg hno, if_neg (by rw [hvl]; decide)]
          have hsplit : x.s < 0 ∨ (¬ x.s < 0 ∧ 5 < x.s) ∨ (¬ x.s < 0 ∧ ¬ 5 < x.s) := by omega
          rcases hsplit with h | h | h
          case' inl => have h1 : tk1 x = 2 := by rw [h0, if_pos (by omega)]
          case' inr.inl => have h1 : tk1 x = 2 := by rw [h0, if_pos (by omega)]
          case' inr.inr => have h1 : tk1 x = 0 := by rw [h0, if_neg (by omega)]
          all_goals
            repeat' (first | (exfalso; omega) | refine zA ?_ | refine zB ?_ | refine zC ?_ | refine zD ?_ | refine zE ?_ | refine zF ?_ | refine zG ?_ | refine zH ?_ | refine zI ?_ | refine zJ ?_ | refine zK rfl ?_ | refine zL ?_ | refine zM ?_ | refine zN ?_ | refine zO ?_ | refine zP rfl ?_ | refine zQ ?_ | ((first | refine zR ?_ | refine zS ?_ | refine zT ?_ | skip); intro K k; simp (disch := (first | (simp only [yD2, beq_self_eq_true, Nat.reduceLT, Nat.reduceAdd]; done) | ((fail_if_success (apply Bool.eq_iff_iff.2)); first | omega | (simp only [yD2, beq_self_eq_true, Nat.reduceLT, Nat.reduceAdd] <;> omega)) | fail)) only [↓yS, yT, ↓reduceIte, Nat.reduceEqDiff, Nat.reduceAdd, Nat.reduceMul, reduceCtorEq, Int.reduceToNat, g32, f8, f9, f10, x1]; refine yC (k _ _ ?_); clear k K) | ((first | refine zU ?_ | refine zV ?_ | refine zW ?_); intro A B C D a b c d; simp only [↓yG, Nat.reduceEqDiff, ↓reduceIte, g32, f8, f9, f10, x1]; (first | refine zX (a ?_) | refine zY (b ?_) | refine zZ (fun hc => c ?_) (fun hc => d ?_)) <;> clear a b c d A B C D <;> try simp only [yL] at hc) | (refine yA ?_; intro A a; simp only [↓yG, Nat.reduceEqDiff, ↓reduceIte, g32, f8, f9, f10, x1]; refine yB (a ?_); clear a A) | (refine yD ?_; simp only [gresults, ↓yG, Nat.reduceEqDiff, ↓reduceIte, Option.bind_some, gld_1, gld_n, g32, f8, f9, f10, x1]; refine ⟨_, rfl, ?_⟩; simp only [gone]))
          all_goals first
            | exact hPost _ _ ⟨by rw [hbad (by rw [h1]; decide), h1], hS.trans hS2⟩
            | skip
          refine hJ _ _ ⟨l.length - (j + 1), by omega, j + 1, rfl, by omega, ?_⟩
          simp only [↓yG, Nat.reduceEqDiff, ↓reduceIte, Int.natCast_add, Int.cast_ofNat_Int, Int.natCast_zero, true_and, and_true, Option.some.injEq, Value.int.injEq, f8, f9]
          exact ⟨hS.trans hS2, hgo h1⟩
  · obtain rfl : j = l.length := by omega
    rw [List.drop_length] at hck
    repeat' (first | (exfalso; omega) | refine zA ?_ | refine zB ?_ | refine zC ?_ | refine zD ?_ | refine zE ?_ | refine zF ?_ | refine zG ?_ | refine zH ?_ | refine zI ?_ | refine zJ ?_ | refine zK rfl ?_ | refine zL ?_ | refine zM ?_ | refine zN ?_ | refine zO ?_ | refine zP rfl ?_ | refine zQ ?_ | ((first | refine zR ?_ | refine zS ?_ | refine zT ?_ | skip); intro K k; simp (disch := (first | (simp only [yD2, beq_self_eq_true, Nat.reduceLT, Nat.reduceAdd]; done) | ((fail_if_success (apply Bool.eq_iff_iff.2)); first | omega | (simp only [yD2, beq_self_eq_true, Nat.reduceLT, Nat.reduceAdd] <;> omega)) | fail)) only [↓yS, yT, ↓reduceIte, Nat.reduceEqDiff, Nat.reduceAdd, Nat.reduceMul, reduceCtorEq, Int.reduceToNat, g32, f8, f9, f10]; refine yC (k _ _ ?_); clear k K) | ((first | refine zU ?_ | refine zV ?_ | refine zW ?_); intro A B C D a b c d; simp only [↓yG, Nat.reduceEqDiff, ↓reduceIte, g32, f8, f9, f10]; (first | refine zX (a ?_) | refine zY (b ?_) | refine zZ (fun hc => c ?_) (fun hc => d ?_)) <;> clear a b c d A B C D <;> try simp only [yL] at hc) | (refine yA ?_; intro A a; simp only [↓yG, Nat.reduceEqDiff, ↓reduceIte, g32, f8, f9, f10]; refine yB (a ?_); clear a A) | (refine yD ?_; simp only [gresults, ↓yG, Nat.reduceEqDiff, ↓reduceIte, Option.bind_some, gld_1, gld_n, g32, f8, f9, f10]; refine ⟨_, rfl, ?_⟩; simp only [gone]))
    exact hPost _ _ ⟨by rw [hck]; rfl, hS⟩
/-! ### the reference's Check of tokens -/
theorem mem_take_succ {l : List UInt8} {j : Nat} (h : j < l.length) {c : UInt8} (hn : c ∉ l.take j) (hc : l[j]! ≠ c) : c ∉ l.take (j + 1) := by
  rw [List.take_succ_eq_append_getElem h]
  intro hm
  rcases List.mem_append.1 hm with hm | hm
  · exact hn hm
  · rw [getElem!_pos l j h] at hc
    simp at hm; exact hc hm.symm
theorem rtcheck_ok {H : GHeap} (hw : H.wf) {v : Value} {l : List Tk} (hv : KR H v l) (hll : l.length ≤ 4611686018427387904) (hsh : ShK l) :
    ∃ r H', gev G 34 [v] H = some (r, H') ∧ (r = .int .i64 (tkF l) ∧ Same H H') := by
  refine gev_GW (f := 34) rfl fun Post hPost => ?_
  have hlim := hw.1
  have hsl := hv.isSl
  simp only [frameOf, Nat.reduceAdd]
  repeat' (first | refine zA ?_ | refine zB ?_ | refine zC ?_ | refine zD ?_ | refine zE ?_ | refine zF ?_ | refine zG ?_ | refine zH ?_ | refine zI ?_ | refine zJ ?_ | refine zK rfl ?_ | refine zL ?_ | refine zM ?_ | refine zN ?_ | refine zO ?_ | refine zP rfl ?_ | refine zQ ?_ | ((first | refine zR ?_ | refine zS ?_ | refine zT ?_ | skip); intro K k; simp (disch := (first | (simp only [yD2, beq_self_eq_true, Nat.reduceLT, Nat.reduceAdd]; done) | ((fail_if_success (apply Bool.eq_iff_iff.2)); first | omega | (simp only [yD2, beq_self_eq_true, Nat.reduceLT, Nat.reduceAdd] <;> omega)) | fail)) only [↓yS, yT, ↓reduceIte, Nat.reduceEqDiff, Nat.reduceAdd, Nat.reduceMul, reduceCtorEq, Int.reduceToNat, g34, hsl.len]; refine yC (k _ _ ?_); clear k K) | ((first | refine zU ?_ | refine zV ?_ | refine zW ?_); intro A B C D a b c d; simp only [↓yG, Nat.reduceEqDiff, ↓reduceIte, g34, hsl.len]; (first | refine zX (a ?_) | refine zY (b ?_) | refine zZ (fun hc => c ?_) (fun hc => d ?_)) <;> clear a b c d A B C D <;> try simp only [yL] at hc) | (refine yA ?_; intro A a; simp only [↓yG, Nat.reduceEqDiff, ↓reduceIte, g34, hsl.len]; refine yB (a ?_); clear a A) | (refine yD ?_; simp only [gresults, ↓yG, Nat.reduceEqDiff, ↓reduceIte, Option.bind_some, gld_1, gld_n, g34, hsl.len]; refine ⟨_, rfl, ?_⟩; simp only [gone]))
  case refine_1 => exact hPost _ _ ⟨by rw [tkF, if_pos (by omega)], Same.refl hw⟩
  have hcf : tkF l = tkGo l := by rw [tkF, if_neg (by omega)]
  refine GW_loop (fun k fr H1 => ∃ (j : Nat), k = l.length - j ∧ j ≤ l.length ∧ fr.get 9 = some (v) ∧ fr.get 10 = some (.int .i64 l.length) ∧ fr.get 11 = some (.int .i64 j) ∧ Same H H1 ∧ tkF l = tkGo (l.drop j)) ?_ l.length ?_
  rotate_left
  · refine ⟨0, by omega, by omega, ?_⟩
    simp only [↓yG, Nat.reduceEqDiff, ↓reduceIte, Int.natCast_add, Int.cast_ofNat_Int, Int.natCast_zero, true_and, and_true, Option.some.injEq, Value.int.injEq]
    exact ⟨Same.refl hw, hcf⟩
  rintro k fr H1 ⟨j, rfl, hj, f9, f10, f11, hS, hck⟩ J hJ
  have hw1 := hS.wf
  have hlim1 := hw1.1
  by_cases hj1 : j < l.length
  · have e1 := (hv.later hw hS).rowN hj1
    have hmem := mem_bangK hj1
    have hs1 := hsh _ hmem
    rw [drop_bangK hj1, tkGo] at hck
    generalize l[j]! = x at *
    have hS2 : Same H1 ((H1.add (some (.cells [.string ⟨#[]⟩, .int .i64 0] 0 true))).put H1.len (.cells (tkC x) 0 true)) := (Same.refl hw1).new _ _
    have x0 : ((H1.add (some (.cells [.string ⟨#[]⟩, .int .i64 0] 0 true))).put H1.len (.cells (tkC x) 0 true)).rd H1.len 0 = some (.string (strB x.t)) := by rw [rd_put_same]; rfl
    have x1 : ((H1.add (some (.cells [.string ⟨#[]⟩, .int .i64 0] 0 true))).put H1.len (.cells (tkC x) 0 true)).rd H1.len 1 = some (.int .i64 x.s) := by rw [rd_put_same]; rfl
    have hbad : tk1 x ≠ 0 → tkF l = tk1 x := fun h => by rw [hck, if_neg h]
    have hgo : tk1 x = 0 → tkF l = tkGo (l.drop (j + 1)) := fun h => by rw [hck, if_pos h]
    by_cases ht : x.t = []
    · have hyt := eq_true ht
      have h1 : tk1 x = 4 := if_pos (.inl ht)
      repeat' (first | (exfalso; omega) | refine zA ?_ | refine zB ?_ | refine zC ?_ | refine zD ?_ | refine zE ?_ | refine zF ?_ | refine zG ?_ | refine zH ?_ | refine zI ?_ | refine zJ ?_ | refine zK rfl ?_ | refine zL ?_ | refine zM ?_ | refine zN ?_ | refine zO ?_ | refine zP rfl ?_ | refine zQ ?_ | ((first | refine zR ?_ | refine zS ?_ | refine zT ?_ | skip); intro K k; simp (disch := (first | (simp only [yD2, beq_self_eq_true, Nat.reduceLT, Nat.reduceAdd]; done) | ((fail_if_success (apply Bool.eq_iff_iff.2)); first | omega | (simp only [yD2, beq_self_eq_true, Nat.reduceLT, Nat.reduceAdd] <;> omega)) | fail)) only [↓yS, yT, ↓reduceIte, Nat.reduceEqDiff, Nat.reduceAdd, Nat.reduceMul, reduceCtorEq, Int.reduceToNat, g34, f9, f10, f11, KN, hsl.ia, e1, x0, gb_eqE, hyt, decide_true]; refine yC (k _ _ ?_); clear k K) | ((first | refine zU ?_ | refine zV ?_ | refine zW ?_); intro A B C D a b c d; simp only [↓yG, Nat.reduceEqDiff, ↓reduceIte, g34, f9, f10, f11, KN, hsl.ia, e1, x0, gb_eqE, hyt, decide_true]; (first | refine zX (a ?_) | refine zY (b ?_) | refine zZ (fun hc => c ?_) (fun hc => d ?_)) <;> clear a b c d A B C D <;> try simp only [yL] at hc) | (refine yA ?_; intro A a; simp only [↓yG, Nat.reduceEqDiff, ↓reduceIte, g34, f9, f10, f11, KN, hsl.ia, e1, x0, gb_eqE, hyt, decide_true]; refine yB (a ?_); clear a A) | (refine yD ?_; simp only [gresults, ↓yG, Nat.reduceEqDiff, ↓reduceIte, Option.bind_some, gld_1, gld_n, g34, f9, f10, f11, KN, hsl.ia, e1, x0, gb_eqE, hyt, decide_true]; refine ⟨_, rfl, ?_⟩; simp only [gone]))
      exact hPost _ _ ⟨by rw [hbad (by rw [h1]; decide), h1], hS.trans hS2⟩
    · have hyt := eq_false ht
      repeat' (first | (exfalso; omega) | refine zA ?_ | refine zB ?_ | refine zC ?_ | refine zD ?_ | refine zE ?_ | refine zF ?_ | refine zG ?_ | refine zH ?_ | refine zI ?_ | refine zJ ?_ | refine zK rfl ?_ | refine zL ?_ | refine zM ?_ | refine zN ?_ | refine zO ?_ | refine zP rfl ?_ | refine zQ ?_ | ((first | refine zR ?_ | refine zS ?_ | refine zT ?_ | skip); intro K k; simp (disch := (first | (simp only [yD2, beq_self_eq_true, Nat.reduceLT, Nat.reduceAdd]; done) | ((fail_if_success (apply Bool.eq_iff_iff.2)); first | omega | (simp only [yD2, beq_self_eq_true, Nat.reduceLT, Nat.reduceAdd] <;> omega)) | fail)) only [↓yS, yT, ↓reduceIte, Nat.reduceEqDiff, Nat.reduceAdd, Nat.reduceMul, reduceCtorEq, Int.reduceToNat, g34, f9, f10, f11, KN, hsl.ia, e1, x0, gb_eqE, hyt, decide_false]; refine yC (k _ _ ?_); clear k K) | ((first | refine zU ?_ | refine zV ?_ | refine zW ?_); intro A B C D a b c d; simp only [↓yG, Nat.reduceEqDiff, ↓reduceIte, g34, f9, f10, f11, KN, hsl.ia, e1, x0, gb_eqE, hyt, decide_false]; (first | refine zX (a ?_) | refine zY (b ?_) | refine zZ (fun hc => c ?_) (fun hc => d ?_)) <;> clear a b c d A B C D <;> try simp only [yL] at hc) | (refine yA ?_; intro A a; simp only [↓yG, Nat.reduceEqDiff, ↓reduceIte, g34, f9, f10, f11, KN, hsl.ia, e1, x0, gb_eqE, hyt, decide_false]; refine yB (a ?_); clear a A) | (refine yD ?_; simp only [gresults, ↓yG, Nat.reduceEqDiff, ↓reduceIte, Option.bind_some, gld_1, gld_n, g34, f9, f10, f11, KN, hsl.ia, e1, x0, gb_eqE, hyt, decide_false]; refine ⟨_, rfl, ?_⟩; simp only [gone]))
      generalize (H1.add (some (.cells [.string ⟨#[]⟩, .int .i64 0] 0 true))).put H1.len (.cells (tkC x) 0 true) = H2 at *
      refine GW_loop (fun k fr H3 => ∃ (i : Nat), k = x.t.length - i ∧ i ≤ x.t.length ∧ fr.get 4 = some (.pointer (some ⟨H1.len, 0, none⟩)) ∧ fr.get 5 = some (.int .i64 i) ∧ fr.get 9 = some (v) ∧ fr.get 10 = some (.int .i64 l.length) ∧ fr.get 11 = some (.int .i64 j) ∧ H3 = H2 ∧ 32 ∉ x.t.take i) ?_ x.t.length ?_
      rotate_left
      · refine ⟨0, by omega, by omega, ?_⟩
        simp only [↓yG, Nat.reduceEqDiff, ↓reduceIte, Int.natCast_add, Int.cast_ofNat_Int, Int.natCast_zero, true_and, and_true, Option.some.injEq, Value.int.injEq, f9, f10, f11]
        first | exact ⟨rfl, by simp⟩ | simp
      rintro k fr2 H3 ⟨i, rfl, hi, i4, i5, i9, i10, i11, rfl, hno⟩ J2 hJ2
      by_cases hi1 : i < x.t.length
      · have eb : ∀ k : IntKind, gix none (.string (strB x.t)) (.int k (i : Int)) = some (.int .u8 (x.t[i]!.toNat : Int)) := fun k => by
          have h2 : (strB x.t)[i]? = some x.t[i]! := by
            show (strB x.t).data[i]? = _
            have : (strB x.t).data = x.t.toArray := rfl
            rw [this, List.getElem?_toArray, gget hi1]
          simp [gix, h2]
        by_cases hb : x.t[i]! = 32
        · have h1 : tk1 x = 4 := if_pos (.inr (by rw [← hb, getElem!_pos x.t i hi1]; exact List.getElem_mem _))
          have hbn : ((x.t[i]!.toNat : Nat) : Int) = 32 := by rw [hb]; rfl
          repeat' (first | (exfalso; omega) | refine zA ?_ | refine zB ?_ | refine zC ?_ | refine zD ?_ | refine zE ?_ | refine zF ?_ | refine zG ?_ | refine zH ?_ | refine zI ?_ | refine zJ ?_ | refine zK rfl ?_ | refine zL ?_ | refine zM ?_ | refine zN ?_ | refine zO ?_ | refine zP rfl ?_ | refine zQ ?_ | ((first | refine zR ?_ | refine zS ?_ | refine zT ?_ | skip); intro K k; simp (disch := (first | (simp only [yD2, beq_self_eq_true, Nat.reduceLT, Nat.reduceAdd]; done) | ((fail_if_success (apply Bool.eq_iff_iff.2)); first | omega | (simp only [yD2, beq_self_eq_true, Nat.reduceLT, Nat.reduceAdd] <;> omega)) | fail)) only [↓yS, yT, ↓reduceIte, Nat.reduceEqDiff, Nat.reduceAdd, Nat.reduceMul, reduceCtorEq, Int.reduceToNat, g34, i4, i5, i9, i10, i11, x0, strB_size, eb, hbn]; refine yC (k _ _ ?_); clear k K) | ((first | refine zU ?_ | refine zV ?_ | refine zW ?_); intro A B C D a b c d; simp only [↓yG, Nat.reduceEqDiff, ↓reduceIte, g34, i4, i5, i9, i10, i11, x0, strB_size, eb, hbn]; (first | refine zX (a ?_) | refine zY (b ?_) | refine zZ (fun hc => c ?_) (fun hc => d ?_)) <;> clear a b c d A B C D <;> try simp only [yL] at hc) | (refine yA ?_; intro A a; simp only [↓yG, Nat.reduceEqDiff, ↓reduceIte, g34, i4, i5, i9, i10, i11, x0, strB_size, eb, hbn]; refine yB (a ?_); clear a A) | (refine yD ?_; simp only [gresults, ↓yG, Nat.reduceEqDiff, ↓reduceIte, Option.bind_some, gld_1, gld_n, g34, i4, i5, i9, i10, i11, x0, strB_size, eb, hbn]; refine ⟨_, rfl, ?_⟩; simp only [gone]))
          exact hPost _ _ ⟨by rw [hbad (by rw [h1]; decide), h1], hS.trans hS2⟩
        · have hbn : ¬ ((x.t[i]!.toNat : Nat) : Int) = 32 := fun e => hb (by
            have h32 : (32 : UInt8).toNat = 32 := rfl
            have : x.t[i]!.toNat = (32 : UInt8).toNat := by omega
            exact UInt8.toNat_inj.1 this)
          repeat' (first | (exfalso; omega) | refine zA ?_ | refine zB ?_ | refine zC ?_ | refine zD ?_ | refine zE ?_ | refine zF ?_ | refine zG ?_ | refine zH ?_ | refine zI ?_ | refine zJ ?_ | refine zK rfl ?_ | refine zL ?_ | refine zM ?_ | refine zN ?_ | refine zO ?_ | refine zP rfl ?_ | refine zQ ?_ | ((first | refine zR ?_ | refine zS ?_ | refine zT ?_ | skip); intro K k; simp (disch := (first | (simp only [yD2, beq_self_eq_true, Nat.reduceLT, Nat.reduceAdd]; done) | ((fail_if_success (apply Bool.eq_iff_iff.2)); first | omega | (simp only [yD2, beq_self_eq_true, Nat.reduceLT, Nat.reduceAdd] <;> omega)) | fail)) only [↓yS, yT, ↓reduceIte, Nat.reduceEqDiff, Nat.reduceAdd, Nat.reduceMul, reduceCtorEq, Int.reduceToNat, g34, i4, i5, i9, i10, i11, x0, strB_size, eb]; refine yC (k _ _ ?_); clear k K) | ((first | refine zU ?_ | refine zV ?_ | refine zW ?_); intro A B C D a b c d; simp only [↓yG, Nat.reduceEqDiff, ↓reduceIte, g34, i4, i5, i9, i10, i11, x0, strB_size, eb]; (first | refine zX (a ?_) | refine zY (b ?_) | refine zZ (fun hc => c ?_) (fun hc => d ?_)) <;> clear a b c d A B C D <;> try simp only [yL] at hc) | (refine yA ?_; intro A a; simp only [↓yG, Nat.reduceEqDiff, ↓reduceIte, g34, i4, i5, i9, i10, i11, x0, strB_size, eb]; refine yB (a ?_); clear a A) | (refine yD ?_; simp only [gresults, ↓yG, Nat.reduceEqDiff, ↓reduceIte, Option.bind_some, gld_1, gld_n, g34, i4, i5, i9, i10, i11, x0, strB_size, eb]; refine ⟨_, rfl, ?_⟩; simp only [gone]))
          refine hJ2 _ _ ⟨x.t.length - (i + 1), by omega, i + 1, rfl, by omega, ?_⟩
          simp only [↓yG, Nat.reduceEqDiff, ↓reduceIte, Int.natCast_add, Int.cast_ofNat_Int, Int.natCast_zero, true_and, and_true, Option.some.injEq, Value.int.injEq, i4, i9, i10, i11]
          exact mem_take_succ hi1 hno hb
      · obtain rfl : i = x.t.length := by omega
        rw [List.take_length] at hno
        repeat' (first | (exfalso; omega) | refine zA ?_ | refine zB ?_ | refine zC ?_ | refine zD ?_ | refine zE ?_ | refine zF ?_ | refine zG ?_ | refine zH ?_ | refine zI ?_ | refine zJ ?_ | refine zK rfl ?_ | refine zL ?_ | refine zM ?_ | refine zN ?_ | refine zO ?_ | refine zP rfl ?_ | refine zQ ?_ | ((first | refine zR ?_ | refine zS ?_ | refine zT ?_ | skip); intro K k; simp (disch := (first | (simp only [yD2, beq_self_eq_true, Nat.reduceLT, Nat.reduceAdd]; done) | ((fail_if_success (apply Bool.eq_iff_iff.2)); first | omega | (simp only [yD2, beq_self_eq_true, Nat.reduceLT, Nat.reduceAdd] <;> omega)) | fail)) only [↓yS, yT, ↓reduceIte, Nat.reduceEqDiff, Nat.reduceAdd, Nat.reduceMul, reduceCtorEq, Int.reduceToNat, g34, i4, i5, i9, i10, i11, x0, strB_size]; refine yC (k _ _ ?_); clear k K) | ((first | refine zU ?_ | refine zV ?_ | refine zW ?_); intro A B C D a b c d; simp only [↓yG, Nat.reduceEqDiff, ↓reduceIte, g34, i4, i5, i9, i10, i11, x0, strB_size]; (first | refine zX (a ?_) | refine zY (b ?_) | refine zZ (fun hc => c ?_) (fun hc => d ?_)) <;> clear a b c d A B C D <;> try simp only [yL] at hc) | (refine yA ?_; intro A a; simp only [↓yG, Nat.reduceEqDiff, ↓reduceIte, g34, i4, i5, i9, i10, i11, x0, strB_size]; refine yB (a ?_); clear a A) | (refine yD ?_; simp only [gresults, ↓yG, Nat.reduceEqDiff, ↓reduceIte, Option.bind_some, gld_1, gld_n, g34, i4, i5, i9, i10, i11, x0, strB_size]; refine ⟨_, rfl, ?_⟩; simp only [gone]))
        refine Gw_s fun K' hK' => G1_call (by simp only [gtarget, ↓GArg.ev, ↓evs, ↓Tr.get_set, Nat.reduceEqDiff, if_true, if_false, ↓reduceIte, Option.map_some, i4, i5, i9, i10, i11]; rfl) (one_of (rvalid_ok (s := strB x.t) (by rw [strB_size]; exact hs1) _)) fun r4 H4 hq => hK' _ _ ?_
        obtain ⟨rfl, rfl⟩ := hq
        have hno2 : ¬ (x.t = [] ∨ 32 ∈ x.t) := fun h => h.elim ht hno
        cases hvl : vldB (strB x.t) with
        | false =>
          have h1 : tk1 x = 10 := by rw [tk1, if_neg hno2, if_pos hvl]
          repeat' (first | (exfalso; omega) | refine zA ?_ | refine zB ?_ | refine zC ?_ | refine zD ?_ | refine zE ?_ | refine zF ?_ | refine zG ?_ | refine zH ?_ | refine zI ?_ | refine zJ ?_ | refine zK rfl ?_ | refine zL ?_ | refine zM ?_ | refine zN ?_ | refine zO ?_ | refine zP rfl ?_ | refine zQ ?_ | ((first | refine zR ?_ | refine zS ?_ | refine zT ?_ | skip); intro K k; simp (disch := (first | (simp only [yD2, beq_self_eq_true, Nat.reduceLT, Nat.reduceAdd]; done) | ((fail_if_success (apply Bool.eq_iff_iff.2)); first | omega | (simp only [yD2, beq_self_eq_true, Nat.reduceLT, Nat.reduceAdd] <;> omega)) | fail)) only [↓yS, yT, ↓reduceIte, Nat.reduceEqDiff, Nat.reduceAdd, Nat.reduceMul, reduceCtorEq, Int.reduceToNat, g34, i4, i5, i9, i10, i11]; refine yC (k _ _ ?_); clear k K) | ((first | refine zU ?_ | refine zV ?_ | refine zW ?_); intro A B C D a b c d; simp only [↓yG, Nat.reduceEqDiff, ↓reduceIte, g34, i4, i5, i9, i10, i11]; (first | refine zX (a ?_) | refine zY (b ?_) | refine zZ (fun hc => c ?_) (fun hc => d ?_)) <;> clear a b c d A B C D <;> try simp only [yL] at hc) | (refine yA ?_; intro A a; simp only [↓yG, Nat.reduceEqDiff, ↓reduceIte, g34, i4, i5, i9, i10, i11]; refine yB (a ?_); clear a A) | (refine yD ?_; simp only [gresults, ↓yG, Nat.reduceEqDiff, ↓reduceIte, Option.bind_some, gld_1, gld_n, g34, i4, i5, i9, i10, i11]; refine ⟨_, rfl, ?_⟩; simp only [gone]))
          exact hPost _ _ ⟨by rw [hbad (by rw [h1]; decide), h1], hS.trans hS2⟩
        | true =>
          have h0 : tk1 x = if x.s < 0 ∨ 5 < x.s then 2 else 0 := by rw [tk1, if_neg hno2, if_neg (by rw [hvl]; decide)]
          have hsplit : x.s < 0 ∨ (¬ x.s < 0 ∧ 5 < x.s) ∨ (¬ x.s < 0 ∧ ¬ 5 < x.s) := by omega
          rcases hsplit with h | h | h
          case' inl => have h1 : tk1 x = 2 := by rw [h0, if_pos (by omega)]
          case' inr.inl => have h1 : tk1 x = 2 := by rw [h0, if_pos (by omega)]
          case' inr.inr => have h1 : tk1 x = 0 := by rw [h0, if_neg (by omega)]
          all_goals
            repeat' (first | (exfalso; omega) | refine zA ?_ | refine zB ?_ | refine zC ?_ | refine zD ?_ | refine zE ?_ | refine zF ?_ | refine zG ?_ | refine zH ?_ | refine zI ?_ | refine zJ ?_ | refine zK rfl ?_ | refine zL ?_ | refine zM ?_ | refine zN ?_ | refine zO ?_ | refine zP rfl ?_ | refine zQ ?_ | ((first | refine zR ?_ | refine zS ?_ | refine zT ?_ | skip); intro K k; simp (disch := (first | (simp only [yD2, beq_self_eq_true, Nat.reduceLT, Nat.reduceAdd]; done) | ((fail_if_success (apply Bool.eq_iff_iff.2)); first | omega | (simp only [yD2, beq_self_eq_true, Nat.reduceLT, Nat.reduceAdd] <;> omega)) | fail)) only [↓yS, yT, ↓reduceIte, Nat.reduceEqDiff, Nat.reduceAdd, Nat.reduceMul, reduceCtorEq, Int.reduceToNat, g34, i4, i5, i9, i10, i11, x1]; refine yC (k _ _ ?_); clear k K) | ((first | refine zU ?_ | refine zV ?_ | refine zW ?_); intro A B C D a b c d; simp only [↓yG, Nat.reduceEqDiff, ↓reduceIte, g34, i4, i5, i9, i10, i11, x1]; (first | refine zX (a ?_) | refine zY (b ?_) | refine zZ (fun hc => c ?_) (fun hc => d ?_)) <;> clear a b c d A B C D <;> try simp only [yL] at hc) | (refine yA ?_; intro A a; simp only [↓yG, Nat.reduceEqDiff, ↓reduceIte, g34, i4, i5, i9, i10, i11, x1]; refine yB (a ?_); clear a A) | (refine yD ?_; simp only [gresults, ↓yG, Nat.reduceEqDiff, ↓reduceIte, Option.bind_some, gld_1, gld_n, g34, i4, i5, i9, i10, i11, x1]; refine ⟨_, rfl, ?_⟩; simp only [gone]))
          all_goals first
            | exact hPost _ _ ⟨by rw [hbad (by rw [h1]; decide), h1], hS.trans hS2⟩
            | skip
          refine hJ _ _ ⟨l.length - (j + 1), by omega, j + 1, rfl, by omega, ?_⟩
          simp only [↓yG, Nat.reduceEqDiff, ↓reduceIte, Int.natCast_add, Int.cast_ofNat_Int, Int.natCast_zero, true_and, and_true, Option.some.injEq, Value.int.injEq, i9, i10]
          exact ⟨hS.trans hS2, hgo h1⟩
  · obtain rfl : j = l.length := by omega
    rw [List.drop_length] at hck
    repeat' (first | (exfalso; omega) | refine zA ?_ | refine zB ?_ | refine zC ?_ | refine zD ?_ | refine zE ?_ | refine zF ?_ | refine zG ?_ | refine zH ?_ | refine zI ?_ | refine zJ ?_ | refine zK rfl ?_ | refine zL ?_ | refine zM ?_ | refine zN ?_ | refine zO ?_ | refine zP rfl ?_ | refine zQ ?_ | ((first | refine zR ?_ | refine zS ?_ | refine zT ?_ | skip); intro K k; simp (disch := (first | (simp only [yD2, beq_self_eq_true, Nat.reduceLT, Nat.reduceAdd]; done) | ((fail_if_success (apply Bool.eq_iff_iff.2)); first | omega | (simp only [yD2, beq_self_eq_true, Nat.reduceLT, Nat.reduceAdd] <;> omega)) | fail)) only [↓yS, yT, ↓reduceIte, Nat.reduceEqDiff, Nat.reduceAdd, Nat.reduceMul, reduceCtorEq, Int.reduceToNat, g34, f9, f10, f11]; refine yC (k _ _ ?_); clear k K) | ((first | refine zU ?_ | refine zV ?_ | refine zW ?_); intro A B C D a b c d; simp only [↓yG, Nat.reduceEqDiff, ↓reduceIte, g34, f9, f10, f11]; (first | refine zX (a ?_) | refine zY (b ?_) | refine zZ (fun hc => c ?_) (fun hc => d ?_)) <;> clear a b c d A B C D <;> try simp only [yL] at hc) | (refine yA ?_; intro A a; simp only [↓yG, Nat.reduceEqDiff, ↓reduceIte, g34, f9, f10, f11]; refine yB (a ?_); clear a A) | (refine yD ?_; simp only [gresults, ↓yG, Nat.reduceEqDiff, ↓reduceIte, Option.bind_some, gld_1, gld_n, g34, f9, f10, f11]; refine ⟨_, rfl, ?_⟩; simp only [gone]))
    exact hPost _ _ ⟨by rw [hck]; rfl, hS⟩
end Go.Gh
