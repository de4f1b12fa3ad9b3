/-
  style's reference, walked: Same, SameRows.
-/
import Derived.Test.YtgbibkkcnkaelaaDoorSyF
namespace Go.Gh
set_option linter.unusedSimpArgs false
set_option linter.unusedVariables false
open Go.RowKit
set_option maxRecDepth 4000

theorem RR.isSl {H : GHeap} {v : Value} {l : List SR} (h : RR H v l) : IsSl v l.length := h.rd.isSl
theorem RR.later {H H' : GHeap} {v : Value} {l : List SR} (h : RR H v l) (hw : H.wf) (hs : Same H H') : RR H' v l := GArg1.same h hw hs
theorem RR.flat {H : GHeap} {v : Value} {l : List SR} (h : RR H v l) : flatV v = true := by
  obtain ⟨a, gc, e, _⟩ := h.sl
  rw [e]; exact flatV_sl
theorem rsame_ok {H : GHeap} (hw : H.wf) {a b : Value} {A B : List SR} (ha : RR H a A) (hb : RR H b B) (hla : A.length ≤ 4611686018427387904) (hlb : B.length ≤ 4611686018427387904) :
    ∃ r H', gev G 13 [rowV a, rowV b] H = some (r, H') ∧ (r = .bool (decide (A = B)) ∧ Same H H') := by
  refine gev_GW (f := 13) rfl fun Post hPost => ?_
  have hlim := hw.1
  have hsa := ha.isSl
  have hsb := hb.isSl
  have hfa := ha.flat
  have hfb := hb.flat
  have hra : rowV a = .agg [a].toArray := rfl
  have hrb : rowV b = .agg [b].toArray := rfl
  simp only [frameOf, Nat.reduceAdd]
  repeat' (first | refine zA ?_ | refine zB ?_ | refine zC ?_ | refine zD ?_ | refine zE ?_ | refine zF ?_ | refine zG ?_ | refine zH ?_ | refine zI ?_ | refine zJ ?_ | refine zK rfl ?_ | refine zL ?_ | refine zM ?_ | refine zN ?_ | refine zO ?_ | refine zP rfl ?_ | refine zQ ?_ | ((first | refine zR ?_ | refine zS ?_ | refine zT ?_ | skip); intro K k; simp (disch := (first | (simp only [yD2, beq_self_eq_true, Nat.reduceLT, Nat.reduceAdd]; done) | ((fail_if_success (apply Bool.eq_iff_iff.2)); first | omega | (simp only [yD2, beq_self_eq_true, Nat.reduceLT, Nat.reduceAdd] <;> omega)) | fail)) only [↓yS, yT, ↓reduceIte, Nat.reduceEqDiff, Nat.reduceAdd, Nat.reduceMul, reduceCtorEq, Int.reduceToNat, g13, hra, hrb, agg_all, agg_list, hfa, hfb, hsa.len, hsb.len]; refine yC (k _ _ ?_); clear k K) | ((first | refine zU ?_ | refine zV ?_ | refine zW ?_); intro A B C D a b c d; simp only [↓yG, Nat.reduceEqDiff, ↓reduceIte, g13, hra, hrb, agg_all, agg_list, hfa, hfb, hsa.len, hsb.len]; (first | refine zX (a ?_) | refine zY (b ?_) | refine zZ (fun hc => c ?_) (fun hc => d ?_)) <;> clear a b c d A B C D <;> try simp only [yL] at hc) | (refine yA ?_; intro A a; simp only [↓yG, Nat.reduceEqDiff, ↓reduceIte, g13, hra, hrb, agg_all, agg_list, hfa, hfb, hsa.len, hsb.len]; refine yB (a ?_); clear a A) | (refine yD ?_; simp only [gresults, ↓yG, Nat.reduceEqDiff, ↓reduceIte, Option.bind_some, gld_1, gld_n, g13, hra, hrb, agg_all, agg_list, hfa, hfb, hsa.len, hsb.len]; refine ⟨_, rfl, ?_⟩; simp only [gone]))
  case refine_1 => exact hPost _ _ ⟨by rw [decide_eq_false fun e => hc (by rw [e])], ((Same.refl hw).add _).add _⟩
  have hlen : A.length = B.length := by omega
  have hS : Same H ((H.add (some (.cells [a] 0 true))).add (some (.cells [b] 0 true))) := ((Same.refl hw).add _).add _
  have h1 : ((H.add (some (.cells [a] 0 true))).add (some (.cells [b] 0 true))).rd H.len 0 = some a := by
    rw [rd_add_ne (by rw [len_add]; omega), rd_add_eq rfl]; rfl
  have h2 : ((H.add (some (.cells [a] 0 true))).add (some (.cells [b] 0 true))).rd (H.len + 1) 0 = some b := by
    rw [rd_add_eq (by rw [len_add])]; rfl
  generalize ((H.add (some (.cells [a] 0 true))).add (some (.cells [b] 0 true))) = Hx at *
  refine GW_loop (fun k fr H1 => ∃ (j : Nat), k = A.length - j ∧ j ≤ A.length ∧ fr.get 2 = some (.pointer (some ⟨H.len, 0, none⟩)) ∧ fr.get 3 = some (.pointer (some ⟨H.len + 1, 0, none⟩)) ∧ fr.get 15 = some (.int .i64 A.length) ∧ fr.get 16 = some (.int .i64 j) ∧ H1 = Hx ∧ A.take j = B.take j) ?_ A.length ?_
  case refine_2.refine_2 =>
    refine ⟨0, by omega, by omega, ?_⟩
    simp only [↓yG, Nat.reduceEqDiff, ↓reduceIte, Int.natCast_add, Int.cast_ofNat_Int, Int.natCast_zero, true_and, and_true, Option.some.injEq, Value.int.injEq]
    simp
  rintro k fr H1 ⟨j, rfl, hj, f2, f3, f15, f16, rfl, hte⟩ J hJ
  by_cases hj1 : j < A.length
  · have e1 := (ha.later hw hS).rowN hj1
    have e2 := (hb.later hw hS).rowN (k := j) (by omega)
    have hq := fun a b => gb_neR (a := a) (b := b)
    unfold qRun at hq
    have hmem : ∀ (e : A[j]! = B[j]!), A.take (j + 1) = B.take (j + 1) := fun e => by
      rw [List.take_succ_eq_append_getElem hj1, List.take_succ_eq_append_getElem (by omega), hte, ← getElem!_pos A j hj1, ← getElem!_pos B j (by omega), e]
    repeat' (first | (exfalso; omega) | refine zA ?_ | refine zB ?_ | refine zC ?_ | refine zD ?_ | refine zE ?_ | refine zF ?_ | refine zG ?_ | refine zH ?_ | refine zI ?_ | refine zJ ?_ | refine zK rfl ?_ | refine zL ?_ | refine zM ?_ | refine zN ?_ | refine zO ?_ | refine zP rfl ?_ | refine zQ ?_ | ((first | refine zR ?_ | refine zS ?_ | refine zT ?_ | skip); intro K k; simp (disch := (first | (simp only [yD2, beq_self_eq_true, Nat.reduceLT, Nat.reduceAdd]; done) | ((fail_if_success (apply Bool.eq_iff_iff.2)); first | omega | (simp only [yD2, beq_self_eq_true, Nat.reduceLT, Nat.reduceAdd] <;> omega)) | fail)) only [↓yS, yT, ↓reduceIte, Nat.reduceEqDiff, Nat.reduceAdd, Nat.reduceMul, reduceCtorEq, Int.reduceToNat, g13, f2, f3, f15, f16, h1, h2, hsa.ia, hsb.ia, e1, e2, hq]; refine yC (k _ _ ?_); clear k K) | ((first | refine zU ?_ | refine zV ?_ | refine zW ?_); intro A B C D a b c d; simp only [↓yG, Nat.reduceEqDiff, ↓reduceIte, g13, f2, f3, f15, f16, h1, h2, hsa.ia, hsb.ia, e1, e2, hq]; (first | refine zX (a ?_) | refine zY (b ?_) | refine zZ (fun hc => c ?_) (fun hc => d ?_)) <;> clear a b c d A B C D <;> try simp only [yL] at hc) | (refine yA ?_; intro A a; simp only [↓yG, Nat.reduceEqDiff, ↓reduceIte, g13, f2, f3, f15, f16, h1, h2, hsa.ia, hsb.ia, e1, e2, hq]; refine yB (a ?_); clear a A) | (refine yD ?_; simp only [gresults, ↓yG, Nat.reduceEqDiff, ↓reduceIte, Option.bind_some, gld_1, gld_n, g13, f2, f3, f15, f16, h1, h2, hsa.ia, hsb.ia, e1, e2, hq]; refine ⟨_, rfl, ?_⟩; simp only [gone]))
    case pos.refine_1.refine_1 =>
      refine hPost _ _ ⟨?_, hS⟩
      rw [decide_eq_false fun e => hc (by rw [e])]
    case pos.refine_1.refine_2 =>
      refine hJ _ _ ⟨A.length - (j + 1), by omega, j + 1, rfl, by omega, ?_⟩
      simp only [↓yG, Nat.reduceEqDiff, ↓reduceIte, Int.natCast_add, Int.cast_ofNat_Int, Int.natCast_zero, true_and, and_true, Option.some.injEq, Value.int.injEq, f2, f3, f15]
      exact hmem hc
  · obtain rfl : j = A.length := by omega
    have heq : A = B := by
      have e2 : B.take A.length = B := List.take_of_length_le (by omega)
      rw [List.take_length, e2] at hte
      exact hte
    rw [decide_eq_true heq] at hPost
    repeat' (first | (exfalso; omega) | refine zA ?_ | refine zB ?_ | refine zC ?_ | refine zD ?_ | refine zE ?_ | refine zF ?_ | refine zG ?_ | refine zH ?_ | refine zI ?_ | refine zJ ?_ | refine zK rfl ?_ | refine zL ?_ | refine zM ?_ | refine zN ?_ | refine zO ?_ | refine zP rfl ?_ | refine zQ ?_ | ((first | refine zR ?_ | refine zS ?_ | refine zT ?_ | skip); intro K k; simp (disch := (first | (simp only [yD2, beq_self_eq_true, Nat.reduceLT, Nat.reduceAdd]; done) | ((fail_if_success (apply Bool.eq_iff_iff.2)); first | omega | (simp only [yD2, beq_self_eq_true, Nat.reduceLT, Nat.reduceAdd] <;> omega)) | fail)) only [↓yS, yT, ↓reduceIte, Nat.reduceEqDiff, Nat.reduceAdd, Nat.reduceMul, reduceCtorEq, Int.reduceToNat, g13, f2, f3, f15, f16]; refine yC (k _ _ ?_); clear k K) | ((first | refine zU ?_ | refine zV ?_ | refine zW ?_); intro A B C D a b c d; simp only [↓yG, Nat.reduceEqDiff, ↓reduceIte, g13, f2, f3, f15, f16]; (first | refine zX (a ?_) | refine zY (b ?_) | refine zZ (fun hc => c ?_) (fun hc => d ?_)) <;> clear a b c d A B C D <;> try simp only [yL] at hc) | (refine yA ?_; intro A a; simp only [↓yG, Nat.reduceEqDiff, ↓reduceIte, g13, f2, f3, f15, f16]; refine yB (a ?_); clear a A) | (refine yD ?_; simp only [gresults, ↓yG, Nat.reduceEqDiff, ↓reduceIte, Option.bind_some, gld_1, gld_n, g13, f2, f3, f15, f16]; refine ⟨_, rfl, ?_⟩; simp only [gone]))
    exact hPost _ _ ⟨rfl, hS⟩
theorem equalR_ok {H : GHeap} (hw : H.wf) {a b : Value} {A B : List SR} (ha : RR H a A) (hb : RR H b B) (hla : A.length ≤ 4611686018427387904) (hlb : B.length ≤ 4611686018427387904) :
    ∃ r H', gev G 63 [a, b] H = some (r, H') ∧ (r = .bool (decide (A = B)) ∧ H' = H) := by
  refine gev_GW (f := 63) rfl fun Post hPost => ?_
  have hsa := ha.isSl
  have hsb := hb.isSl
  simp only [frameOf, Nat.reduceAdd]
  repeat' (first | refine zA ?_ | refine zB ?_ | refine zC ?_ | refine zD ?_ | refine zE ?_ | refine zF ?_ | refine zG ?_ | refine zH ?_ | refine zI ?_ | refine zJ ?_ | refine zK rfl ?_ | refine zL ?_ | refine zM ?_ | refine zN ?_ | refine zO ?_ | refine zP rfl ?_ | refine zQ ?_ | ((first | refine zR ?_ | refine zS ?_ | refine zT ?_ | skip); intro K k; simp (disch := (first | (simp only [yD2, beq_self_eq_true, Nat.reduceLT, Nat.reduceAdd]; done) | ((fail_if_success (apply Bool.eq_iff_iff.2)); first | omega | (simp only [yD2, beq_self_eq_true, Nat.reduceLT, Nat.reduceAdd] <;> omega)) | fail)) only [↓yS, yT, ↓reduceIte, Nat.reduceEqDiff, Nat.reduceAdd, Nat.reduceMul, reduceCtorEq, Int.reduceToNat, g63, hsa.len, hsb.len]; refine yC (k _ _ ?_); clear k K) | ((first | refine zU ?_ | refine zV ?_ | refine zW ?_); intro A B C D a b c d; simp only [↓yG, Nat.reduceEqDiff, ↓reduceIte, g63, hsa.len, hsb.len]; (first | refine zX (a ?_) | refine zY (b ?_) | refine zZ (fun hc => c ?_) (fun hc => d ?_)) <;> clear a b c d A B C D <;> try simp only [yL] at hc) | (refine yA ?_; intro A a; simp only [↓yG, Nat.reduceEqDiff, ↓reduceIte, g63, hsa.len, hsb.len]; refine yB (a ?_); clear a A) | (refine yD ?_; simp only [gresults, ↓yG, Nat.reduceEqDiff, ↓reduceIte, Option.bind_some, gld_1, gld_n, g63, hsa.len, hsb.len]; refine ⟨_, rfl, ?_⟩; simp only [gone]))
  case refine_1 => exact hPost _ _ ⟨by rw [decide_eq_false fun e => hc (by rw [e])], rfl⟩
  have hlen : A.length = B.length := by omega
  refine GW_loop (fun k fr H1 => ∃ (j : Nat), k = A.length - j ∧ j ≤ A.length ∧ fr.get 0 = some (a) ∧ fr.get 1 = some (b) ∧ fr.get 12 = some (.int .i64 A.length) ∧ fr.get 13 = some (.int .i64 j) ∧ H1 = H ∧ A.take j = B.take j) ?_ A.length ?_
  case refine_2.refine_2 =>
    refine ⟨0, by omega, by omega, ?_⟩
    simp only [↓yG, Nat.reduceEqDiff, ↓reduceIte, Int.natCast_add, Int.cast_ofNat_Int, Int.natCast_zero, true_and, and_true, Option.some.injEq, Value.int.injEq]
    simp
  rintro k fr H1 ⟨j, rfl, hj, f0, f1, f12, f13, rfl, hte⟩ J hJ
  by_cases hj1 : j < A.length
  · have e1 := ha.rowN hj1
    have e2 := hb.rowN (k := j) (by omega)
    have hq := fun a b => gb_neR (a := a) (b := b)
    unfold qRun at hq
    have hmem : ∀ (e : A[j]! = B[j]!), A.take (j + 1) = B.take (j + 1) := fun e => by
      rw [List.take_succ_eq_append_getElem hj1, List.take_succ_eq_append_getElem (by omega), hte, ← getElem!_pos A j hj1, ← getElem!_pos B j (by omega), e]
    repeat' (first | (exfalso; omega) | refine zA ?_ | refine zB ?_ | refine zC ?_ | refine zD ?_ | refine zE ?_ | refine zF ?_ | refine zG ?_ | refine zH ?_ | refine zI ?_ | refine zJ ?_ | refine zK rfl ?_ | refine zL ?_ | refine zM ?_ | refine zN ?_ | refine zO ?_ | refine zP rfl ?_ | refine zQ ?_ | ((first | refine zR ?_ | refine zS ?_ | refine zT ?_ | skip); intro K k; simp (disch := (first | (simp only [yD2, beq_self_eq_true, Nat.reduceLT, Nat.reduceAdd]; done) | ((fail_if_success (apply Bool.eq_iff_iff.2)); first | omega | (simp only [yD2, beq_self_eq_true, Nat.reduceLT, Nat.reduceAdd] <;> omega)) | fail)) only [↓yS, yT, ↓reduceIte, Nat.reduceEqDiff, Nat.reduceAdd, Nat.reduceMul, reduceCtorEq, Int.reduceToNat, g63, f0, f1, f12, f13, hsa.ia, hsb.ia, e1, e2, hq]; refine yC (k _ _ ?_); clear k K) | ((first | refine zU ?_ | refine zV ?_ | refine zW ?_); intro A B C D a b c d; simp only [↓yG, Nat.reduceEqDiff, ↓reduceIte, g63, f0, f1, f12, f13, hsa.ia, hsb.ia, e1, e2, hq]; (first | refine zX (a ?_) | refine zY (b ?_) | refine zZ (fun hc => c ?_) (fun hc => d ?_)) <;> clear a b c d A B C D <;> try simp only [yL] at hc) | (refine yA ?_; intro A a; simp only [↓yG, Nat.reduceEqDiff, ↓reduceIte, g63, f0, f1, f12, f13, hsa.ia, hsb.ia, e1, e2, hq]; refine yB (a ?_); clear a A) | (refine yD ?_; simp only [gresults, ↓yG, Nat.reduceEqDiff, ↓reduceIte, Option.bind_some, gld_1, gld_n, g63, f0, f1, f12, f13, hsa.ia, hsb.ia, e1, e2, hq]; refine ⟨_, rfl, ?_⟩; simp only [gone]))
    case pos.refine_1.refine_1 =>
      refine hPost _ _ ⟨?_, rfl⟩
      rw [decide_eq_false fun e => hc (by rw [e])]
    case pos.refine_1.refine_2 =>
      refine hJ _ _ ⟨A.length - (j + 1), by omega, j + 1, rfl, by omega, ?_⟩
      simp only [↓yG, Nat.reduceEqDiff, ↓reduceIte, Int.natCast_add, Int.cast_ofNat_Int, Int.natCast_zero, true_and, and_true, Option.some.injEq, Value.int.injEq, f0, f1, f12]
      exact hmem hc
  · obtain rfl : j = A.length := by omega
    have heq : A = B := by
      have e2 : B.take A.length = B := List.take_of_length_le (by omega)
      rw [List.take_length, e2] at hte
      exact hte
    rw [decide_eq_true heq] at hPost
    repeat' (first | (exfalso; omega) | refine zA ?_ | refine zB ?_ | refine zC ?_ | refine zD ?_ | refine zE ?_ | refine zF ?_ | refine zG ?_ | refine zH ?_ | refine zI ?_ | refine zJ ?_ | refine zK rfl ?_ | refine zL ?_ | refine zM ?_ | refine zN ?_ | refine zO ?_ | refine zP rfl ?_ | refine zQ ?_ | ((first | refine zR ?_ | refine zS ?_ | refine zT ?_ | skip); intro K k; simp (disch := (first | (simp only [yD2, beq_self_eq_true, Nat.reduceLT, Nat.reduceAdd]; done) | ((fail_if_success (apply Bool.eq_iff_iff.2)); first | omega | (simp only [yD2, beq_self_eq_true, Nat.reduceLT, Nat.reduceAdd] <;> omega)) | fail)) only [↓yS, yT, ↓reduceIte, Nat.reduceEqDiff, Nat.reduceAdd, Nat.reduceMul, reduceCtorEq, Int.reduceToNat, g63, f0, f1, f12, f13]; refine yC (k _ _ ?_); clear k K) | ((first | refine zU ?_ | refine zV ?_ | refine zW ?_); intro A B C D a b c d; simp only [↓yG, Nat.reduceEqDiff, ↓reduceIte, g63, f0, f1, f12, f13]; (first | refine zX (a ?_) | refine zY (b ?_) | refine zZ (fun hc => c ?_) (fun hc => d ?_)) <;> clear a b c d A B C D <;> try simp only [yL] at hc) | (refine yA ?_; intro A a; simp only [↓yG, Nat.reduceEqDiff, ↓reduceIte, g63, f0, f1, f12, f13]; refine yB (a ?_); clear a A) | (refine yD ?_; simp only [gresults, ↓yG, Nat.reduceEqDiff, ↓reduceIte, Option.bind_some, gld_1, gld_n, g63, f0, f1, f12, f13]; refine ⟨_, rfl, ?_⟩; simp only [gone]))
    exact hPost _ _ ⟨rfl, rfl⟩
theorem same_ok {H : GHeap} (hw : H.wf) {a b : Value} {A B : List SR} (ha : RR H a A) (hb : RR H b B) (hla : A.length ≤ 4611686018427387904) (hlb : B.length ≤ 4611686018427387904) :
    ∃ r H', gev G 28 [rowV a, rowV b] H = some (r, H') ∧ (r = .bool (decide (A = B)) ∧ Same H H') := by
  refine gev_GW (f := 28) rfl fun Post hPost => ?_
  have hlim := hw.1
  have hfa := ha.flat
  have hfb := hb.flat
  have hra : rowV a = .agg [a].toArray := rfl
  have hrb : rowV b = .agg [b].toArray := rfl
  simp only [frameOf, Nat.reduceAdd]
  repeat' (first | refine zA ?_ | refine zB ?_ | refine zC ?_ | refine zD ?_ | refine zE ?_ | refine zF ?_ | refine zG ?_ | refine zH ?_ | refine zI ?_ | refine zJ ?_ | refine zK rfl ?_ | refine zL ?_ | refine zM ?_ | refine zN ?_ | refine zO ?_ | refine zP rfl ?_ | refine zQ ?_ | ((first | refine zR ?_ | refine zS ?_ | refine zT ?_ | skip); intro K k; simp (disch := (first | (simp only [yD2, beq_self_eq_true, Nat.reduceLT, Nat.reduceAdd]; done) | ((fail_if_success (apply Bool.eq_iff_iff.2)); first | omega | (simp only [yD2, beq_self_eq_true, Nat.reduceLT, Nat.reduceAdd] <;> omega)) | fail)) only [↓yS, yT, ↓reduceIte, Nat.reduceEqDiff, Nat.reduceAdd, Nat.reduceMul, reduceCtorEq, Int.reduceToNat, g28, hra, hrb, agg_all, agg_list, hfa, hfb]; refine yC (k _ _ ?_); clear k K) | ((first | refine zU ?_ | refine zV ?_ | refine zW ?_); intro A B C D a b c d; simp only [↓yG, Nat.reduceEqDiff, ↓reduceIte, g28, hra, hrb, agg_all, agg_list, hfa, hfb]; (first | refine zX (a ?_) | refine zY (b ?_) | refine zZ (fun hc => c ?_) (fun hc => d ?_)) <;> clear a b c d A B C D <;> try simp only [yL] at hc) | (refine yA ?_; intro A a; simp only [↓yG, Nat.reduceEqDiff, ↓reduceIte, g28, hra, hrb, agg_all, agg_list, hfa, hfb]; refine yB (a ?_); clear a A) | (refine yD ?_; simp only [gresults, ↓yG, Nat.reduceEqDiff, ↓reduceIte, Option.bind_some, gld_1, gld_n, g28, hra, hrb, agg_all, agg_list, hfa, hfb]; refine ⟨_, rfl, ?_⟩; simp only [gone]))
  have hS : Same H ((H.add (some (.cells [a] 0 true))).add (some (.cells [b] 0 true))) := ((Same.refl hw).add _).add _
  refine Gw_s fun K' hK' => G1_call (by simp only [gtarget, ↓GArg.ev, ↓evs, ↓Tr.get_set, Nat.reduceEqDiff, if_true, if_false, ↓reduceIte, Option.map_some]; rfl) (equalR_ok hS.wf (ha.later hw hS) (hb.later hw hS) hla hlb) fun r1 H1 hq => hK' _ _ ?_
  obtain ⟨rfl, rfl⟩ := hq
  repeat' (first | refine zA ?_ | refine zB ?_ | refine zC ?_ | refine zD ?_ | refine zE ?_ | refine zF ?_ | refine zG ?_ | refine zH ?_ | refine zI ?_ | refine zJ ?_ | refine zK rfl ?_ | refine zL ?_ | refine zM ?_ | refine zN ?_ | refine zO ?_ | refine zP rfl ?_ | refine zQ ?_ | ((first | refine zR ?_ | refine zS ?_ | refine zT ?_ | skip); intro K k; simp (disch := (first | (simp only [yD2, beq_self_eq_true, Nat.reduceLT, Nat.reduceAdd]; done) | ((fail_if_success (apply Bool.eq_iff_iff.2)); first | omega | (simp only [yD2, beq_self_eq_true, Nat.reduceLT, Nat.reduceAdd] <;> omega)) | fail)) only [↓yS, yT, ↓reduceIte, Nat.reduceEqDiff, Nat.reduceAdd, Nat.reduceMul, reduceCtorEq, Int.reduceToNat, g28]; refine yC (k _ _ ?_); clear k K) | ((first | refine zU ?_ | refine zV ?_ | refine zW ?_); intro A B C D a b c d; simp only [↓yG, Nat.reduceEqDiff, ↓reduceIte, g28]; (first | refine zX (a ?_) | refine zY (b ?_) | refine zZ (fun hc => c ?_) (fun hc => d ?_)) <;> clear a b c d A B C D <;> try simp only [yL] at hc) | (refine yA ?_; intro A a; simp only [↓yG, Nat.reduceEqDiff, ↓reduceIte, g28]; refine yB (a ?_); clear a A) | (refine yD ?_; simp only [gresults, ↓yG, Nat.reduceEqDiff, ↓reduceIte, Option.bind_some, gld_1, gld_n, g28]; refine ⟨_, rfl, ?_⟩; simp only [gone]))
  exact hPost _ _ ⟨rfl, hS⟩
/-! ### tables of rows -/
abbrev VR' := Value × List SR
/-- a slice of rows -/
structure TR (H : GHeap) (v : Value) (L : List VR') : Prop where
  rd : GArg1 H 1 v L.length (L.map (·.1))
  rows : ∀ x ∈ L, RR H x.1 x.2
theorem TR.later {H H' : GHeap} {v : Value} {L : List VR'} (h : TR H v L) (hw : H.wf) (hs : Same H H') : TR H' v L := ⟨GArg1.same h.rd hw hs, fun x hx => (h.rows x hx).later hw hs⟩
theorem TR.row {H : GHeap} {v : Value} {L : List VR'} (h : TR H v L) {j : Nat} (hj : j < L.length) : H.rdn (blk v) (ofs v + j) 1 = some (rowV L[j]!.1) ∧ H.rd (blk v) (ofs v + j) = some L[j]!.1 ∧ RR H L[j]!.1 L[j]!.2 := by
  have h1 : H.rd (blk v) (ofs v + j) = some L[j]!.1 := by
    rw [h.rd.rd.rd (by simpa using hj), List.getElem?_map, gget hj]; rfl
  refine ⟨?_, h1, h.rows _ (by rw [getElem!_pos L j hj]; exact List.getElem_mem _)⟩
  have h0 := h.rd.rd.rdn (by decide) (c := j) (m := 1) (by decide) (by simp; omega)
  have e : (L.map (·.1)).drop j = L[j]!.1 :: (L.map (·.1)).drop (j + 1) := by
    rw [List.drop_eq_getElem_cons (by simpa using hj), List.getElem_map, getElem!_pos L j hj]
  rw [h0, e]; rfl
theorem TR.isSl {H : GHeap} {v : Value} {L : List VR'} (h : TR H v L) : IsSl v L.length := h.rd.rd.isSl
/-- short enough -/
def Shorts (L : List VR') : Prop := ∀ x ∈ L, x.2.length ≤ 4611686018427387904
theorem Shorts.at_ {L : List VR'} (h : Shorts L) {j : Nat} (hj : j < L.length) : L[j]!.2.length ≤ 4611686018427387904 := h _ (by rw [getElem!_pos L j hj]; exact List.getElem_mem _)
end Go.Gh
