/-
  rowbreak: the law Breaks, walked.
-/
import Derived.Test.YtbhgpiakeimmlaaDoorRbWG
namespace Go.Gh
set_option linter.unusedSimpArgs false
set_option linter.unusedVariables false
open Go.RowKit
set_option maxRecDepth 4000

theorem brk_uniq {p : Par} {l l' : List Nat} {c c' e e' : Int} (h : BrkOut p l c e) (h' : BrkOut p l' c' e') : l = l' ∧ c = c' ∧ e = e' := by
  have key : ∀ {l : List Nat} {c : Int}, parF p = 0 → Brk p.D p.r.toNat l c → p.D.P p.r.toNat 0 ≠ -1 := fun h0 hb => by
    have := (P_spec (Par.good h0) p.r.toNat 0).le ⟨_, hb.len, hb.pth⟩
    omega
  rcases h with ⟨h1, rfl, rfl, rfl⟩ | ⟨h1, h2, rfl, rfl, rfl⟩ | ⟨h1, rfl, h2, hb⟩ <;> rcases h' with ⟨k1, rfl, rfl, rfl⟩ | ⟨k1, k2, rfl, rfl, rfl⟩ | ⟨k1, rfl, k2, kb⟩
  · exact ⟨rfl, rfl, rfl⟩
  · exact absurd k1 h1
  · exact absurd k1 h1
  · exact absurd h1 k1
  · exact ⟨rfl, rfl, rfl⟩
  · exact absurd h2 (key k1 kb)
  · exact absurd h1 k1
  · exact absurd k2 (key h1 hb)
  · obtain ⟨e1, e2⟩ := hb.uniq kb
    exact ⟨e1, e2, rfl⟩
theorem eqi_ok {H : GHeap} {v w : Value} {A B : List Int} (hv : IR H v A) (hw : IR H w B) (hA : A.length ≤ 4611686018427387904) (hB : B.length ≤ 4611686018427387904) :
    ∃ r H', gev G 21 [v, w] H = some (r, H') ∧ (r = .bool (decide (A = B)) ∧ H' = H) := by
  refine gev_GW (f := 21) rfl fun Post hPost => ?_
  have hsl := hv.isSl
  have hsl2 := hw.isSl
  simp only [frameOf, Nat.reduceAdd]
  by_cases hl : A.length = B.length
  case neg =>
    have hne : A ≠ B := fun e => hl (by rw [e])
    rw [decide_eq_false hne] at hPost
    repeat' (first | (exfalso; omega) | refine zA ?_ | refine zB ?_ | refine zC ?_ | refine zD ?_ | refine zE ?_ | refine zF ?_ | refine zG ?_ | refine zH ?_ | refine zI ?_ | refine zJ ?_ | refine zK rfl ?_ | refine zL ?_ | refine zM ?_ | refine zN ?_ | refine zO ?_ | refine zP rfl ?_ | refine zQ ?_ | ((first | refine zR ?_ | refine zS ?_ | refine zT ?_ | skip); intro K k; simp (disch := (first | (simp only [yD2, beq_self_eq_true, Nat.reduceLT, Nat.reduceAdd]; done) | ((fail_if_success (apply Bool.eq_iff_iff.2)); first | omega | (simp only [yD2, beq_self_eq_true, Nat.reduceLT, Nat.reduceAdd] <;> omega)) | fail)) only [↓yS, yT, ↓reduceIte, Nat.reduceEqDiff, Nat.reduceAdd, Nat.reduceMul, reduceCtorEq, Int.reduceToNat, g21, hsl.len, hsl2.len]; refine yC (k _ _ ?_); clear k K) | ((first | refine zU ?_ | refine zV ?_ | refine zW ?_); intro A B C D a b c d; simp only [↓yG, Nat.reduceEqDiff, ↓reduceIte, g21, hsl.len, hsl2.len]; (first | refine zX (a ?_) | refine zY (b ?_) | refine zZ (fun hc => c ?_) (fun hc => d ?_)) <;> clear a b c d A B C D <;> try simp only [yL] at hc) | (refine yA ?_; intro A a; simp only [↓yG, Nat.reduceEqDiff, ↓reduceIte, g21, hsl.len, hsl2.len]; refine yB (a ?_); clear a A) | (refine yD ?_; simp only [gresults, ↓yG, Nat.reduceEqDiff, ↓reduceIte, Option.bind_some, gld_1, gld_n, g21, hsl.len, hsl2.len]; refine ⟨_, rfl, ?_⟩; simp only [gone]))
    exact hPost _ _ ⟨rfl, rfl⟩
  repeat' (first | (exfalso; omega) | refine zA ?_ | refine zB ?_ | refine zC ?_ | refine zD ?_ | refine zE ?_ | refine zF ?_ | refine zG ?_ | refine zH ?_ | refine zI ?_ | refine zJ ?_ | refine zK rfl ?_ | refine zL ?_ | refine zM ?_ | refine zN ?_ | refine zO ?_ | refine zP rfl ?_ | refine zQ ?_ | ((first | refine zR ?_ | refine zS ?_ | refine zT ?_ | skip); intro K k; simp (disch := (first | (simp only [yD2, beq_self_eq_true, Nat.reduceLT, Nat.reduceAdd]; done) | ((fail_if_success (apply Bool.eq_iff_iff.2)); first | omega | (simp only [yD2, beq_self_eq_true, Nat.reduceLT, Nat.reduceAdd] <;> omega)) | fail)) only [↓yS, yT, ↓reduceIte, Nat.reduceEqDiff, Nat.reduceAdd, Nat.reduceMul, reduceCtorEq, Int.reduceToNat, g21, hsl.len, hsl2.len]; refine yC (k _ _ ?_); clear k K) | ((first | refine zU ?_ | refine zV ?_ | refine zW ?_); intro A B C D a b c d; simp only [↓yG, Nat.reduceEqDiff, ↓reduceIte, g21, hsl.len, hsl2.len]; (first | refine zX (a ?_) | refine zY (b ?_) | refine zZ (fun hc => c ?_) (fun hc => d ?_)) <;> clear a b c d A B C D <;> try simp only [yL] at hc) | (refine yA ?_; intro A a; simp only [↓yG, Nat.reduceEqDiff, ↓reduceIte, g21, hsl.len, hsl2.len]; refine yB (a ?_); clear a A) | (refine yD ?_; simp only [gresults, ↓yG, Nat.reduceEqDiff, ↓reduceIte, Option.bind_some, gld_1, gld_n, g21, hsl.len, hsl2.len]; refine ⟨_, rfl, ?_⟩; simp only [gone]))
  refine GW_loop (fun k fr H1 => ∃ (j : Nat), k = A.length - j ∧ j ≤ A.length ∧ fr.get 0 = some (v) ∧ fr.get 1 = some (w) ∧ fr.get 12 = some (.int .i64 A.length) ∧ fr.get 13 = some (.int .i64 j) ∧ H1 = H ∧ decide (A = B) = decide (A.drop j = B.drop j)) ?_ A.length ?_
  rotate_left
  · refine ⟨0, by omega, by omega, ?_⟩
    simp only [↓yG, Nat.reduceEqDiff, ↓reduceIte, Int.natCast_add, Int.cast_ofNat_Int, Int.natCast_zero, true_and, and_true, Option.some.injEq, Value.int.injEq]
    first | exact ⟨rfl, rfl⟩ | rfl | (simp; done)
  rintro k fr H1 ⟨j, rfl, hj, f0, f1, f12, f13, rfl, hd⟩ J hJ
  by_cases hj1 : j < A.length
  · have e1 := hv.at_ hj1
    have e2 := hw.at_ (j := j) (by omega)
    have d1 : A.drop j = A[j]! :: A.drop (j + 1) := by rw [List.drop_eq_getElem_cons hj1, getElem!_pos A j hj1]
    have d2 : B.drop j = B[j]! :: B.drop (j + 1) := by rw [List.drop_eq_getElem_cons (by omega), getElem!_pos B j (by omega)]
    rw [d1, d2] at hd
    by_cases hx : A[j]! = B[j]!
    · have hx' := eq_true hx
      have hd2 : decide (A = B) = decide (A.drop (j + 1) = B.drop (j + 1)) := by rw [hd, hx]; simp
      repeat' (first | (exfalso; omega) | refine zA ?_ | refine zB ?_ | refine zC ?_ | refine zD ?_ | refine zE ?_ | refine zF ?_ | refine zG ?_ | refine zH ?_ | refine zI ?_ | refine zJ ?_ | refine zK rfl ?_ | refine zL ?_ | refine zM ?_ | refine zN ?_ | refine zO ?_ | refine zP rfl ?_ | refine zQ ?_ | ((first | refine zR ?_ | refine zS ?_ | refine zT ?_ | skip); intro K k; simp (disch := (first | (simp only [yD2, beq_self_eq_true, Nat.reduceLT, Nat.reduceAdd]; done) | ((fail_if_success (apply Bool.eq_iff_iff.2)); first | omega | (simp only [yD2, beq_self_eq_true, Nat.reduceLT, Nat.reduceAdd] <;> omega)) | fail)) only [↓yS, yT, ↓reduceIte, Nat.reduceEqDiff, Nat.reduceAdd, Nat.reduceMul, reduceCtorEq, Int.reduceToNat, g21, f0, f1, f12, f13, hsl.ia, hsl2.ia, e1, e2, hx']; refine yC (k _ _ ?_); clear k K) | ((first | refine zU ?_ | refine zV ?_ | refine zW ?_); intro A B C D a b c d; simp only [↓yG, Nat.reduceEqDiff, ↓reduceIte, g21, f0, f1, f12, f13, hsl.ia, hsl2.ia, e1, e2, hx']; (first | refine zX (a ?_) | refine zY (b ?_) | refine zZ (fun hc => c ?_) (fun hc => d ?_)) <;> clear a b c d A B C D <;> try simp only [yL] at hc) | (refine yA ?_; intro A a; simp only [↓yG, Nat.reduceEqDiff, ↓reduceIte, g21, f0, f1, f12, f13, hsl.ia, hsl2.ia, e1, e2, hx']; refine yB (a ?_); clear a A) | (refine yD ?_; simp only [gresults, ↓yG, Nat.reduceEqDiff, ↓reduceIte, Option.bind_some, gld_1, gld_n, g21, f0, f1, f12, f13, hsl.ia, hsl2.ia, e1, e2, hx']; refine ⟨_, rfl, ?_⟩; simp only [gone]))
      refine hJ _ _ ⟨A.length - (j + 1), by omega, j + 1, rfl, by omega, ?_⟩
      simp only [↓yG, Nat.reduceEqDiff, ↓reduceIte, Int.natCast_add, Int.cast_ofNat_Int, Int.natCast_zero, true_and, and_true, Option.some.injEq, Value.int.injEq, f0, f1, f12]
      first | exact ⟨rfl, hd2⟩ | exact hd2
    · have hx' := eq_false hx
      have hne : decide (A = B) = false := by rw [hd]; exact decide_eq_false fun h => hx (List.cons.inj h).1
      rw [hne] at hPost
      repeat' (first | (exfalso; omega) | refine zA ?_ | refine zB ?_ | refine zC ?_ | refine zD ?_ | refine zE ?_ | refine zF ?_ | refine zG ?_ | refine zH ?_ | refine zI ?_ | refine zJ ?_ | refine zK rfl ?_ | refine zL ?_ | refine zM ?_ | refine zN ?_ | refine zO ?_ | refine zP rfl ?_ | refine zQ ?_ | ((first | refine zR ?_ | refine zS ?_ | refine zT ?_ | skip); intro K k; simp (disch := (first | (simp only [yD2, beq_self_eq_true, Nat.reduceLT, Nat.reduceAdd]; done) | ((fail_if_success (apply Bool.eq_iff_iff.2)); first | omega | (simp only [yD2, beq_self_eq_true, Nat.reduceLT, Nat.reduceAdd] <;> omega)) | fail)) only [↓yS, yT, ↓reduceIte, Nat.reduceEqDiff, Nat.reduceAdd, Nat.reduceMul, reduceCtorEq, Int.reduceToNat, g21, f0, f1, f12, f13, hsl.ia, hsl2.ia, e1, e2, hx']; refine yC (k _ _ ?_); clear k K) | ((first | refine zU ?_ | refine zV ?_ | refine zW ?_); intro A B C D a b c d; simp only [↓yG, Nat.reduceEqDiff, ↓reduceIte, g21, f0, f1, f12, f13, hsl.ia, hsl2.ia, e1, e2, hx']; (first | refine zX (a ?_) | refine zY (b ?_) | refine zZ (fun hc => c ?_) (fun hc => d ?_)) <;> clear a b c d A B C D <;> try simp only [yL] at hc) | (refine yA ?_; intro A a; simp only [↓yG, Nat.reduceEqDiff, ↓reduceIte, g21, f0, f1, f12, f13, hsl.ia, hsl2.ia, e1, e2, hx']; refine yB (a ?_); clear a A) | (refine yD ?_; simp only [gresults, ↓yG, Nat.reduceEqDiff, ↓reduceIte, Option.bind_some, gld_1, gld_n, g21, f0, f1, f12, f13, hsl.ia, hsl2.ia, e1, e2, hx']; refine ⟨_, rfl, ?_⟩; simp only [gone]))
      exact hPost _ _ ⟨rfl, rfl⟩
  · obtain rfl : j = A.length := by omega
    have hy : decide (A = B) = true := by rw [hd, List.drop_length, hl, List.drop_length]; simp
    rw [hy] at hPost
    repeat' (first | (exfalso; omega) | refine zA ?_ | refine zB ?_ | refine zC ?_ | refine zD ?_ | refine zE ?_ | refine zF ?_ | refine zG ?_ | refine zH ?_ | refine zI ?_ | refine zJ ?_ | refine zK rfl ?_ | refine zL ?_ | refine zM ?_ | refine zN ?_ | refine zO ?_ | refine zP rfl ?_ | refine zQ ?_ | ((first | refine zR ?_ | refine zS ?_ | refine zT ?_ | skip); intro K k; simp (disch := (first | (simp only [yD2, beq_self_eq_true, Nat.reduceLT, Nat.reduceAdd]; done) | ((fail_if_success (apply Bool.eq_iff_iff.2)); first | omega | (simp only [yD2, beq_self_eq_true, Nat.reduceLT, Nat.reduceAdd] <;> omega)) | fail)) only [↓yS, yT, ↓reduceIte, Nat.reduceEqDiff, Nat.reduceAdd, Nat.reduceMul, reduceCtorEq, Int.reduceToNat, g21, f0, f1, f12, f13]; refine yC (k _ _ ?_); clear k K) | ((first | refine zU ?_ | refine zV ?_ | refine zW ?_); intro A B C D a b c d; simp only [↓yG, Nat.reduceEqDiff, ↓reduceIte, g21, f0, f1, f12, f13]; (first | refine zX (a ?_) | refine zY (b ?_) | refine zZ (fun hc => c ?_) (fun hc => d ?_)) <;> clear a b c d A B C D <;> try simp only [yL] at hc) | (refine yA ?_; intro A a; simp only [↓yG, Nat.reduceEqDiff, ↓reduceIte, g21, f0, f1, f12, f13]; refine yB (a ?_); clear a A) | (refine yD ?_; simp only [gresults, ↓yG, Nat.reduceEqDiff, ↓reduceIte, Option.bind_some, gld_1, gld_n, g21, f0, f1, f12, f13]; refine ⟨_, rfl, ?_⟩; simp only [gone]))
    exact hPost _ _ ⟨rfl, rfl⟩
theorem eqj_ok {H : GHeap} {v w : Value} {A B : List Int} (hv : IR H v A) (hw : IR H w B) (hA : A.length ≤ 4611686018427387904) (hB : B.length ≤ 4611686018427387904) :
    ∃ r H', gev G 22 [v, w] H = some (r, H') ∧ (r = .bool (decide (A = B)) ∧ H' = H) := by
  refine gev_GW (f := 22) rfl fun Post hPost => ?_
  have hsl := hv.isSl
  have hsl2 := hw.isSl
  simp only [frameOf, Nat.reduceAdd]
  by_cases hl : A.length = B.length
  case neg =>
    have hne : A ≠ B := fun e => hl (by rw [e])
    rw [decide_eq_false hne] at hPost
    repeat' (first | (exfalso; omega) | refine zA ?_ | refine zB ?_ | refine zC ?_ | refine zD ?_ | refine zE ?_ | refine zF ?_ | refine zG ?_ | refine zH ?_ | refine zI ?_ | refine zJ ?_ | refine zK rfl ?_ | refine zL ?_ | refine zM ?_ | refine zN ?_ | refine zO ?_ | refine zP rfl ?_ | refine zQ ?_ | ((first | refine zR ?_ | refine zS ?_ | refine zT ?_ | skip); intro K k; simp (disch := (first | (simp only [yD2, beq_self_eq_true, Nat.reduceLT, Nat.reduceAdd]; done) | ((fail_if_success (apply Bool.eq_iff_iff.2)); first | omega | (simp only [yD2, beq_self_eq_true, Nat.reduceLT, Nat.reduceAdd] <;> omega)) | fail)) only [↓yS, yT, ↓reduceIte, Nat.reduceEqDiff, Nat.reduceAdd, Nat.reduceMul, reduceCtorEq, Int.reduceToNat, g22, hsl.len, hsl2.len]; refine yC (k _ _ ?_); clear k K) | ((first | refine zU ?_ | refine zV ?_ | refine zW ?_); intro A B C D a b c d; simp only [↓yG, Nat.reduceEqDiff, ↓reduceIte, g22, hsl.len, hsl2.len]; (first | refine zX (a ?_) | refine zY (b ?_) | refine zZ (fun hc => c ?_) (fun hc => d ?_)) <;> clear a b c d A B C D <;> try simp only [yL] at hc) | (refine yA ?_; intro A a; simp only [↓yG, Nat.reduceEqDiff, ↓reduceIte, g22, hsl.len, hsl2.len]; refine yB (a ?_); clear a A) | (refine yD ?_; simp only [gresults, ↓yG, Nat.reduceEqDiff, ↓reduceIte, Option.bind_some, gld_1, gld_n, g22, hsl.len, hsl2.len]; refine ⟨_, rfl, ?_⟩; simp only [gone]))
    exact hPost _ _ ⟨rfl, rfl⟩
  repeat' (first | (exfalso; omega) | refine zA ?_ | refine zB ?_ | refine zC ?_ | refine zD ?_ | refine zE ?_ | refine zF ?_ | refine zG ?_ | refine zH ?_ | refine zI ?_ | refine zJ ?_ | refine zK rfl ?_ | refine zL ?_ | refine zM ?_ | refine zN ?_ | refine zO ?_ | refine zP rfl ?_ | refine zQ ?_ | ((first | refine zR ?_ | refine zS ?_ | refine zT ?_ | skip); intro K k; simp (disch := (first | (simp only [yD2, beq_self_eq_true, Nat.reduceLT, Nat.reduceAdd]; done) | ((fail_if_success (apply Bool.eq_iff_iff.2)); first | omega | (simp only [yD2, beq_self_eq_true, Nat.reduceLT, Nat.reduceAdd] <;> omega)) | fail)) only [↓yS, yT, ↓reduceIte, Nat.reduceEqDiff, Nat.reduceAdd, Nat.reduceMul, reduceCtorEq, Int.reduceToNat, g22, hsl.len, hsl2.len]; refine yC (k _ _ ?_); clear k K) | ((first | refine zU ?_ | refine zV ?_ | refine zW ?_); intro A B C D a b c d; simp only [↓yG, Nat.reduceEqDiff, ↓reduceIte, g22, hsl.len, hsl2.len]; (first | refine zX (a ?_) | refine zY (b ?_) | refine zZ (fun hc => c ?_) (fun hc => d ?_)) <;> clear a b c d A B C D <;> try simp only [yL] at hc) | (refine yA ?_; intro A a; simp only [↓yG, Nat.reduceEqDiff, ↓reduceIte, g22, hsl.len, hsl2.len]; refine yB (a ?_); clear a A) | (refine yD ?_; simp only [gresults, ↓yG, Nat.reduceEqDiff, ↓reduceIte, Option.bind_some, gld_1, gld_n, g22, hsl.len, hsl2.len]; refine ⟨_, rfl, ?_⟩; simp only [gone]))
  refine GW_loop (fun k fr H1 => ∃ (j : Nat), k = A.length - j ∧ j ≤ A.length ∧ fr.get 0 = some (v) ∧ fr.get 1 = some (w) ∧ fr.get 12 = some (.int .i64 A.length) ∧ fr.get 13 = some (.int .i64 j) ∧ H1 = H ∧ decide (A = B) = decide (A.drop j = B.drop j)) ?_ A.length ?_
  rotate_left
  · refine ⟨0, by omega, by omega, ?_⟩
    simp only [↓yG, Nat.reduceEqDiff, ↓reduceIte, Int.natCast_add, Int.cast_ofNat_Int, Int.natCast_zero, true_and, and_true, Option.some.injEq, Value.int.injEq]
    first | exact ⟨rfl, rfl⟩ | rfl | (simp; done)
  rintro k fr H1 ⟨j, rfl, hj, f0, f1, f12, f13, rfl, hd⟩ J hJ
  by_cases hj1 : j < A.length
  · have e1 := hv.at_ hj1
    have e2 := hw.at_ (j := j) (by omega)
    have d1 : A.drop j = A[j]! :: A.drop (j + 1) := by rw [List.drop_eq_getElem_cons hj1, getElem!_pos A j hj1]
    have d2 : B.drop j = B[j]! :: B.drop (j + 1) := by rw [List.drop_eq_getElem_cons (by omega), getElem!_pos B j (by omega)]
    rw [d1, d2] at hd
    by_cases hx : A[j]! = B[j]!
    · have hx' := eq_true hx
      have hd2 : decide (A = B) = decide (A.drop (j + 1) = B.drop (j + 1)) := by rw [hd, hx]; simp
      repeat' (first | (exfalso; omega) | refine zA ?_ | refine zB ?_ | refine zC ?_ | refine zD ?_ | refine zE ?_ | refine zF ?_ | refine zG ?_ | refine zH ?_ | refine zI ?_ | refine zJ ?_ | refine zK rfl ?_ | refine zL ?_ | refine zM ?_ | refine zN ?_ | refine zO ?_ | refine zP rfl ?_ | refine zQ ?_ | ((first | refine zR ?_ | refine zS ?_ | refine zT ?_ | skip); intro K k; simp (disch := (first | (simp only [yD2, beq_self_eq_true, Nat.reduceLT, Nat.reduceAdd]; done) | ((fail_if_success (apply Bool.eq_iff_iff.2)); first | omega | (simp only [yD2, beq_self_eq_true, Nat.reduceLT, Nat.reduceAdd] <;> omega)) | fail)) only [↓yS, yT, ↓reduceIte, Nat.reduceEqDiff, Nat.reduceAdd, Nat.reduceMul, reduceCtorEq, Int.reduceToNat, g22, f0, f1, f12, f13, hsl.ia, hsl2.ia, e1, e2, hx']; refine yC (k _ _ ?_); clear k K) | ((first | refine zU ?_ | refine zV ?_ | refine zW ?_); intro A B C D a b c d; simp only [↓yG, Nat.reduceEqDiff, ↓reduceIte, g22, f0, f1, f12, f13, hsl.ia, hsl2.ia, e1, e2, hx']; (first | refine zX (a ?_) | refine zY (b ?_) | refine zZ (fun hc => c ?_) (fun hc => d ?_)) <;> clear a b c d A B C D <;> try simp only [yL] at hc) | (refine yA ?_; intro A a; simp only [↓yG, Nat.reduceEqDiff, ↓reduceIte, g22, f0, f1, f12, f13, hsl.ia, hsl2.ia, e1, e2, hx']; refine yB (a ?_); clear a A) | (refine yD ?_; simp only [gresults, ↓yG, Nat.reduceEqDiff, ↓reduceIte, Option.bind_some, gld_1, gld_n, g22, f0, f1, f12, f13, hsl.ia, hsl2.ia, e1, e2, hx']; refine ⟨_, rfl, ?_⟩; simp only [gone]))
      refine hJ _ _ ⟨A.length - (j + 1), by omega, j + 1, rfl, by omega, ?_⟩
      simp only [↓yG, Nat.reduceEqDiff, ↓reduceIte, Int.natCast_add, Int.cast_ofNat_Int, Int.natCast_zero, true_and, and_true, Option.some.injEq, Value.int.injEq, f0, f1, f12]
      first | exact ⟨rfl, hd2⟩ | exact hd2
    · have hx' := eq_false hx
      have hne : decide (A = B) = false := by rw [hd]; exact decide_eq_false fun h => hx (List.cons.inj h).1
      rw [hne] at hPost
      repeat' (first | (exfalso; omega) | refine zA ?_ | refine zB ?_ | refine zC ?_ | refine zD ?_ | refine zE ?_ | refine zF ?_ | refine zG ?_ | refine zH ?_ | refine zI ?_ | refine zJ ?_ | refine zK rfl ?_ | refine zL ?_ | refine zM ?_ | refine zN ?_ | refine zO ?_ | refine zP rfl ?_ | refine zQ ?_ | ((first | refine zR ?_ | refine zS ?_ | refine zT ?_ | skip); intro K k; simp (disch := (first | (simp only [yD2, beq_self_eq_true, Nat.reduceLT, Nat.reduceAdd]; done) | ((fail_if_success (apply Bool.eq_iff_iff.2)); first | omega | (simp only [yD2, beq_self_eq_true, Nat.reduceLT, Nat.reduceAdd] <;> omega)) | fail)) only [↓yS, yT, ↓reduceIte, Nat.reduceEqDiff, Nat.reduceAdd, Nat.reduceMul, reduceCtorEq, Int.reduceToNat, g22, f0, f1, f12, f13, hsl.ia, hsl2.ia, e1, e2, hx']; refine yC (k _ _ ?_); clear k K) | ((first | refine zU ?_ | refine zV ?_ | refine zW ?_); intro A B C D a b c d; simp only [↓yG, Nat.reduceEqDiff, ↓reduceIte, g22, f0, f1, f12, f13, hsl.ia, hsl2.ia, e1, e2, hx']; (first | refine zX (a ?_) | refine zY (b ?_) | refine zZ (fun hc => c ?_) (fun hc => d ?_)) <;> clear a b c d A B C D <;> try simp only [yL] at hc) | (refine yA ?_; intro A a; simp only [↓yG, Nat.reduceEqDiff, ↓reduceIte, g22, f0, f1, f12, f13, hsl.ia, hsl2.ia, e1, e2, hx']; refine yB (a ?_); clear a A) | (refine yD ?_; simp only [gresults, ↓yG, Nat.reduceEqDiff, ↓reduceIte, Option.bind_some, gld_1, gld_n, g22, f0, f1, f12, f13, hsl.ia, hsl2.ia, e1, e2, hx']; refine ⟨_, rfl, ?_⟩; simp only [gone]))
      exact hPost _ _ ⟨rfl, rfl⟩
  · obtain rfl : j = A.length := by omega
    have hy : decide (A = B) = true := by rw [hd, List.drop_length, hl, List.drop_length]; simp
    rw [hy] at hPost
    repeat' (first | (exfalso; omega) | refine zA ?_ | refine zB ?_ | refine zC ?_ | refine zD ?_ | refine zE ?_ | refine zF ?_ | refine zG ?_ | refine zH ?_ | refine zI ?_ | refine zJ ?_ | refine zK rfl ?_ | refine zL ?_ | refine zM ?_ | refine zN ?_ | refine zO ?_ | refine zP rfl ?_ | refine zQ ?_ | ((first | refine zR ?_ | refine zS ?_ | refine zT ?_ | skip); intro K k; simp (disch := (first | (simp only [yD2, beq_self_eq_true, Nat.reduceLT, Nat.reduceAdd]; done) | ((fail_if_success (apply Bool.eq_iff_iff.2)); first | omega | (simp only [yD2, beq_self_eq_true, Nat.reduceLT, Nat.reduceAdd] <;> omega)) | fail)) only [↓yS, yT, ↓reduceIte, Nat.reduceEqDiff, Nat.reduceAdd, Nat.reduceMul, reduceCtorEq, Int.reduceToNat, g22, f0, f1, f12, f13]; refine yC (k _ _ ?_); clear k K) | ((first | refine zU ?_ | refine zV ?_ | refine zW ?_); intro A B C D a b c d; simp only [↓yG, Nat.reduceEqDiff, ↓reduceIte, g22, f0, f1, f12, f13]; (first | refine zX (a ?_) | refine zY (b ?_) | refine zZ (fun hc => c ?_) (fun hc => d ?_)) <;> clear a b c d A B C D <;> try simp only [yL] at hc) | (refine yA ?_; intro A a; simp only [↓yG, Nat.reduceEqDiff, ↓reduceIte, g22, f0, f1, f12, f13]; refine yB (a ?_); clear a A) | (refine yD ?_; simp only [gresults, ↓yG, Nat.reduceEqDiff, ↓reduceIte, Option.bind_some, gld_1, gld_n, g22, f0, f1, f12, f13]; refine ⟨_, rfl, ?_⟩; simp only [gone]))
    exact hPost _ _ ⟨rfl, rfl⟩
theorem z3E : ([.slice none 0 0, .int .i64 0, .slice none 0 0] : List Value) = bkC (.slice none 0 0) 0 (.slice none 0 0) := rfl
theorem gsetn_bz {ev pv : Value} {c : Int} (h1 : flatV ev = true) (h2 : flatV pv = true) : gsetn (bkC (.slice none 0 0) 0 (.slice none 0 0)) 0 3 (.agg (bkC ev c pv).toArray) = some (bkC ev c pv) := gsetn_bk rfl h1 h2
theorem brk_0 {ev pv : Value} {c e : Int} : brkV ev c pv e = .tuple #[.agg (bkC ev c pv).toArray, .int .i64 e] := rfl
theorem potL_len {p : Par} {l : List Nat} {c e : Int} (h : BrkOut p l c e) : l.length ≤ 4 ∧ (if e = 0 then potL p else []).length ≤ 4611686018427387904 ∨ parF p ≠ 0 ∨ e ≠ 0 := by
  by_cases he : e = 0
  · by_cases h0 : parF p = 0
    · left
      subst he
      rw [if_pos rfl]
      have hr4 := (parF_ok h0).2.2.2.2.2.1
      have hgo := (tkF_go (parF_ok h0).1).2
      refine ⟨?_, ?_⟩
      · rcases h with ⟨h1, _⟩ | ⟨_, _, h1, _⟩ | ⟨_, _, _, hb⟩
        · exact absurd h0 h1
        · cases h1
        · have := hb.len; omega
      · unfold potL
        rw [potU_len]
        have : (p.r.toNat + 1) * (p.l.length + 1) ≤ 5 * (p.l.length + 1) := Nat.mul_le_mul_right _ (by omega)
        omega
    · exact .inr (.inl h0)
  · exact .inr (.inr he)
theorem brk_lens {p : Par} {l : List Nat} {c e : Int} (h : BrkOut p l c e) : (natsI l).length ≤ 4611686018427387904 ∧ (if e = 0 then potL p else []).length ≤ 4611686018427387904 := by
  have hn : (natsI l).length = l.length := by simp [natsI]
  rw [hn]
  by_cases he : e = 0
  · subst he
    rcases potL_len h with ⟨h1, h2⟩ | h1 | h1
    · exact ⟨by omega, h2⟩
    · rcases h with ⟨_, h2, _⟩ | ⟨h2, _⟩ | ⟨h2, _⟩
      · exact absurd h2.symm h1
      · exact absurd h2 h1
      · exact absurd h2 h1
    · exact absurd rfl h1
  · rw [if_neg he]
    have : l = [] := by
      rcases h with ⟨_, _, h2, _⟩ | ⟨_, _, _, h2, _⟩ | ⟨_, h2, _⟩
      · exact h2
      · exact h2
      · exact absurd h2 he
    rw [this]; simp
theorem breaks_ok {H : GHeap} (hw : H.wf) {p : Par} (hp : PR H p) (hsq : ShQ p.l) : ∃ r H', gev G 4 [parV p] H = some (r, H') ∧ r = .bool true := by
  refine gev_GW (f := 4) rfl fun Post hPost => ?_
  have hP : ∀ H', Post (.bool true) H' := fun H' => hPost _ _ rfl
  have hf := hp.kr.flat
  have hlim := hw.1
  have hb := par_cflat hf
  have hl := par_cells p
  have hS1 := (Same.refl hw).add (.cells (parC p) 0 true)
  have e0 := rdn_par (p := p) (Same.refl hS1.wf)
  have hm0 : (H.add (some (.cells (parC p) 0 true))).mine H.len = some (parC p, 0) := mine_add_eq rfl hlim
  simp only [frameOf, Nat.reduceAdd]
  repeat' (first | refine zA ?_ | refine zB ?_ | refine zC ?_ | refine zD ?_ | refine zE ?_ | refine zF ?_ | refine zG ?_ | refine zH ?_ | refine zI ?_ | refine zJ ?_ | refine zK rfl ?_ | refine zL ?_ | refine zM ?_ | refine zN ?_ | refine zO ?_ | refine zP rfl ?_ | refine zQ ?_ | ((first | refine zR ?_ | refine zS ?_ | refine zT ?_ | skip); intro K k; simp (disch := (first | (simp only [yD2, beq_self_eq_true, Nat.reduceLT, Nat.reduceAdd]; done) | ((fail_if_success (apply Bool.eq_iff_iff.2)); first | omega | (simp only [yD2, beq_self_eq_true, Nat.reduceLT, Nat.reduceAdd] <;> omega)) | fail)) only [↓yS, yT, ↓reduceIte, Nat.reduceEqDiff, Nat.reduceAdd, Nat.reduceMul, reduceCtorEq, Int.reduceToNat, g4, hb, hl]; refine yC (k _ _ ?_); clear k K) | ((first | refine zU ?_ | refine zV ?_ | refine zW ?_); intro A B C D a b c d; simp only [↓yG, Nat.reduceEqDiff, ↓reduceIte, g4, hb, hl]; (first | refine zX (a ?_) | refine zY (b ?_) | refine zZ (fun hc => c ?_) (fun hc => d ?_)) <;> clear a b c d A B C D <;> try simp only [yL] at hc) | (refine yA ?_; intro A a; simp only [↓yG, Nat.reduceEqDiff, ↓reduceIte, g4, hb, hl]; refine yB (a ?_); clear a A) | (refine yD ?_; simp only [gresults, ↓yG, Nat.reduceEqDiff, ↓reduceIte, Option.bind_some, gld_1, gld_n, g4, hb, hl]; refine ⟨_, rfl, ?_⟩; simp only [gone]))
  refine Gw_s fun K' hK' => G1_call (by simp only [gtarget, ↓GArg.ev, ↓evs, ↓Tr.get_set, Nat.reduceEqDiff, if_true, if_false, ↓reduceIte, Option.map_some]; rfl) (awake_ok _) fun r1 H1 hq => hK' _ _ ?_
  obtain ⟨rfl, rfl⟩ := hq
  repeat' (first | refine zA ?_ | refine zB ?_ | refine zC ?_ | refine zD ?_ | refine zE ?_ | refine zF ?_ | refine zG ?_ | refine zH ?_ | refine zI ?_ | refine zJ ?_ | refine zK rfl ?_ | refine zL ?_ | refine zM ?_ | refine zN ?_ | refine zO ?_ | refine zP rfl ?_ | refine zQ ?_ | ((first | refine zR ?_ | refine zS ?_ | refine zT ?_ | skip); intro K k; simp (disch := (first | (simp only [yD2, beq_self_eq_true, Nat.reduceLT, Nat.reduceAdd]; done) | ((fail_if_success (apply Bool.eq_iff_iff.2)); first | omega | (simp only [yD2, beq_self_eq_true, Nat.reduceLT, Nat.reduceAdd] <;> omega)) | fail)) only [↓yS, yT, ↓reduceIte, Nat.reduceEqDiff, Nat.reduceAdd, Nat.reduceMul, reduceCtorEq, Int.reduceToNat, g4, e0]; refine yC (k _ _ ?_); clear k K) | ((first | refine zU ?_ | refine zV ?_ | refine zW ?_); intro A B C D a b c d; simp only [↓yG, Nat.reduceEqDiff, ↓reduceIte, g4, e0]; (first | refine zX (a ?_) | refine zY (b ?_) | refine zZ (fun hc => c ?_) (fun hc => d ?_)) <;> clear a b c d A B C D <;> try simp only [yL] at hc) | (refine yA ?_; intro A a; simp only [↓yG, Nat.reduceEqDiff, ↓reduceIte, g4, e0]; refine yB (a ?_); clear a A) | (refine yD ?_; simp only [gresults, ↓yG, Nat.reduceEqDiff, ↓reduceIte, Option.bind_some, gld_1, gld_n, g4, e0]; refine ⟨_, rfl, ?_⟩; simp only [gone]))
  refine Gw_s fun K' hK' => G1_call (by simp only [gtarget, ↓GArg.ev, ↓evs, ↓Tr.get_set, Nat.reduceEqDiff, if_true, if_false, ↓reduceIte, Option.map_some]; rfl) (few_ok' hw hS1.wf hS1 hp) fun r1 H1 hq => hK' _ _ ?_
  obtain ⟨q, rfl, hq1, hq16, hql, hS2⟩ := hq
  have hqs : ShQ q.l := fun x hx => hsq x (by rw [hql] at hx; exact List.mem_of_mem_take hx)
  have hin : H.len < (H.add (some (.cells (parC p) 0 true))).len := by rw [len_add]; omega
  have hm1 : H1.mine H.len = some (parC p, 0) := by rw [hS2.mine hin]; exact hm0
  have hst := gsetn_par (p := q) (parC_len p) hq1.kr.flat
  have hlim1 := hS2.wf.1
  have hlt0 : H.len < H1.len := Nat.lt_of_lt_of_le hin hS2.len
  have hS3 : Same H (H1.put H.len (.cells (parC q) 0 true)) := (hS1.trans hS2).put (Nat.le_refl _) hlt0 _
  have hrq : (H1.put H.len (.cells (parC q) 0 true)).rdn H.len 0 15 = some (parV q) := rdnP
  repeat' (first | refine zA ?_ | refine zB ?_ | refine zC ?_ | refine zD ?_ | refine zE ?_ | refine zF ?_ | refine zG ?_ | refine zH ?_ | refine zI ?_ | refine zJ ?_ | refine zK rfl ?_ | refine zL ?_ | refine zM ?_ | refine zN ?_ | refine zO ?_ | refine zP rfl ?_ | refine zQ ?_ | ((first | refine zR ?_ | refine zS ?_ | refine zT ?_ | skip); intro K k; simp (disch := (first | (simp only [yD2, beq_self_eq_true, Nat.reduceLT, Nat.reduceAdd]; done) | ((fail_if_success (apply Bool.eq_iff_iff.2)); first | omega | (simp only [yD2, beq_self_eq_true, Nat.reduceLT, Nat.reduceAdd] <;> omega)) | fail)) only [↓yS, yT, ↓reduceIte, Nat.reduceEqDiff, Nat.reduceAdd, Nat.reduceMul, reduceCtorEq, Int.reduceToNat, g4, hm1, hst, rdnP]; refine yC (k _ _ ?_); clear k K) | ((first | refine zU ?_ | refine zV ?_ | refine zW ?_); intro A B C D a b c d; simp only [↓yG, Nat.reduceEqDiff, ↓reduceIte, g4, hm1, hst, rdnP]; (first | refine zX (a ?_) | refine zY (b ?_) | refine zZ (fun hc => c ?_) (fun hc => d ?_)) <;> clear a b c d A B C D <;> try simp only [yL] at hc) | (refine yA ?_; intro A a; simp only [↓yG, Nat.reduceEqDiff, ↓reduceIte, g4, hm1, hst, rdnP]; refine yB (a ?_); clear a A) | (refine yD ?_; simp only [gresults, ↓yG, Nat.reduceEqDiff, ↓reduceIte, Option.bind_some, gld_1, gld_n, g4, hm1, hst, rdnP]; refine ⟨_, rfl, ?_⟩; simp only [gone]))
  have hl2 : H.len < (H1.put H.len (.cells (parC q) 0 true)).len := by rw [len_put]; omega
  generalize H1.put H.len (.cells (parC q) 0 true) = H2 at *
  have erq : ∀ H', Same H2 H' → H'.rdn H.len 0 15 = some (parV q) := fun H' h => by rw [h.rdn hl2]; exact hrq
  refine Gw_s fun K' hK' => G1_call (by simp only [gtarget, ↓GArg.ev, ↓evs, ↓Tr.get_set, Nat.reduceEqDiff, if_true, if_false, ↓reduceIte, Option.map_some]; rfl) (Break_ok hS3.wf (hq1.later hw hS3)) fun r3 H3 hq => hK' _ _ ?_
  obtain ⟨⟨ev, pv, l, c, e, rfl, he1, he2, he3⟩, hS5⟩ := hq
  have hgb := gsetn_bz (c := c) (IR.fl he1) (IR.fl he2)
  have hlim3 := hS5.wf.1
  have er3 := erq _ hS5
  have hlt3 : H.len < H3.len := Nat.lt_of_lt_of_le hl2 hS5.len
  have hS6a := (hS5.add (.cells (bkC (.slice none 0 0) 0 (.slice none 0 0)) 0 true)).put (i := H3.len) hS5.len (by rw [len_add]; omega) (.cells (bkC ev c pv) 0 true)
  have hS6b : Same H3 ((H3.add (some (.cells (bkC (.slice none 0 0) 0 (.slice none 0 0)) 0 true))).put H3.len (.cells (bkC ev c pv) 0 true)) := (Same.refl hS5.wf).new _ _
  repeat' (first | refine zA ?_ | refine zB ?_ | refine zC ?_ | refine zD ?_ | refine zE ?_ | refine zF ?_ | refine zG ?_ | refine zH ?_ | refine zI ?_ | refine zJ ?_ | refine zK rfl ?_ | refine zL ?_ | refine zM ?_ | refine zN ?_ | refine zO ?_ | refine zP rfl ?_ | refine zQ ?_ | ((first | refine zR ?_ | refine zS ?_ | refine zT ?_ | skip); intro K k; simp (disch := (first | (simp only [yD2, beq_self_eq_true, Nat.reduceLT, Nat.reduceAdd]; done) | ((fail_if_success (apply Bool.eq_iff_iff.2)); first | omega | (simp only [yD2, beq_self_eq_true, Nat.reduceLT, Nat.reduceAdd] <;> omega)) | fail)) only [↓yS, yT, ↓reduceIte, Nat.reduceEqDiff, Nat.reduceAdd, Nat.reduceMul, reduceCtorEq, Int.reduceToNat, g4, brk_0, z3E, hgb, er3]; refine yC (k _ _ ?_); clear k K) | ((first | refine zU ?_ | refine zV ?_ | refine zW ?_); intro A B C D a b c d; simp only [↓yG, Nat.reduceEqDiff, ↓reduceIte, g4, brk_0, z3E, hgb, er3]; (first | refine zX (a ?_) | refine zY (b ?_) | refine zZ (fun hc => c ?_) (fun hc => d ?_)) <;> clear a b c d A B C D <;> try simp only [yL] at hc) | (refine yA ?_; intro A a; simp only [↓yG, Nat.reduceEqDiff, ↓reduceIte, g4, brk_0, z3E, hgb, er3]; refine yB (a ?_); clear a A) | (refine yD ?_; simp only [gresults, ↓yG, Nat.reduceEqDiff, ↓reduceIte, Option.bind_some, gld_1, gld_n, g4, brk_0, z3E, hgb, er3]; refine ⟨_, rfl, ?_⟩; simp only [gone]))
  have hS6 := hS3.trans hS6a
  have hm6 : ((H3.add (some (.cells (bkC (.slice none 0 0) 0 (.slice none 0 0)) 0 true))).put H3.len (.cells (bkC ev c pv) 0 true)).mine H3.len = some (bkC ev c pv, 0) := mine_put_same hlim3
  have hl6 : H3.len < ((H3.add (some (.cells (bkC (.slice none 0 0) 0 (.slice none 0 0)) 0 true))).put H3.len (.cells (bkC ev c pv) 0 true)).len := by simp only [len_add, len_put]; omega
  generalize (H3.add (some (.cells (bkC (.slice none 0 0) 0 (.slice none 0 0)) 0 true))).put H3.len (.cells (bkC ev c pv) 0 true) = H4 at *
  refine Gw_s fun K' hK' => G1_call (by simp only [gtarget, ↓GArg.ev, ↓evs, ↓Tr.get_set, Nat.reduceEqDiff, if_true, if_false, ↓reduceIte, Option.map_some]; rfl) (rBreak_ok hS6.wf (hq1.later hw hS6) hqs) fun r3 H5 hq => hK' _ _ ?_
  obtain ⟨⟨ev', pv', l', c', e', rfl, he1', he2', he3'⟩, hS7⟩ := hq
  have hgb' := gsetn_bz (c := c') (IR.fl he1') (IR.fl he2')
  obtain ⟨rfl, rfl, rfl⟩ := brk_uniq he3 he3'
  have hr1 : ∀ o, H5.rd H3.len o = (bkC ev c pv)[o]? := fun o => by rw [hS7.rd hl6]; exact mine_rd hm6
  have hlim5 := hS7.wf.1
  have hl7 := hS7.len
  have hS8b : Same H5 ((H5.add (some (.cells (bkC (.slice none 0 0) 0 (.slice none 0 0)) 0 true))).put H5.len (.cells (bkC ev' c pv') 0 true)) := (Same.refl hS7.wf).new _ _
  obtain ⟨n1, n2⟩ := brk_lens he3
  repeat' (first | (exfalso; omega) | refine zA ?_ | refine zB ?_ | refine zC ?_ | refine zD ?_ | refine zE ?_ | refine zF ?_ | refine zG ?_ | refine zH ?_ | refine zI ?_ | refine zJ ?_ | refine zK rfl ?_ | refine zL ?_ | refine zM ?_ | refine zN ?_ | refine zO ?_ | refine zP rfl ?_ | refine zQ ?_ | ((first | refine zR ?_ | refine zS ?_ | refine zT ?_ | skip); intro K k; simp (disch := (first | (simp only [yD2, beq_self_eq_true, Nat.reduceLT, Nat.reduceAdd]; done) | ((fail_if_success (apply Bool.eq_iff_iff.2)); first | omega | (simp only [yD2, beq_self_eq_true, Nat.reduceLT, Nat.reduceAdd] <;> omega)) | fail)) only [↓yS, yT, ↓reduceIte, Nat.reduceEqDiff, Nat.reduceAdd, Nat.reduceMul, reduceCtorEq, Int.reduceToNat, g4, brk_0, z3E, hgb', hr1, bkC_0, bkC_1]; refine yC (k _ _ ?_); clear k K) | ((first | refine zU ?_ | refine zV ?_ | refine zW ?_); intro A B C D a b c d; simp only [↓yG, Nat.reduceEqDiff, ↓reduceIte, g4, brk_0, z3E, hgb', hr1, bkC_0, bkC_1]; (first | refine zX (a ?_) | refine zY (b ?_) | refine zZ (fun hc => c ?_) (fun hc => d ?_)) <;> clear a b c d A B C D <;> try simp only [yL] at hc) | (refine yA ?_; intro A a; simp only [↓yG, Nat.reduceEqDiff, ↓reduceIte, g4, brk_0, z3E, hgb', hr1, bkC_0, bkC_1]; refine yB (a ?_); clear a A) | (refine yD ?_; simp only [gresults, ↓yG, Nat.reduceEqDiff, ↓reduceIte, Option.bind_some, gld_1, gld_n, g4, brk_0, z3E, hgb', hr1, bkC_0, bkC_1]; refine ⟨_, rfl, ?_⟩; simp only [gone]))
  have hra : ∀ H', Same ((H5.add (some (.cells (bkC (.slice none 0 0) 0 (.slice none 0 0)) 0 true))).put H5.len (.cells (bkC ev' c pv') 0 true)) H' → ∀ o, H'.rd H3.len o = (bkC ev c pv)[o]? := fun H' h o => by
    rw [(hS7.trans (hS8b.trans h)).rd hl6]; exact mine_rd hm6
  have hrb : ∀ H', Same ((H5.add (some (.cells (bkC (.slice none 0 0) 0 (.slice none 0 0)) 0 true))).put H5.len (.cells (bkC ev' c pv') 0 true)) H' → ∀ o, H'.rd H5.len o = (bkC ev' c pv')[o]? := fun H' h o => by
    rw [h.rd (by simp only [len_put, len_add]; omega)]; exact rd_put_same
  have hw8 := hS8b.wf
  have i1 := GArg1.same he1 hS5.wf (hS6b.trans (hS7.trans hS8b))
  have i2 := GArg1.same he2 hS5.wf (hS6b.trans (hS7.trans hS8b))
  have i3 := GArg1.same he1' hS7.wf hS8b
  have i4 := GArg1.same he2' hS7.wf hS8b
  generalize (H5.add (some (.cells (bkC (.slice none 0 0) 0 (.slice none 0 0)) 0 true))).put H5.len (.cells (bkC ev' c pv') 0 true) = H6 at *
  intro K' hK'; refine G1_call (by simp only [gtarget, ↓GArg.ev, ↓evs, ↓Tr.get_set, Nat.reduceEqDiff, if_true, if_false, ↓reduceIte, Option.map_some]; rfl) (eqi_ok i1 i3 n1 n1) fun r7 H7 hq => hK' _ _ ?_
  obtain ⟨rfl, rfl⟩ := hq
  rw [decide_eq_true rfl]
  have hra0 := hra _ (Same.refl hw8)
  have hrb0 := hrb _ (Same.refl hw8)
  repeat' (first | (exfalso; omega) | refine zA ?_ | refine zB ?_ | refine zC ?_ | refine zD ?_ | refine zE ?_ | refine zF ?_ | refine zG ?_ | refine zH ?_ | refine zI ?_ | refine zJ ?_ | refine zK rfl ?_ | refine zL ?_ | refine zM ?_ | refine zN ?_ | refine zO ?_ | refine zP rfl ?_ | refine zQ ?_ | ((first | refine zR ?_ | refine zS ?_ | refine zT ?_ | skip); intro K k; simp (disch := (first | (simp only [yD2, beq_self_eq_true, Nat.reduceLT, Nat.reduceAdd]; done) | ((fail_if_success (apply Bool.eq_iff_iff.2)); first | omega | (simp only [yD2, beq_self_eq_true, Nat.reduceLT, Nat.reduceAdd] <;> omega)) | fail)) only [↓yS, yT, ↓reduceIte, Nat.reduceEqDiff, Nat.reduceAdd, Nat.reduceMul, reduceCtorEq, Int.reduceToNat, g4, hra0, hrb0, bkC_2]; refine yC (k _ _ ?_); clear k K) | ((first | refine zU ?_ | refine zV ?_ | refine zW ?_); intro A B C D a b c d; simp only [↓yG, Nat.reduceEqDiff, ↓reduceIte, g4, hra0, hrb0, bkC_2]; (first | refine zX (a ?_) | refine zY (b ?_) | refine zZ (fun hc => c ?_) (fun hc => d ?_)) <;> clear a b c d A B C D <;> try simp only [yL] at hc) | (refine yA ?_; intro A a; simp only [↓yG, Nat.reduceEqDiff, ↓reduceIte, g4, hra0, hrb0, bkC_2]; refine yB (a ?_); clear a A) | (refine yD ?_; simp only [gresults, ↓yG, Nat.reduceEqDiff, ↓reduceIte, Option.bind_some, gld_1, gld_n, g4, hra0, hrb0, bkC_2]; refine ⟨_, rfl, ?_⟩; simp only [gone]))
  intro K' hK'; refine G1_call (by simp only [gtarget, ↓GArg.ev, ↓evs, ↓Tr.get_set, Nat.reduceEqDiff, if_true, if_false, ↓reduceIte, Option.map_some]; rfl) (eqj_ok i2 i4 n2 n2) fun r7 H8 hq => hK' _ _ ?_
  obtain ⟨rfl, rfl⟩ := hq
  rw [decide_eq_true rfl]
  repeat' (first | (exfalso; omega) | refine zA ?_ | refine zB ?_ | refine zC ?_ | refine zD ?_ | refine zE ?_ | refine zF ?_ | refine zG ?_ | refine zH ?_ | refine zI ?_ | refine zJ ?_ | refine zK rfl ?_ | refine zL ?_ | refine zM ?_ | refine zN ?_ | refine zO ?_ | refine zP rfl ?_ | refine zQ ?_ | ((first | refine zR ?_ | refine zS ?_ | refine zT ?_ | skip); intro K k; simp (disch := (first | (simp only [yD2, beq_self_eq_true, Nat.reduceLT, Nat.reduceAdd]; done) | ((fail_if_success (apply Bool.eq_iff_iff.2)); first | omega | (simp only [yD2, beq_self_eq_true, Nat.reduceLT, Nat.reduceAdd] <;> omega)) | fail)) only [↓yS, yT, ↓reduceIte, Nat.reduceEqDiff, Nat.reduceAdd, Nat.reduceMul, reduceCtorEq, Int.reduceToNat, g4]; refine yC (k _ _ ?_); clear k K) | ((first | refine zU ?_ | refine zV ?_ | refine zW ?_); intro A B C D a b c d; simp only [↓yG, Nat.reduceEqDiff, ↓reduceIte, g4]; (first | refine zX (a ?_) | refine zY (b ?_) | refine zZ (fun hc => c ?_) (fun hc => d ?_)) <;> clear a b c d A B C D <;> try simp only [yL] at hc) | (refine yA ?_; intro A a; simp only [↓yG, Nat.reduceEqDiff, ↓reduceIte, g4]; refine yB (a ?_); clear a A) | (refine yD ?_; simp only [gresults, ↓yG, Nat.reduceEqDiff, ↓reduceIte, Option.bind_some, gld_1, gld_n, g4]; refine ⟨_, rfl, ?_⟩; simp only [gone]))
  exact hP _
theorem breaks_law {H : GHeap} (hw : H.wf) {gvs : List Value} (h : RdAsQ (fun m => m ≤ 1048576) H [parShp] gvs) : ∃ v H2, gev G 4 gvs H = some (v, H2) ∧ v = .bool true := by
  obtain ⟨gv, _, rfl, h1, rfl⟩ := h
  obtain ⟨p, rfl, hp, hsq⟩ := RdA.par h1
  exact breaks_ok hw hp hsq
end Go.Gh
