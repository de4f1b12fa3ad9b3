/-
  style and its reference, walked: escape, Letters.
-/
import Derived.Test.YtgbibkkcnkaelaaDoorSyT0
namespace Go.Gh
set_option linter.unusedSimpArgs false
set_option linter.unusedVariables false
open Go.RowKit
set_option maxRecDepth 4000

def isE (b : UInt8) : Bool := b == 123 || b == 125 || b == 92
def esc1 (b : UInt8) : List UInt8 := if isE b = true then [92, b] else [b]
def esc (l : List UInt8) : List UInt8 := l.flatMap esc1
theorem esc_app (a b : List UInt8) : esc (a ++ b) = esc a ++ esc b := by simp [esc]
theorem esc_cons (b : UInt8) (l : List UInt8) : esc (b :: l) = esc1 b ++ esc l := by simp [esc]
theorem esc_take {l : List UInt8} {j : Nat} (h : j < l.length) : esc (l.take (j + 1)) = esc (l.take j) ++ esc1 l[j]! := by
  rw [List.take_succ_eq_append_getElem h, esc_app, ← getElem!_pos l j h]
  simp [esc]
theorem esc_le (l : List UInt8) (j : Nat) : (esc (l.take j)).length ≤ (esc l).length := by
  have : esc l = esc (l.take j) ++ esc (l.drop j) := by rw [← esc_app, List.take_append_drop]
  rw [this]; simp
theorem len_le_esc : ∀ l : List UInt8, l.length ≤ (esc l).length
  | [] => by simp [esc]
  | b :: l => by
    have := len_le_esc l
    rw [esc_cons, List.length_append, List.length_cons]
    unfold esc1
    split <;> simp <;> omega
theorem esc_le2 : ∀ l : List UInt8, (esc l).length ≤ 2 * l.length
  | [] => by simp [esc]
  | b :: l => by
    have := esc_le2 l
    rw [esc_cons, List.length_append, List.length_cons]
    unfold esc1
    split <;> simp <;> omega
theorem u8_eq {b : UInt8} {c : Nat} (hc : c < 256) : ((b.toNat : Int) = (c : Int)) ↔ b = UInt8.ofNat c := by
  constructor
  · intro h
    apply UInt8.toNat_inj.1
    rw [UInt8.toNat_ofNat']
    omega
  · rintro rfl
    rw [UInt8.toNat_ofNat']
    omega
theorem isE_eq {b : UInt8} : isE b = true ↔ ((b.toNat : Int) = 123 ∨ (b.toNat : Int) = 125 ∨ (b.toNat : Int) = 92) := by
  have h1 := u8_eq (b := b) (c := 123) (by decide)
  have h2 := u8_eq (b := b) (c := 125) (by decide)
  have h3 := u8_eq (b := b) (c := 92) (by decide)
  have e1 : UInt8.ofNat 123 = 123 := rfl
  have e2 : UInt8.ofNat 125 = 125 := rfl
  have e3 : UInt8.ofNat 92 = 92 := rfl
  rw [e1] at h1; rw [e2] at h2; rw [e3] at h3
  have c1 : ((123 : Nat) : Int) = 123 := rfl
  have c2 : ((125 : Nat) : Int) = 125 := rfl
  have c3 : ((92 : Nat) : Int) = 92 := rfl
  rw [c1] at h1; rw [c2] at h2; rw [c3] at h3
  rw [h1, h2, h3]
  simp [isE, or_assoc]
theorem escape_ok {l : List UInt8} (hl : (esc l).length < 140737488355328) (H : GHeap) : gev G 60 [.string (strB l)] H = some (.string (strB (esc l)), H) := by
  refine gev_GWP (f := 60) rfl rfl rfl (fun Post hPost => ?_) H
  have hw := root_wf
  have hll := len_le_esc l
  simp only [frameOf, Nat.reduceAdd]
  repeat' (first | refine zA ?_ | refine zB ?_ | refine zC ?_ | refine zD ?_ | refine zE ?_ | refine zF ?_ | refine zG ?_ | refine zH ?_ | refine zI ?_ | refine zJ ?_ | refine zK rfl ?_ | refine zL ?_ | refine zM ?_ | refine zN ?_ | refine zO ?_ | refine zP rfl ?_ | refine zQ ?_ | ((first | refine zR ?_ | refine zS ?_ | refine zT ?_ | skip); intro K k; simp (disch := (first | (simp only [yD2, beq_self_eq_true, Nat.reduceLT, Nat.reduceAdd]; done) | ((fail_if_success (apply Bool.eq_iff_iff.2)); first | omega | (simp only [yD2, beq_self_eq_true, Nat.reduceLT, Nat.reduceAdd] <;> omega)) | fail)) only [↓yS, yT, ↓reduceIte, Nat.reduceEqDiff, Nat.reduceAdd, Nat.reduceMul, reduceCtorEq, Int.reduceToNat, g60, strB_size]; refine yC (k _ _ ?_); clear k K) | ((first | refine zU ?_ | refine zV ?_ | refine zW ?_); intro A B C D a b c d; simp only [↓yG, Nat.reduceEqDiff, ↓reduceIte, g60, strB_size]; (first | refine zX (a ?_) | refine zY (b ?_) | refine zZ (fun hc => c ?_) (fun hc => d ?_)) <;> clear a b c d A B C D <;> try simp only [yL] at hc) | (refine yA ?_; intro A a; simp only [↓yG, Nat.reduceEqDiff, ↓reduceIte, g60, strB_size]; refine yB (a ?_); clear a A) | (refine yD ?_; simp only [gresults, ↓yG, Nat.reduceEqDiff, ↓reduceIte, Option.bind_some, gld_1, gld_n, g60, strB_size]; refine ⟨_, rfl, ?_⟩; simp only [gone]))
  refine GW_loop (fun k fr H1 => ∃ (j : Nat) (v : Value), k = l.length - j ∧ j ≤ l.length ∧ fr.get 0 = some (.string (strB l)) ∧ fr.get 3 = some (v) ∧ fr.get 6 = some (.int .i64 l.length) ∧ fr.get 7 = some (.int .i64 j) ∧ OS 1 257 ⟨.nil, 0, 0⟩ H1 v (esc (l.take j)).length (u8s (esc (l.take j)))) ?_ l.length ?_
  case refine_2 =>
    refine ⟨0, .slice none 0 0, by omega, by omega, ?_⟩
    simp only [↓yG, Nat.reduceEqDiff, ↓reduceIte, Int.natCast_add, Int.cast_ofNat_Int, Int.natCast_zero, true_and, and_true, Option.some.injEq, Value.int.injEq]
    exact OS.nil (Same.refl hw)
  rintro k fr H1 ⟨j, v, rfl, hj, f0, f3, f6, f7, hO⟩ J hJ
  have hle := esc_le l (j + 1)
  by_cases hj1 : j < l.length
  · have hat := fun k => strB_at (l := l) (k := k) hj1
    have hst := esc_take hj1
    have hE := isE_eq (b := l[j]!)
    have hb := l[j]!.toNat_lt
    rw [hst, List.length_append] at hle
    generalize l[j]! = b at *
    have hc1 : (u8s (List.replicate 1 0)).set 0 (.int .u8 ((b.toNat : Nat) : Int)) = u8s [b] := rfl
    have hc2 : (u8s (List.replicate 1 0)).set 0 (.int .u8 (92 : Int)) = u8s [92] := rfl
    cases he : isE b with
    | true =>
      have h3 := hE.1 he
      have e1 : esc1 b = [92, b] := if_pos he
      rw [e1] at hle hst
      simp only [List.length_cons, List.length_nil] at hle
      have split3 : ((b.toNat : Int) = 123) ∨ (¬ (b.toNat : Int) = 123 ∧ (b.toNat : Int) = 125) ∨ (¬ (b.toNat : Int) = 123 ∧ ¬ (b.toNat : Int) = 125 ∧ (b.toNat : Int) = 92) := by omega
      rcases split3 with h4 | h4 | h4
      all_goals
        repeat' (first | (exfalso; omega) | refine zA ?_ | refine zB ?_ | refine zC ?_ | refine zD ?_ | refine zE ?_ | refine zF ?_ | refine zG ?_ | refine zH ?_ | refine zI ?_ | refine zJ ?_ | refine zK rfl ?_ | refine zL ?_ | refine zM ?_ | refine zN ?_ | refine zO ?_ | refine zP rfl ?_ | refine zQ ?_ | ((first | refine zR ?_ | refine zS ?_ | refine zT ?_ | skip); intro K k; simp (disch := (first | (simp only [yD2, beq_self_eq_true, Nat.reduceLT, Nat.reduceAdd]; done) | ((fail_if_success (apply Bool.eq_iff_iff.2)); first | omega | (simp only [yD2, beq_self_eq_true, Nat.reduceLT, Nat.reduceAdd] <;> omega)) | fail)) only [↓yS, yT, ↓reduceIte, Nat.reduceEqDiff, Nat.reduceAdd, Nat.reduceMul, reduceCtorEq, Int.reduceToNat, g60, f0, f3, f6, f7, hat]; refine yC (k _ _ ?_); clear k K) | ((first | refine zU ?_ | refine zV ?_ | refine zW ?_); intro A B C D a b c d; simp only [↓yG, Nat.reduceEqDiff, ↓reduceIte, g60, f0, f3, f6, f7, hat]; (first | refine zX (a ?_) | refine zY (b ?_) | refine zZ (fun hc => c ?_) (fun hc => d ?_)) <;> clear a b c d A B C D <;> try simp only [yL] at hc) | (refine yA ?_; intro A a; simp only [↓yG, Nat.reduceEqDiff, ↓reduceIte, g60, f0, f3, f6, f7, hat]; refine yB (a ?_); clear a A) | (refine yD ?_; simp only [gresults, ↓yG, Nat.reduceEqDiff, ↓reduceIte, Option.bind_some, gld_1, gld_n, g60, f0, f3, f6, f7, hat]; refine ⟨_, rfl, ?_⟩; simp only [gone]))
        rw [hc2]
        refine Gw_s fun K' hK' => ?_
        simp (disch := (first | (simp only [yD2, beq_self_eq_true, Nat.reduceLT, Nat.reduceAdd]; done) | ((fail_if_success (apply Bool.eq_iff_iff.2)); first | omega | (simp only [yD2, beq_self_eq_true, Nat.reduceLT, Nat.reduceAdd] <;> omega)) | fail)) only [↓yS, yT, ↓reduceIte, Nat.reduceEqDiff, Nat.reduceAdd, Nat.reduceMul, reduceCtorEq, Int.reduceToNat, f0, f3, f6, f7]
        obtain ⟨v1, H2, e, hO1, hB1⟩ := hO.appB [92] (by simp only [List.length_cons, List.length_nil]; omega)
        refine G1_eq e (hK' _ _ ?_)
        clear hK' K' e
        repeat' (first | (exfalso; omega) | refine zA ?_ | refine zB ?_ | refine zC ?_ | refine zD ?_ | refine zE ?_ | refine zF ?_ | refine zG ?_ | refine zH ?_ | refine zI ?_ | refine zJ ?_ | refine zK rfl ?_ | refine zL ?_ | refine zM ?_ | refine zN ?_ | refine zO ?_ | refine zP rfl ?_ | refine zQ ?_ | ((first | refine zR ?_ | refine zS ?_ | refine zT ?_ | skip); intro K k; simp (disch := (first | (simp only [yD2, beq_self_eq_true, Nat.reduceLT, Nat.reduceAdd]; done) | ((fail_if_success (apply Bool.eq_iff_iff.2)); first | omega | (simp only [yD2, beq_self_eq_true, Nat.reduceLT, Nat.reduceAdd] <;> omega)) | fail)) only [↓yS, yT, ↓reduceIte, Nat.reduceEqDiff, Nat.reduceAdd, Nat.reduceMul, reduceCtorEq, Int.reduceToNat, g60, f0, f3, f6, f7, hat]; refine yC (k _ _ ?_); clear k K) | ((first | refine zU ?_ | refine zV ?_ | refine zW ?_); intro A B C D a b c d; simp only [↓yG, Nat.reduceEqDiff, ↓reduceIte, g60, f0, f3, f6, f7, hat]; (first | refine zX (a ?_) | refine zY (b ?_) | refine zZ (fun hc => c ?_) (fun hc => d ?_)) <;> clear a b c d A B C D <;> try simp only [yL] at hc) | (refine yA ?_; intro A a; simp only [↓yG, Nat.reduceEqDiff, ↓reduceIte, g60, f0, f3, f6, f7, hat]; refine yB (a ?_); clear a A) | (refine yD ?_; simp only [gresults, ↓yG, Nat.reduceEqDiff, ↓reduceIte, Option.bind_some, gld_1, gld_n, g60, f0, f3, f6, f7, hat]; refine ⟨_, rfl, ?_⟩; simp only [gone]))
        rw [hc1]
        refine Gw_s fun K' hK' => ?_
        simp (disch := (first | (simp only [yD2, beq_self_eq_true, Nat.reduceLT, Nat.reduceAdd]; done) | ((fail_if_success (apply Bool.eq_iff_iff.2)); first | omega | (simp only [yD2, beq_self_eq_true, Nat.reduceLT, Nat.reduceAdd] <;> omega)) | fail)) only [↓yS, yT, ↓reduceIte, Nat.reduceEqDiff, Nat.reduceAdd, Nat.reduceMul, reduceCtorEq, Int.reduceToNat, f0, f3, f6, f7]
        obtain ⟨v2, H3, e, hO2, hB2⟩ := hO1.appB [b] (by simp only [List.length_cons, List.length_nil]; omega)
        refine G1_eq e (hK' _ _ ?_)
        clear hK' K' e
        repeat' (first | (exfalso; omega) | refine zA ?_ | refine zB ?_ | refine zC ?_ | refine zD ?_ | refine zE ?_ | refine zF ?_ | refine zG ?_ | refine zH ?_ | refine zI ?_ | refine zJ ?_ | refine zK rfl ?_ | refine zL ?_ | refine zM ?_ | refine zN ?_ | refine zO ?_ | refine zP rfl ?_ | refine zQ ?_ | ((first | refine zR ?_ | refine zS ?_ | refine zT ?_ | skip); intro K k; simp (disch := (first | (simp only [yD2, beq_self_eq_true, Nat.reduceLT, Nat.reduceAdd]; done) | ((fail_if_success (apply Bool.eq_iff_iff.2)); first | omega | (simp only [yD2, beq_self_eq_true, Nat.reduceLT, Nat.reduceAdd] <;> omega)) | fail)) only [↓yS, yT, ↓reduceIte, Nat.reduceEqDiff, Nat.reduceAdd, Nat.reduceMul, reduceCtorEq, Int.reduceToNat, g60, f0, f3, f6, f7]; refine yC (k _ _ ?_); clear k K) | ((first | refine zU ?_ | refine zV ?_ | refine zW ?_); intro A B C D a b c d; simp only [↓yG, Nat.reduceEqDiff, ↓reduceIte, g60, f0, f3, f6, f7]; (first | refine zX (a ?_) | refine zY (b ?_) | refine zZ (fun hc => c ?_) (fun hc => d ?_)) <;> clear a b c d A B C D <;> try simp only [yL] at hc) | (refine yA ?_; intro A a; simp only [↓yG, Nat.reduceEqDiff, ↓reduceIte, g60, f0, f3, f6, f7]; refine yB (a ?_); clear a A) | (refine yD ?_; simp only [gresults, ↓yG, Nat.reduceEqDiff, ↓reduceIte, Option.bind_some, gld_1, gld_n, g60, f0, f3, f6, f7]; refine ⟨_, rfl, ?_⟩; simp only [gone]))
        refine hJ _ _ ⟨l.length - (j + 1), by omega, j + 1, v2, rfl, by omega, ?_⟩
        rw [hst]
        simp only [↓yG, Nat.reduceEqDiff, ↓reduceIte, Int.natCast_add, Int.cast_ofNat_Int, Int.natCast_zero, true_and, and_true, Option.some.injEq, Value.int.injEq, f0, f6]
        have hfin : u8s (esc (l.take j) ++ [92, b]) = u8s (esc (l.take j)) ++ u8s [92] ++ u8s [b] := by rw [← u8s_append, ← u8s_append]; simp
        rw [hfin, List.length_append]
        exact hO2
    | false =>
      have h3 : ¬ ((b.toNat : Int) = 123 ∨ (b.toNat : Int) = 125 ∨ (b.toNat : Int) = 92) := fun h => by rw [hE.2 h] at he; cases he
      have e1 : esc1 b = [b] := if_neg (by rw [he]; decide)
      rw [e1] at hle hst
      simp only [List.length_cons, List.length_nil] at hle
      repeat' (first | (exfalso; omega) | refine zA ?_ | refine zB ?_ | refine zC ?_ | refine zD ?_ | refine zE ?_ | refine zF ?_ | refine zG ?_ | refine zH ?_ | refine zI ?_ | refine zJ ?_ | refine zK rfl ?_ | refine zL ?_ | refine zM ?_ | refine zN ?_ | refine zO ?_ | refine zP rfl ?_ | refine zQ ?_ | ((first | refine zR ?_ | refine zS ?_ | refine zT ?_ | skip); intro K k; simp (disch := (first | (simp only [yD2, beq_self_eq_true, Nat.reduceLT, Nat.reduceAdd]; done) | ((fail_if_success (apply Bool.eq_iff_iff.2)); first | omega | (simp only [yD2, beq_self_eq_true, Nat.reduceLT, Nat.reduceAdd] <;> omega)) | fail)) only [↓yS, yT, ↓reduceIte, Nat.reduceEqDiff, Nat.reduceAdd, Nat.reduceMul, reduceCtorEq, Int.reduceToNat, g60, f0, f3, f6, f7, hat]; refine yC (k _ _ ?_); clear k K) | ((first | refine zU ?_ | refine zV ?_ | refine zW ?_); intro A B C D a b c d; simp only [↓yG, Nat.reduceEqDiff, ↓reduceIte, g60, f0, f3, f6, f7, hat]; (first | refine zX (a ?_) | refine zY (b ?_) | refine zZ (fun hc => c ?_) (fun hc => d ?_)) <;> clear a b c d A B C D <;> try simp only [yL] at hc) | (refine yA ?_; intro A a; simp only [↓yG, Nat.reduceEqDiff, ↓reduceIte, g60, f0, f3, f6, f7, hat]; refine yB (a ?_); clear a A) | (refine yD ?_; simp only [gresults, ↓yG, Nat.reduceEqDiff, ↓reduceIte, Option.bind_some, gld_1, gld_n, g60, f0, f3, f6, f7, hat]; refine ⟨_, rfl, ?_⟩; simp only [gone]))
      rw [hc1]
      refine Gw_s fun K' hK' => ?_
      simp (disch := (first | (simp only [yD2, beq_self_eq_true, Nat.reduceLT, Nat.reduceAdd]; done) | ((fail_if_success (apply Bool.eq_iff_iff.2)); first | omega | (simp only [yD2, beq_self_eq_true, Nat.reduceLT, Nat.reduceAdd] <;> omega)) | fail)) only [↓yS, yT, ↓reduceIte, Nat.reduceEqDiff, Nat.reduceAdd, Nat.reduceMul, reduceCtorEq, Int.reduceToNat, f0, f3, f6, f7]
      obtain ⟨v2, H3, e, hO2, hB2⟩ := hO.appB [b] (by simp only [List.length_cons, List.length_nil]; omega)
      refine G1_eq e (hK' _ _ ?_)
      clear hK' K' e
      repeat' (first | (exfalso; omega) | refine zA ?_ | refine zB ?_ | refine zC ?_ | refine zD ?_ | refine zE ?_ | refine zF ?_ | refine zG ?_ | refine zH ?_ | refine zI ?_ | refine zJ ?_ | refine zK rfl ?_ | refine zL ?_ | refine zM ?_ | refine zN ?_ | refine zO ?_ | refine zP rfl ?_ | refine zQ ?_ | ((first | refine zR ?_ | refine zS ?_ | refine zT ?_ | skip); intro K k; simp (disch := (first | (simp only [yD2, beq_self_eq_true, Nat.reduceLT, Nat.reduceAdd]; done) | ((fail_if_success (apply Bool.eq_iff_iff.2)); first | omega | (simp only [yD2, beq_self_eq_true, Nat.reduceLT, Nat.reduceAdd] <;> omega)) | fail)) only [↓yS, yT, ↓reduceIte, Nat.reduceEqDiff, Nat.reduceAdd, Nat.reduceMul, reduceCtorEq, Int.reduceToNat, g60, f0, f3, f6, f7]; refine yC (k _ _ ?_); clear k K) | ((first | refine zU ?_ | refine zV ?_ | refine zW ?_); intro A B C D a b c d; simp only [↓yG, Nat.reduceEqDiff, ↓reduceIte, g60, f0, f3, f6, f7]; (first | refine zX (a ?_) | refine zY (b ?_) | refine zZ (fun hc => c ?_) (fun hc => d ?_)) <;> clear a b c d A B C D <;> try simp only [yL] at hc) | (refine yA ?_; intro A a; simp only [↓yG, Nat.reduceEqDiff, ↓reduceIte, g60, f0, f3, f6, f7]; refine yB (a ?_); clear a A) | (refine yD ?_; simp only [gresults, ↓yG, Nat.reduceEqDiff, ↓reduceIte, Option.bind_some, gld_1, gld_n, g60, f0, f3, f6, f7]; refine ⟨_, rfl, ?_⟩; simp only [gone]))
      refine hJ _ _ ⟨l.length - (j + 1), by omega, j + 1, v2, rfl, by omega, ?_⟩
      rw [hst]
      simp only [↓yG, Nat.reduceEqDiff, ↓reduceIte, Int.natCast_add, Int.cast_ofNat_Int, Int.natCast_zero, true_and, and_true, Option.some.injEq, Value.int.injEq, f0, f6]
      rw [u8s_append, List.length_append]
      exact hO2
  · obtain rfl : j = l.length := by omega
    rw [List.take_length] at hO
    have hR : RB H1 v (esc l) := OwnG.arg hO.same.wf hO.own (.inr rfl)
    have hst := hR.str
    repeat' (first | (exfalso; omega) | refine zA ?_ | refine zB ?_ | refine zC ?_ | refine zD ?_ | refine zE ?_ | refine zF ?_ | refine zG ?_ | refine zH ?_ | refine zI ?_ | refine zJ ?_ | refine zK rfl ?_ | refine zL ?_ | refine zM ?_ | refine zN ?_ | refine zO ?_ | refine zP rfl ?_ | refine zQ ?_ | ((first | refine zR ?_ | refine zS ?_ | refine zT ?_ | skip); intro K k; simp (disch := (first | (simp only [yD2, beq_self_eq_true, Nat.reduceLT, Nat.reduceAdd]; done) | ((fail_if_success (apply Bool.eq_iff_iff.2)); first | omega | (simp only [yD2, beq_self_eq_true, Nat.reduceLT, Nat.reduceAdd] <;> omega)) | fail)) only [↓yS, yT, ↓reduceIte, Nat.reduceEqDiff, Nat.reduceAdd, Nat.reduceMul, reduceCtorEq, Int.reduceToNat, g60, f0, f3, f6, f7, hst]; refine yC (k _ _ ?_); clear k K) | ((first | refine zU ?_ | refine zV ?_ | refine zW ?_); intro A B C D a b c d; simp only [↓yG, Nat.reduceEqDiff, ↓reduceIte, g60, f0, f3, f6, f7, hst]; (first | refine zX (a ?_) | refine zY (b ?_) | refine zZ (fun hc => c ?_) (fun hc => d ?_)) <;> clear a b c d A B C D <;> try simp only [yL] at hc) | (refine yA ?_; intro A a; simp only [↓yG, Nat.reduceEqDiff, ↓reduceIte, g60, f0, f3, f6, f7, hst]; refine yB (a ?_); clear a A) | (refine yD ?_; simp only [gresults, ↓yG, Nat.reduceEqDiff, ↓reduceIte, Option.bind_some, gld_1, gld_n, g60, f0, f3, f6, f7, hst]; refine ⟨_, rfl, ?_⟩; simp only [gone]))
    exact hPost _
end Go.Gh
