/-
  style's reference, walked: until, ParseLetters.
-/
import Derived.Test.YtgbibkkcnkaelaaDoorSyT7
namespace Go.Gh
set_option linter.unusedSimpArgs false
set_option linter.unusedVariables false
open Go.RowKit
set_option maxRecDepth 4000

theorem td_one {l : List UInt8} {j : Nat} (h : j < l.length) : (l.take (j + 1)).drop j = [l[j]!] := by
  rw [List.take_succ_eq_append_getElem h, List.drop_append_of_le_length (by simp; omega), List.drop_take]
  simp [getElem!_pos l j h]
theorem u8_inj {a b : UInt8} : ((a.toNat : Int) = (b.toNat : Int)) ↔ a = b := by
  rw [← UInt8.toNat_inj]; omega
theorem until_ok {e : UInt8 → Bool} {es : List UInt8} (he : ∀ b, e b = true ↔ b ∈ es) (h92 : e 92 = false) (hes : es.length ≤ 2) {E : ByteArray} (hE : E = strB es) {l : List UInt8} (hl : l.length < 140737488355328) {i : Nat} (hi : i ≤ l.length) (H : GHeap) :
    gev G 58 [.string (strB l), .int .i64 i, .string E] H = some (.tuple #[.string (strB (untP e (l.drop i)).1), .int .i64 (l.length - (untP e (l.drop i)).2.length : Nat)], H) := by
  subst hE
  refine gev_GWP (f := 58) rfl rfl (by simp [litVal, litOk, litFlat]) (fun Post hPost => ?_) H
  have hw := root_wf
  simp only [frameOf, Nat.reduceAdd]
  repeat' (first | refine zA ?_ | refine zB ?_ | refine zC ?_ | refine zD ?_ | refine zE ?_ | refine zF ?_ | refine zG ?_ | refine zH ?_ | refine zI ?_ | refine zJ ?_ | refine zK rfl ?_ | refine zL ?_ | refine zM ?_ | refine zN ?_ | refine zO ?_ | refine zP rfl ?_ | refine zQ ?_ | ((first | refine zR ?_ | refine zS ?_ | refine zT ?_ | skip); intro K k; simp (disch := (first | (simp only [yD2, beq_self_eq_true, Nat.reduceLT, Nat.reduceAdd]; done) | ((fail_if_success (apply Bool.eq_iff_iff.2)); first | omega | (simp only [yD2, beq_self_eq_true, Nat.reduceLT, Nat.reduceAdd] <;> omega)) | fail)) only [↓yS, yT, ↓reduceIte, Nat.reduceEqDiff, Nat.reduceAdd, Nat.reduceMul, reduceCtorEq, Int.reduceToNat, g58]; refine yC (k _ _ ?_); clear k K) | ((first | refine zU ?_ | refine zV ?_ | refine zW ?_); intro A B C D a b c d; simp only [↓yG, Nat.reduceEqDiff, ↓reduceIte, g58]; (first | refine zX (a ?_) | refine zY (b ?_) | refine zZ (fun hc => c ?_) (fun hc => d ?_)) <;> clear a b c d A B C D <;> try simp only [yL] at hc) | (refine yA ?_; intro A a; simp only [↓yG, Nat.reduceEqDiff, ↓reduceIte, g58]; refine yB (a ?_); clear a A) | (refine yD ?_; simp only [gresults, ↓yG, Nat.reduceEqDiff, ↓reduceIte, Option.bind_some, gld_1, gld_n, g58]; refine ⟨_, rfl, ?_⟩; simp only [gone]))
  refine GW_loop (fun k fr H1 => ∃ (j : Nat) (o : List UInt8), k = l.length - j ∧ j ≤ l.length ∧ fr.get 0 = some (.string (strB l)) ∧ fr.get 1 = some (.int .i64 j) ∧ fr.get 2 = some (.string (strB es)) ∧ fr.get 8 = some (.string (strB o)) ∧ (untP e (l.drop i)).1 = o ++ (untP e (l.drop j)).1 ∧ (untP e (l.drop i)).2 = (untP e (l.drop j)).2 ∧ o.length ≤ j) ?_ (l.length - i) ?_
  case refine_2 =>
    refine ⟨i, [], by omega, by omega, ?_⟩
    simp only [↓yG, Nat.reduceEqDiff, ↓reduceIte, Int.natCast_add, Int.cast_ofNat_Int, Int.natCast_zero, true_and, and_true, Option.some.injEq, Value.int.injEq]
    exact ⟨rfl, by simp⟩
  rintro k fr H1 ⟨j, o, rfl, hj, f0, f1, f2, f8, hu1, hu2, hoj⟩ J hJ
  have hend : ∀ r, (untP e (l.drop j)) = ([], r) → r = l.drop j → (o = (untP e (l.drop i)).1 ∧ (j : Int) = ((l.length - (untP e (l.drop i)).2.length : Nat) : Int)) := fun r e1 e2 => by
    rw [e1] at hu1 hu2
    refine ⟨by rw [hu1]; simp, ?_⟩
    rw [hu2, e2]
    simp only [List.length_drop]
    omega
  by_cases hj1 : j < l.length
  rotate_left
  · obtain rfl : j = l.length := by omega
    obtain ⟨k1, k2⟩ := hend [] (by simp [untP]) (by simp)
    repeat' (first | (exfalso; omega) | refine zA ?_ | refine zB ?_ | refine zC ?_ | refine zD ?_ | refine zE ?_ | refine zF ?_ | refine zG ?_ | refine zH ?_ | refine zI ?_ | refine zJ ?_ | refine zK rfl ?_ | refine zL ?_ | refine zM ?_ | refine zN ?_ | refine zO ?_ | refine zP rfl ?_ | refine zQ ?_ | ((first | refine zR ?_ | refine zS ?_ | refine zT ?_ | skip); intro K k; simp (disch := (first | (simp only [yD2, beq_self_eq_true, Nat.reduceLT, Nat.reduceAdd]; done) | ((fail_if_success (apply Bool.eq_iff_iff.2)); first | omega | (simp only [yD2, beq_self_eq_true, Nat.reduceLT, Nat.reduceAdd] <;> omega)) | fail)) only [↓yS, yT, ↓reduceIte, Nat.reduceEqDiff, Nat.reduceAdd, Nat.reduceMul, reduceCtorEq, Int.reduceToNat, g58, strB_size, f0, f1, f2, f8]; refine yC (k _ _ ?_); clear k K) | ((first | refine zU ?_ | refine zV ?_ | refine zW ?_); intro A B C D a b c d; simp only [↓yG, Nat.reduceEqDiff, ↓reduceIte, g58, strB_size, f0, f1, f2, f8]; (first | refine zX (a ?_) | refine zY (b ?_) | refine zZ (fun hc => c ?_) (fun hc => d ?_)) <;> clear a b c d A B C D <;> try simp only [yL] at hc) | (refine yA ?_; intro A a; simp only [↓yG, Nat.reduceEqDiff, ↓reduceIte, g58, strB_size, f0, f1, f2, f8]; refine yB (a ?_); clear a A) | (refine yD ?_; simp only [gresults, ↓yG, Nat.reduceEqDiff, ↓reduceIte, Option.bind_some, gld_1, gld_n, g58, strB_size, f0, f1, f2, f8]; refine ⟨_, rfl, ?_⟩; simp only [gone]))
    rw [k1, k2]
    exact hPost _
  have hd := untP_drop (e := e) hj1
  have hat := fun k => strB_at (l := l) (k := k) hj1
  have hS := bs_eq (b := l[j]!)
  have ha1 : ∀ H k k', gslice .str H (.string (strB l)) (some (.int k j)) (some (.int k' ((j : Int) + 1))) none = some (.string (strB [l[j]!])) := fun H k k' => by
    rw [← td_one hj1]
    exact sl_mid (by omega) (by omega) (by omega)
  by_cases hb : (l[j]!.toNat : Int) = 92 ∧ j + 1 < l.length
  · obtain ⟨hb1, hb2⟩ := hb
    have hd2 := untP_drop (e := e) hb2
    have ha2 : ∀ H k k', gslice .str H (.string (strB l)) (some (.int k ((j : Int) + 1))) (some (.int k' ((j : Int) + 1 + 1))) none = some (.string (strB [l[j + 1]!])) := fun H k k' => by
      rw [← td_one hb2]
      exact sl_mid (by omega) (by omega) (by omega)
    have h92' := hS.2 hb1
    rw [hd2, h92'] at hd
    have h5 := untP_bs (e := e) l[j + 1]! (l.drop (j + 2))
    rw [show (92 : UInt8) :: l[j + 1]! :: l.drop (j + 2) = l.drop j from hd.symm] at h5
    rw [h5] at hu1 hu2
    generalize l[j]! = b at *
    generalize l[j + 1]! = c at *
    have hadd := fun e => gb_addB (e := e) (a := o) (b := [c]) (by simp only [List.length_cons, List.length_nil]; omega)
    repeat' (first | (exfalso; omega) | refine zA ?_ | refine zB ?_ | refine zC ?_ | refine zD ?_ | refine zE ?_ | refine zF ?_ | refine zG ?_ | refine zH ?_ | refine zI ?_ | refine zJ ?_ | refine zK rfl ?_ | refine zL ?_ | refine zM ?_ | refine zN ?_ | refine zO ?_ | refine zP rfl ?_ | refine zQ ?_ | ((first | refine zR ?_ | refine zS ?_ | refine zT ?_ | skip); intro K k; simp (disch := (first | (simp only [yD2, beq_self_eq_true, Nat.reduceLT, Nat.reduceAdd]; done) | ((fail_if_success (apply Bool.eq_iff_iff.2)); first | omega | (simp only [yD2, beq_self_eq_true, Nat.reduceLT, Nat.reduceAdd] <;> omega)) | fail)) only [↓yS, yT, ↓reduceIte, Nat.reduceEqDiff, Nat.reduceAdd, Nat.reduceMul, reduceCtorEq, Int.reduceToNat, g58, strB_size, f0, f1, f2, f8, hat, ha2, hadd]; refine yC (k _ _ ?_); clear k K) | ((first | refine zU ?_ | refine zV ?_ | refine zW ?_); intro A B C D a b c d; simp only [↓yG, Nat.reduceEqDiff, ↓reduceIte, g58, strB_size, f0, f1, f2, f8, hat, ha2, hadd]; (first | refine zX (a ?_) | refine zY (b ?_) | refine zZ (fun hc => c ?_) (fun hc => d ?_)) <;> clear a b c d A B C D <;> try simp only [yL] at hc) | (refine yA ?_; intro A a; simp only [↓yG, Nat.reduceEqDiff, ↓reduceIte, g58, strB_size, f0, f1, f2, f8, hat, ha2, hadd]; refine yB (a ?_); clear a A) | (refine yD ?_; simp only [gresults, ↓yG, Nat.reduceEqDiff, ↓reduceIte, Option.bind_some, gld_1, gld_n, g58, strB_size, f0, f1, f2, f8, hat, ha2, hadd]; refine ⟨_, rfl, ?_⟩; simp only [gone]))
    refine hJ _ _ ⟨l.length - (j + 2), by omega, j + 2, o ++ [c], rfl, by omega, ?_⟩
    simp only [↓yG, Nat.reduceEqDiff, ↓reduceIte, Int.natCast_add, Int.cast_ofNat_Int, Int.natCast_zero, true_and, and_true, Option.some.injEq, Value.int.injEq, f0, f2]
    exact ⟨by omega, by rw [hu1]; simp, hu2, by simp; omega⟩
  have h5 : e l[j]! = false → untP e (l.drop j) = (l[j]! :: (untP e (l.drop (j + 1))).1, (untP e (l.drop (j + 1))).2) := fun h3 => by
    by_cases h92' : l[j]! = 92
    · have : l.drop (j + 1) = [] := List.drop_of_length_le (by have := hS.1 h92'; omega)
      rw [hd, this, h92', untP_one h92]; rfl
    · rw [hd, untP_cons h3 h92']
  have h6 : e l[j]! = true → untP e (l.drop j) = ([], l.drop j) := fun h3 => by
    rw [hd]
    exact untP_stop h3 (fun h => by rw [h, h92] at h3; cases h3) _
  have heb := he l[j]!
  generalize l[j]! = b at *
  have hbb : (¬ (b.toNat : Int) = 92) ∨ ((b.toNat : Int) = 92 ∧ ¬ j + 1 < l.length) := by omega
  have hadd := fun e => gb_addB (e := e) (a := o) (b := [b]) (by simp only [List.length_cons, List.length_nil]; omega)
  rcases hbb with hbb | hbb
  all_goals
    repeat' (first | (exfalso; omega) | refine zA ?_ | refine zB ?_ | refine zC ?_ | refine zD ?_ | refine zE ?_ | refine zF ?_ | refine zG ?_ | refine zH ?_ | refine zI ?_ | refine zJ ?_ | refine zK rfl ?_ | refine zL ?_ | refine zM ?_ | refine zN ?_ | refine zO ?_ | refine zP rfl ?_ | refine zQ ?_ | ((first | refine zR ?_ | refine zS ?_ | refine zT ?_ | skip); intro K k; simp (disch := (first | (simp only [yD2, beq_self_eq_true, Nat.reduceLT, Nat.reduceAdd]; done) | ((fail_if_success (apply Bool.eq_iff_iff.2)); first | omega | (simp only [yD2, beq_self_eq_true, Nat.reduceLT, Nat.reduceAdd] <;> omega)) | fail)) only [↓yS, yT, ↓reduceIte, Nat.reduceEqDiff, Nat.reduceAdd, Nat.reduceMul, reduceCtorEq, Int.reduceToNat, g58, strB_size, f0, f1, f2, f8, hat]; refine yC (k _ _ ?_); clear k K) | ((first | refine zU ?_ | refine zV ?_ | refine zW ?_); intro A B C D a b c d; simp only [↓yG, Nat.reduceEqDiff, ↓reduceIte, g58, strB_size, f0, f1, f2, f8, hat]; (first | refine zX (a ?_) | refine zY (b ?_) | refine zZ (fun hc => c ?_) (fun hc => d ?_)) <;> clear a b c d A B C D <;> try simp only [yL] at hc) | (refine yA ?_; intro A a; simp only [↓yG, Nat.reduceEqDiff, ↓reduceIte, g58, strB_size, f0, f1, f2, f8, hat]; refine yB (a ?_); clear a A) | (refine yD ?_; simp only [gresults, ↓yG, Nat.reduceEqDiff, ↓reduceIte, Option.bind_some, gld_1, gld_n, g58, strB_size, f0, f1, f2, f8, hat]; refine ⟨_, rfl, ?_⟩; simp only [gone]))
    refine GW_loop (fun k fr H1 => ∃ (m : Nat), k = es.length - m ∧ m ≤ es.length ∧ fr.get 0 = some (.string (strB l)) ∧ fr.get 1 = some (.int .i64 j) ∧ fr.get 2 = some (.string (strB es)) ∧ fr.get 8 = some (.string (strB o)) ∧ fr.get 9 = some (.int .i64 m) ∧ ∀ x ∈ es.take m, x ≠ b) ?_ es.length ?_
    rotate_left
    · refine ⟨0, by omega, by omega, ?_⟩
      simp only [↓yG, Nat.reduceEqDiff, ↓reduceIte, Int.natCast_add, Int.cast_ofNat_Int, Int.natCast_zero, true_and, and_true, Option.some.injEq, Value.int.injEq, f0, f1, f2, f8]
      simp
    rintro k fr2 H2 ⟨m, rfl, hm, q0, q1, q2, q8, q9, hne⟩ J2 hJ2
    by_cases hm1 : m < es.length
    · have hat2 := fun k => strB_at (l := es) (k := k) hm1
      have hmem : es[m]! ∈ es := by rw [getElem!_pos es m hm1]; exact List.getElem_mem _
      have htk : ∀ x ∈ es.take (m + 1), x ∈ es.take m ∨ x = es[m]! := fun x hx => by
        rw [List.take_succ_eq_append_getElem hm1, ← getElem!_pos es m hm1] at hx
        simpa using hx
      have hin := u8_inj (a := b) (b := es[m]!)
      generalize es[m]! = c at *
      by_cases hbc : b = c
      · have hbc2 := hin.2 hbc
        obtain ⟨k1, k2⟩ := hend _ (h6 (heb.2 (by rw [hbc]; exact hmem))) rfl
        repeat' (first | (exfalso; omega) | refine zA ?_ | refine zB ?_ | refine zC ?_ | refine zD ?_ | refine zE ?_ | refine zF ?_ | refine zG ?_ | refine zH ?_ | refine zI ?_ | refine zJ ?_ | refine zK rfl ?_ | refine zL ?_ | refine zM ?_ | refine zN ?_ | refine zO ?_ | refine zP rfl ?_ | refine zQ ?_ | ((first | refine zR ?_ | refine zS ?_ | refine zT ?_ | skip); intro K k; simp (disch := (first | (simp only [yD2, beq_self_eq_true, Nat.reduceLT, Nat.reduceAdd]; done) | ((fail_if_success (apply Bool.eq_iff_iff.2)); first | omega | (simp only [yD2, beq_self_eq_true, Nat.reduceLT, Nat.reduceAdd] <;> omega)) | fail)) only [↓yS, yT, ↓reduceIte, Nat.reduceEqDiff, Nat.reduceAdd, Nat.reduceMul, reduceCtorEq, Int.reduceToNat, g58, strB_size, q0, q1, q2, q8, q9, hat, hat2]; refine yC (k _ _ ?_); clear k K) | ((first | refine zU ?_ | refine zV ?_ | refine zW ?_); intro A B C D a b c d; simp only [↓yG, Nat.reduceEqDiff, ↓reduceIte, g58, strB_size, q0, q1, q2, q8, q9, hat, hat2]; (first | refine zX (a ?_) | refine zY (b ?_) | refine zZ (fun hc => c ?_) (fun hc => d ?_)) <;> clear a b c d A B C D <;> try simp only [yL] at hc) | (refine yA ?_; intro A a; simp only [↓yG, Nat.reduceEqDiff, ↓reduceIte, g58, strB_size, q0, q1, q2, q8, q9, hat, hat2]; refine yB (a ?_); clear a A) | (refine yD ?_; simp only [gresults, ↓yG, Nat.reduceEqDiff, ↓reduceIte, Option.bind_some, gld_1, gld_n, g58, strB_size, q0, q1, q2, q8, q9, hat, hat2]; refine ⟨_, rfl, ?_⟩; simp only [gone]))
        rw [k1, k2]
        exact hPost _
      · have hbc2 : ¬ (b.toNat : Int) = (c.toNat : Int) := fun h => hbc (hin.1 h)
        repeat' (first | (exfalso; omega) | refine zA ?_ | refine zB ?_ | refine zC ?_ | refine zD ?_ | refine zE ?_ | refine zF ?_ | refine zG ?_ | refine zH ?_ | refine zI ?_ | refine zJ ?_ | refine zK rfl ?_ | refine zL ?_ | refine zM ?_ | refine zN ?_ | refine zO ?_ | refine zP rfl ?_ | refine zQ ?_ | ((first | refine zR ?_ | refine zS ?_ | refine zT ?_ | skip); intro K k; simp (disch := (first | (simp only [yD2, beq_self_eq_true, Nat.reduceLT, Nat.reduceAdd]; done) | ((fail_if_success (apply Bool.eq_iff_iff.2)); first | omega | (simp only [yD2, beq_self_eq_true, Nat.reduceLT, Nat.reduceAdd] <;> omega)) | fail)) only [↓yS, yT, ↓reduceIte, Nat.reduceEqDiff, Nat.reduceAdd, Nat.reduceMul, reduceCtorEq, Int.reduceToNat, g58, strB_size, q0, q1, q2, q8, q9, hat, hat2]; refine yC (k _ _ ?_); clear k K) | ((first | refine zU ?_ | refine zV ?_ | refine zW ?_); intro A B C D a b c d; simp only [↓yG, Nat.reduceEqDiff, ↓reduceIte, g58, strB_size, q0, q1, q2, q8, q9, hat, hat2]; (first | refine zX (a ?_) | refine zY (b ?_) | refine zZ (fun hc => c ?_) (fun hc => d ?_)) <;> clear a b c d A B C D <;> try simp only [yL] at hc) | (refine yA ?_; intro A a; simp only [↓yG, Nat.reduceEqDiff, ↓reduceIte, g58, strB_size, q0, q1, q2, q8, q9, hat, hat2]; refine yB (a ?_); clear a A) | (refine yD ?_; simp only [gresults, ↓yG, Nat.reduceEqDiff, ↓reduceIte, Option.bind_some, gld_1, gld_n, g58, strB_size, q0, q1, q2, q8, q9, hat, hat2]; refine ⟨_, rfl, ?_⟩; simp only [gone]))
        refine hJ2 _ _ ⟨es.length - (m + 1), by omega, m + 1, rfl, by omega, ?_⟩
        simp only [↓yG, Nat.reduceEqDiff, ↓reduceIte, Int.natCast_add, Int.cast_ofNat_Int, Int.natCast_zero, true_and, and_true, Option.some.injEq, Value.int.injEq, q0, q1, q2, q8]
        intro x hx
        rcases htk x hx with h | h
        · exact hne x h
        · rw [h]; exact fun h => hbc h.symm
    · obtain rfl : m = es.length := by omega
      have h3 : e b = false := by
        cases h : e b with
        | false => rfl
        | true =>
          rw [List.take_length] at hne
          exact absurd rfl (hne b (heb.1 h))
      have h5' := h5 h3
      rw [h5'] at hu1 hu2
      repeat' (first | (exfalso; omega) | refine zA ?_ | refine zB ?_ | refine zC ?_ | refine zD ?_ | refine zE ?_ | refine zF ?_ | refine zG ?_ | refine zH ?_ | refine zI ?_ | refine zJ ?_ | refine zK rfl ?_ | refine zL ?_ | refine zM ?_ | refine zN ?_ | refine zO ?_ | refine zP rfl ?_ | refine zQ ?_ | ((first | refine zR ?_ | refine zS ?_ | refine zT ?_ | skip); intro K k; simp (disch := (first | (simp only [yD2, beq_self_eq_true, Nat.reduceLT, Nat.reduceAdd]; done) | ((fail_if_success (apply Bool.eq_iff_iff.2)); first | omega | (simp only [yD2, beq_self_eq_true, Nat.reduceLT, Nat.reduceAdd] <;> omega)) | fail)) only [↓yS, yT, ↓reduceIte, Nat.reduceEqDiff, Nat.reduceAdd, Nat.reduceMul, reduceCtorEq, Int.reduceToNat, g58, strB_size, q0, q1, q2, q8, q9, ha1, hadd]; refine yC (k _ _ ?_); clear k K) | ((first | refine zU ?_ | refine zV ?_ | refine zW ?_); intro A B C D a b c d; simp only [↓yG, Nat.reduceEqDiff, ↓reduceIte, g58, strB_size, q0, q1, q2, q8, q9, ha1, hadd]; (first | refine zX (a ?_) | refine zY (b ?_) | refine zZ (fun hc => c ?_) (fun hc => d ?_)) <;> clear a b c d A B C D <;> try simp only [yL] at hc) | (refine yA ?_; intro A a; simp only [↓yG, Nat.reduceEqDiff, ↓reduceIte, g58, strB_size, q0, q1, q2, q8, q9, ha1, hadd]; refine yB (a ?_); clear a A) | (refine yD ?_; simp only [gresults, ↓yG, Nat.reduceEqDiff, ↓reduceIte, Option.bind_some, gld_1, gld_n, g58, strB_size, q0, q1, q2, q8, q9, ha1, hadd]; refine ⟨_, rfl, ?_⟩; simp only [gone]))
      refine hJ _ _ ⟨l.length - (j + 1), by omega, j + 1, o ++ [b], rfl, by omega, ?_⟩
      simp only [↓yG, Nat.reduceEqDiff, ↓reduceIte, Int.natCast_add, Int.cast_ofNat_Int, Int.natCast_zero, true_and, and_true, Option.some.injEq, Value.int.injEq, q0, q2]
      exact ⟨by rw [hu1]; simp, hu2, by simp; omega⟩
theorem all28_len : all28.length = 28 := rfl
theorem all28_tab : ∀ c : Nat, c < 7 → ∀ m : Nat, m < 4 → ((⟨(c : Int), decide ((m : Int).tmod 2 = 1), decide (2 ≤ (m : Int))⟩ : Sy) = all28[4 * c + m]! ∧ 0 ≤ all28[4 * c + m]!.c ∧ okS all28[4 * c + m]! = true) := by decide
theorem parL_ok {s : List UInt8} (H : GHeap) :
    gev G 59 [.string (strB s)] H = some (.tuple #[syV (parL s), .bool ((all28.find? fun x => letB x == s).isSome)], H) := by
  refine gev_GWP (f := 59) rfl rfl (by simp [litVal, litOk, litFlat, syV]) (fun Post hPost => ?_) H
  have hw := root_wf
  have hlim := hw.1
  simp only [frameOf, Nat.reduceAdd]
  repeat' (first | refine zA ?_ | refine zB ?_ | refine zC ?_ | refine zD ?_ | refine zE ?_ | refine zF ?_ | refine zG ?_ | refine zH ?_ | refine zI ?_ | refine zJ ?_ | refine zK rfl ?_ | refine zL ?_ | refine zM ?_ | refine zN ?_ | refine zO ?_ | refine zP rfl ?_ | refine zQ ?_ | ((first | refine zR ?_ | refine zS ?_ | refine zT ?_ | skip); intro K k; simp (disch := (first | (simp only [yD2, beq_self_eq_true, Nat.reduceLT, Nat.reduceAdd]; done) | ((fail_if_success (apply Bool.eq_iff_iff.2)); first | omega | (simp only [yD2, beq_self_eq_true, Nat.reduceLT, Nat.reduceAdd] <;> omega)) | fail)) only [↓yS, yT, ↓reduceIte, Nat.reduceEqDiff, Nat.reduceAdd, Nat.reduceMul, reduceCtorEq, Int.reduceToNat, g59]; refine yC (k _ _ ?_); clear k K) | ((first | refine zU ?_ | refine zV ?_ | refine zW ?_); intro A B C D a b c d; simp only [↓yG, Nat.reduceEqDiff, ↓reduceIte, g59]; (first | refine zX (a ?_) | refine zY (b ?_) | refine zZ (fun hc => c ?_) (fun hc => d ?_)) <;> clear a b c d A B C D <;> try simp only [yL] at hc) | (refine yA ?_; intro A a; simp only [↓yG, Nat.reduceEqDiff, ↓reduceIte, g59]; refine yB (a ?_); clear a A) | (refine yD ?_; simp only [gresults, ↓yG, Nat.reduceEqDiff, ↓reduceIte, Option.bind_some, gld_1, gld_n, g59]; refine ⟨_, rfl, ?_⟩; simp only [gone]))
  have m0 : ((⟨.nil, 0, 0⟩ : GHeap).add (some (.cells [.int .u8 0, .bool false, .bool false] 0 true))).mine 0 = some (syC ⟨0, false, false⟩, 0) := by
    rw [mine_add_eq rfl hlim]; rfl
  have hw0 := ((Same.refl hw).add (.cells [.int .u8 0, .bool false, .bool false] 0 true)).wf
  generalize (⟨.nil, 0, 0⟩ : GHeap).add (some (.cells [.int .u8 0, .bool false, .bool false] 0 true)) = Hb at *
  refine GW_loop (fun k fr H1 => ∃ (c : Nat), k = 7 - c ∧ c ≤ 7 ∧ fr.get 0 = some (.string (strB s)) ∧ fr.get 2 = some (.pointer (some ⟨0, 0, none⟩)) ∧ fr.get 4 = some (.int .u8 c) ∧ H1.wf ∧ H1.mine 0 = some (syC ⟨0, false, false⟩, 0) ∧ (all28.find? fun x => letB x == s) = ((all28.drop (4 * c)).find? fun x => letB x == s)) ?_ 7 ?_
  case refine_2 =>
    refine ⟨0, by omega, by omega, ?_⟩
    simp only [↓yG, Nat.reduceEqDiff, ↓reduceIte, Int.natCast_add, Int.cast_ofNat_Int, Int.natCast_zero, true_and, and_true, Option.some.injEq, Value.int.injEq]
    exact ⟨hw0, m0, rfl⟩
  rintro k fr H1 ⟨c, rfl, hc7, f0, f2, f4, hw1, m1, hf⟩ J hJ
  have mst : ∀ {H' : GHeap} {x : Sy}, H'.mine 0 = some (syC ⟨0, false, false⟩, 0) → gst (some 3) H' (.pointer (some ⟨0, 0, none⟩)) (syV x) = some (H'.put 0 (.cells (syC x) 0 true)) := fun {H' x} h => gst_new (mine_obj h).1 (mine_obj h).2 rfl rfl (sy_cflat x)
  have mrd : ∀ {H' : GHeap} {x : Sy}, (H'.put 0 (.cells (syC x) 0 true)).rdn 0 0 3 = some (syV x) := fun {H' x} => rdn_put_all rfl
  by_cases hc : c < 7
  rotate_left
  · obtain rfl : c = 7 := by omega
    have hn : (all28.find? fun x => letB x == s) = none := by rw [hf]; rfl
    have e := mst (x := ⟨0, false, false⟩) m1
    have hz : syV ⟨0, false, false⟩ = .agg #[.int .u8 0, .bool false, .bool false] := rfl
    rw [parL, hn] at hPost
    have e2 := mrd (H' := H1) (x := ⟨0, false, false⟩)
    rw [hz] at e e2
    repeat' (first | (exfalso; omega) | refine zA ?_ | refine zB ?_ | refine zC ?_ | refine zD ?_ | refine zE ?_ | refine zF ?_ | refine zG ?_ | refine zH ?_ | refine zI ?_ | refine zJ ?_ | refine zK rfl ?_ | refine zL ?_ | refine zM ?_ | refine zN ?_ | refine zO ?_ | refine zP rfl ?_ | refine zQ ?_ | ((first | refine zR ?_ | refine zS ?_ | refine zT ?_ | skip); intro K k; simp (disch := (first | (simp only [yD2, beq_self_eq_true, Nat.reduceLT, Nat.reduceAdd]; done) | ((fail_if_success (apply Bool.eq_iff_iff.2)); first | omega | (simp only [yD2, beq_self_eq_true, Nat.reduceLT, Nat.reduceAdd] <;> omega)) | fail)) only [↓yS, yT, ↓reduceIte, Nat.reduceEqDiff, Nat.reduceAdd, Nat.reduceMul, reduceCtorEq, Int.reduceToNat, g59, f0, f2, f4, e, e2]; refine yC (k _ _ ?_); clear k K) | ((first | refine zU ?_ | refine zV ?_ | refine zW ?_); intro A B C D a b c d; simp only [↓yG, Nat.reduceEqDiff, ↓reduceIte, g59, f0, f2, f4, e, e2]; (first | refine zX (a ?_) | refine zY (b ?_) | refine zZ (fun hc => c ?_) (fun hc => d ?_)) <;> clear a b c d A B C D <;> try simp only [yL] at hc) | (refine yA ?_; intro A a; simp only [↓yG, Nat.reduceEqDiff, ↓reduceIte, g59, f0, f2, f4, e, e2]; refine yB (a ?_); clear a A) | (refine yD ?_; simp only [gresults, ↓yG, Nat.reduceEqDiff, ↓reduceIte, Option.bind_some, gld_1, gld_n, g59, f0, f2, f4, e, e2]; refine ⟨_, rfl, ?_⟩; simp only [gone]))
    exact hPost _
  repeat' (first | (exfalso; omega) | refine zA ?_ | refine zB ?_ | refine zC ?_ | refine zD ?_ | refine zE ?_ | refine zF ?_ | refine zG ?_ | refine zH ?_ | refine zI ?_ | refine zJ ?_ | refine zK rfl ?_ | refine zL ?_ | refine zM ?_ | refine zN ?_ | refine zO ?_ | refine zP rfl ?_ | refine zQ ?_ | ((first | refine zR ?_ | refine zS ?_ | refine zT ?_ | skip); intro K k; simp (disch := (first | (simp only [yD2, beq_self_eq_true, Nat.reduceLT, Nat.reduceAdd]; done) | ((fail_if_success (apply Bool.eq_iff_iff.2)); first | omega | (simp only [yD2, beq_self_eq_true, Nat.reduceLT, Nat.reduceAdd] <;> omega)) | fail)) only [↓yS, yT, ↓reduceIte, Nat.reduceEqDiff, Nat.reduceAdd, Nat.reduceMul, reduceCtorEq, Int.reduceToNat, g59, f0, f2, f4]; refine yC (k _ _ ?_); clear k K) | ((first | refine zU ?_ | refine zV ?_ | refine zW ?_); intro A B C D a b c d; simp only [↓yG, Nat.reduceEqDiff, ↓reduceIte, g59, f0, f2, f4]; (first | refine zX (a ?_) | refine zY (b ?_) | refine zZ (fun hc => c ?_) (fun hc => d ?_)) <;> clear a b c d A B C D <;> try simp only [yL] at hc) | (refine yA ?_; intro A a; simp only [↓yG, Nat.reduceEqDiff, ↓reduceIte, g59, f0, f2, f4]; refine yB (a ?_); clear a A) | (refine yD ?_; simp only [gresults, ↓yG, Nat.reduceEqDiff, ↓reduceIte, Option.bind_some, gld_1, gld_n, g59, f0, f2, f4]; refine ⟨_, rfl, ?_⟩; simp only [gone]))
  refine GW_loop (fun k fr H1 => ∃ (m : Nat), k = 4 - m ∧ m ≤ 4 ∧ fr.get 0 = some (.string (strB s)) ∧ fr.get 2 = some (.pointer (some ⟨0, 0, none⟩)) ∧ fr.get 4 = some (.int .u8 c) ∧ fr.get 11 = some (.int .i64 m) ∧ H1.wf ∧ H1.mine 0 = some (syC ⟨0, false, false⟩, 0) ∧ (all28.find? fun x => letB x == s) = ((all28.drop (4 * c + m)).find? fun x => letB x == s)) ?_ 4 ?_
  rotate_left
  · refine ⟨0, by omega, by omega, ?_⟩
    simp only [↓yG, Nat.reduceEqDiff, ↓reduceIte, Int.natCast_add, Int.cast_ofNat_Int, Int.natCast_zero, true_and, and_true, Option.some.injEq, Value.int.injEq, f0, f2, f4]
    exact ⟨hw1, m1, hf⟩
  rintro k fr2 H2 ⟨m, rfl, hm4, q0, q2, q4, q11, hw2, m2, hf2⟩ J2 hJ2
  by_cases hm : m < 4
  rotate_left
  · obtain rfl : m = 4 := by omega
    repeat' (first | (exfalso; omega) | refine zA ?_ | refine zB ?_ | refine zC ?_ | refine zD ?_ | refine zE ?_ | refine zF ?_ | refine zG ?_ | refine zH ?_ | refine zI ?_ | refine zJ ?_ | refine zK rfl ?_ | refine zL ?_ | refine zM ?_ | refine zN ?_ | refine zO ?_ | refine zP rfl ?_ | refine zQ ?_ | ((first | refine zR ?_ | refine zS ?_ | refine zT ?_ | skip); intro K k; simp (disch := (first | (simp only [yD2, beq_self_eq_true, Nat.reduceLT, Nat.reduceAdd]; done) | ((fail_if_success (apply Bool.eq_iff_iff.2)); first | omega | (simp only [yD2, beq_self_eq_true, Nat.reduceLT, Nat.reduceAdd] <;> omega)) | fail)) only [↓yS, yT, ↓reduceIte, Nat.reduceEqDiff, Nat.reduceAdd, Nat.reduceMul, reduceCtorEq, Int.reduceToNat, g59, q0, q2, q4, q11]; refine yC (k _ _ ?_); clear k K) | ((first | refine zU ?_ | refine zV ?_ | refine zW ?_); intro A B C D a b c d; simp only [↓yG, Nat.reduceEqDiff, ↓reduceIte, g59, q0, q2, q4, q11]; (first | refine zX (a ?_) | refine zY (b ?_) | refine zZ (fun hc => c ?_) (fun hc => d ?_)) <;> clear a b c d A B C D <;> try simp only [yL] at hc) | (refine yA ?_; intro A a; simp only [↓yG, Nat.reduceEqDiff, ↓reduceIte, g59, q0, q2, q4, q11]; refine yB (a ?_); clear a A) | (refine yD ?_; simp only [gresults, ↓yG, Nat.reduceEqDiff, ↓reduceIte, Option.bind_some, gld_1, gld_n, g59, q0, q2, q4, q11]; refine ⟨_, rfl, ?_⟩; simp only [gone]))
    refine hJ _ _ ⟨7 - (c + 1), by omega, c + 1, rfl, by omega, ?_⟩
    simp only [↓yG, Nat.reduceEqDiff, ↓reduceIte, Int.natCast_add, Int.cast_ofNat_Int, Int.natCast_zero, true_and, and_true, Option.some.injEq, Value.int.injEq, q0, q2]
    exact ⟨hw2, m2, hf2⟩
  have hst : ∀ a b d, gst (some 3) (H2.add (some (.cells [.int .u8 0, .bool false, .bool false] 0 true))) (.pointer (some ⟨H2.len, 0, none⟩)) (.agg #[.int .u8 a, .bool b, .bool d]) = some ((H2.add (some (.cells [.int .u8 0, .bool false, .bool false] 0 true))).put H2.len (.cells (syC ⟨a, b, d⟩) 0 true)) := fun a b d => gst_add hw2 rfl rfl (by simp [flatV])
  repeat' (first | (exfalso; omega) | refine zA ?_ | refine zB ?_ | refine zC ?_ | refine zD ?_ | refine zE ?_ | refine zF ?_ | refine zG ?_ | refine zH ?_ | refine zI ?_ | refine zJ ?_ | refine zK rfl ?_ | refine zL ?_ | refine zM ?_ | refine zN ?_ | refine zO ?_ | refine zP rfl ?_ | refine zQ ?_ | ((first | refine zR ?_ | refine zS ?_ | refine zT ?_ | skip); intro K k; simp (disch := (first | (simp only [yD2, beq_self_eq_true, Nat.reduceLT, Nat.reduceAdd]; done) | ((fail_if_success (apply Bool.eq_iff_iff.2)); first | omega | (simp only [yD2, beq_self_eq_true, Nat.reduceLT, Nat.reduceAdd] <;> omega)) | fail)) only [↓yS, yT, ↓reduceIte, Nat.reduceEqDiff, Nat.reduceAdd, Nat.reduceMul, reduceCtorEq, Int.reduceToNat, g59, q0, q2, q4, q11, hst, RN]; refine yC (k _ _ ?_); clear k K) | ((first | refine zU ?_ | refine zV ?_ | refine zW ?_); intro A B C D a b c d; simp only [↓yG, Nat.reduceEqDiff, ↓reduceIte, g59, q0, q2, q4, q11, hst, RN]; (first | refine zX (a ?_) | refine zY (b ?_) | refine zZ (fun hc => c ?_) (fun hc => d ?_)) <;> clear a b c d A B C D <;> try simp only [yL] at hc) | (refine yA ?_; intro A a; simp only [↓yG, Nat.reduceEqDiff, ↓reduceIte, g59, q0, q2, q4, q11, hst, RN]; refine yB (a ?_); clear a A) | (refine yD ?_; simp only [gresults, ↓yG, Nat.reduceEqDiff, ↓reduceIte, Option.bind_some, gld_1, gld_n, g59, q0, q2, q4, q11, hst, RN]; refine ⟨_, rfl, ?_⟩; simp only [gone]))
  obtain ⟨hx, hx0, hxo⟩ := all28_tab c (by omega) m (by omega)
  have hdr : all28.drop (4 * c + m) = all28[4 * c + m]! :: all28.drop (4 * c + m + 1) := by
    have hlt : 4 * c + m < all28.length := by rw [all28_len]; omega
    rw [List.drop_eq_getElem_cons hlt, getElem!_pos all28 _ hlt]
  rw [hx]
  rw [hdr, List.find?_cons] at hf2
  generalize all28[4 * c + m]! = x at *
  have hS3 : Same H2 ((H2.add (some (.cells [.int .u8 0, .bool false, .bool false] 0 true))).put H2.len (.cells (syC x) 0 true)) := (Same.refl hw2).new _ _
  have m3 : ((H2.add (some (.cells [.int .u8 0, .bool false, .bool false] 0 true))).put H2.len (.cells (syC x) 0 true)).mine 0 = some (syC ⟨0, false, false⟩, 0) := by
    rw [hS3.mine (mine_lt hw2 m2)]; exact m2
  have r3 : ((H2.add (some (.cells [.int .u8 0, .bool false, .bool false] 0 true))).put H2.len (.cells (syC x) 0 true)).rdn H2.len 0 3 = some (syV x) := rdn_put_all rfl
  generalize (H2.add (some (.cells [.int .u8 0, .bool false, .bool false] 0 true))).put H2.len (.cells (syC x) 0 true) = H3 at *
  refine Gw_s fun K' hK' => G1_call (by simp only [gtarget, ↓GArg.ev, ↓evs, ↓Tr.get_set, Nat.reduceEqDiff, if_true, if_false, ↓reduceIte, Option.map_some, q0, q2, q4, q11]; rfl) (one_of (letters_ok hx0 hxo _)) fun r5 H5 hq => hK' _ _ ?_
  obtain ⟨rfl, rfl⟩ := hq
  have hqe := fun e => gb_eqlB (e := e) (a := letB x) (b := s)
  by_cases hxs : letB x = s
  · have hb : (letB x == s) = true := by simp [hxs]
    rw [hb] at hf2
    have hf3 : (all28.find? fun x => letB x == s) = some x := hf2
    rw [parL, hf3] at hPost
    have hyt := eq_true hxs
    have e := mst (x := x) m3
    repeat' (first | (exfalso; omega) | refine zA ?_ | refine zB ?_ | refine zC ?_ | refine zD ?_ | refine zE ?_ | refine zF ?_ | refine zG ?_ | refine zH ?_ | refine zI ?_ | refine zJ ?_ | refine zK rfl ?_ | refine zL ?_ | refine zM ?_ | refine zN ?_ | refine zO ?_ | refine zP rfl ?_ | refine zQ ?_ | ((first | refine zR ?_ | refine zS ?_ | refine zT ?_ | skip); intro K k; simp (disch := (first | (simp only [yD2, beq_self_eq_true, Nat.reduceLT, Nat.reduceAdd]; done) | ((fail_if_success (apply Bool.eq_iff_iff.2)); first | omega | (simp only [yD2, beq_self_eq_true, Nat.reduceLT, Nat.reduceAdd] <;> omega)) | fail)) only [↓yS, yT, ↓reduceIte, Nat.reduceEqDiff, Nat.reduceAdd, Nat.reduceMul, reduceCtorEq, Int.reduceToNat, g59, q0, q2, q4, q11, hqe, hyt, decide_true, r3, e, mrd]; refine yC (k _ _ ?_); clear k K) | ((first | refine zU ?_ | refine zV ?_ | refine zW ?_); intro A B C D a b c d; simp only [↓yG, Nat.reduceEqDiff, ↓reduceIte, g59, q0, q2, q4, q11, hqe, hyt, decide_true, r3, e, mrd]; (first | refine zX (a ?_) | refine zY (b ?_) | refine zZ (fun hc => c ?_) (fun hc => d ?_)) <;> clear a b c d A B C D <;> try simp only [yL] at hc) | (refine yA ?_; intro A a; simp only [↓yG, Nat.reduceEqDiff, ↓reduceIte, g59, q0, q2, q4, q11, hqe, hyt, decide_true, r3, e, mrd]; refine yB (a ?_); clear a A) | (refine yD ?_; simp only [gresults, ↓yG, Nat.reduceEqDiff, ↓reduceIte, Option.bind_some, gld_1, gld_n, g59, q0, q2, q4, q11, hqe, hyt, decide_true, r3, e, mrd]; refine ⟨_, rfl, ?_⟩; simp only [gone]))
    exact hPost _
  · have hb : (letB x == s) = false := by simp [hxs]
    rw [hb] at hf2
    have hyt := eq_false hxs
    repeat' (first | (exfalso; omega) | refine zA ?_ | refine zB ?_ | refine zC ?_ | refine zD ?_ | refine zE ?_ | refine zF ?_ | refine zG ?_ | refine zH ?_ | refine zI ?_ | refine zJ ?_ | refine zK rfl ?_ | refine zL ?_ | refine zM ?_ | refine zN ?_ | refine zO ?_ | refine zP rfl ?_ | refine zQ ?_ | ((first | refine zR ?_ | refine zS ?_ | refine zT ?_ | skip); intro K k; simp (disch := (first | (simp only [yD2, beq_self_eq_true, Nat.reduceLT, Nat.reduceAdd]; done) | ((fail_if_success (apply Bool.eq_iff_iff.2)); first | omega | (simp only [yD2, beq_self_eq_true, Nat.reduceLT, Nat.reduceAdd] <;> omega)) | fail)) only [↓yS, yT, ↓reduceIte, Nat.reduceEqDiff, Nat.reduceAdd, Nat.reduceMul, reduceCtorEq, Int.reduceToNat, g59, q0, q2, q4, q11, hqe, hyt, decide_false]; refine yC (k _ _ ?_); clear k K) | ((first | refine zU ?_ | refine zV ?_ | refine zW ?_); intro A B C D a b c d; simp only [↓yG, Nat.reduceEqDiff, ↓reduceIte, g59, q0, q2, q4, q11, hqe, hyt, decide_false]; (first | refine zX (a ?_) | refine zY (b ?_) | refine zZ (fun hc => c ?_) (fun hc => d ?_)) <;> clear a b c d A B C D <;> try simp only [yL] at hc) | (refine yA ?_; intro A a; simp only [↓yG, Nat.reduceEqDiff, ↓reduceIte, g59, q0, q2, q4, q11, hqe, hyt, decide_false]; refine yB (a ?_); clear a A) | (refine yD ?_; simp only [gresults, ↓yG, Nat.reduceEqDiff, ↓reduceIte, Option.bind_some, gld_1, gld_n, g59, q0, q2, q4, q11, hqe, hyt, decide_false]; refine ⟨_, rfl, ?_⟩; simp only [gone]))
    refine hJ2 _ _ ⟨4 - (m + 1), by omega, m + 1, rfl, by omega, ?_⟩
    simp only [↓yG, Nat.reduceEqDiff, ↓reduceIte, Int.natCast_add, Int.cast_ofNat_Int, Int.natCast_zero, true_and, and_true, Option.some.injEq, Value.int.injEq, q0, q2, q4]
    exact ⟨hS3.wf, m3, hf2.trans rfl⟩
end Go.Gh
