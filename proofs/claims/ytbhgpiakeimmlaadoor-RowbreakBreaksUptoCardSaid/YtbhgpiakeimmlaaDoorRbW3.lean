/-
  rowbreak, walked: Check; the sheet: open, n, length, fits, cost.
-/
import Derived.Test.YtbhgpiakeimmlaaDoorRbW2
namespace Go.Gh
set_option linter.unusedSimpArgs false
set_option linter.unusedVariables false
open Go.RowKit
set_option maxRecDepth 4000

theorem parC_len (p : Par) : (parC p).length = 15 := rfl
theorem par_cells (p : Par) : (parV p).cells.toList = parC p := rfl
theorem parC_flat {p : Par} (h : flatV p.v = true) : (parC p).all flatV = true := by simp only [parC, List.all_cons, List.all_nil, h]; rfl
theorem par_cflat {p : Par} (h : flatV p.v = true) : (parV p).cells.all flatV = true := by rw [← Array.all_toList]; exact parC_flat h
theorem parC_0 (p : Par) : (parC p)[0]? = some p.v := rfl
theorem parC_1 (p : Par) : (parC p)[1]? = some (.int .i64 p.w) := rfl
theorem parC_2 (p : Par) : (parC p)[2]? = some (.int .i64 p.r) := rfl
/-- a paragraph that can be read -/
structure PR (H : GHeap) (p : Par) : Prop where
  kr : KR H p.v p.l
  sh : ShK p.l
  le : p.l.length ≤ 4611686018427387904
  ww : -9223372036854775808 ≤ p.w ∧ p.w ≤ 9223372036854775807
  rr : -9223372036854775808 ≤ p.r ∧ p.r ≤ 9223372036854775807
theorem PR.later {H H' : GHeap} {p : Par} (h : PR H p) (hw : H.wf) (hs : Same H H') : PR H' p := ⟨h.kr.later hw hs, h.sh, h.le, h.ww, h.rr⟩
theorem rdn_par {H H' : GHeap} {p : Par} (h : Same (H.add (some (.cells (parC p) 0 true))) H') : H'.rdn H.len 0 15 = some (parV p) := by
  rw [h.rdn (by rw [len_add]; omega)]; exact rdn_add_all rfl rfl
theorem rd_par {H H' : GHeap} {p : Par} (h : Same (H.add (some (.cells (parC p) 0 true))) H') (o : Nat) : H'.rd H.len o = (parC p)[o]? := by
  rw [h.rd (by rw [len_add]; omega)]; exact rd_add_eq rfl
theorem rdn_ptab {H H' : GHeap} {p : Par} (h : Same (H.add (some (.cells (parC p) 0 true))) H') : H'.rdn H.len 3 12 = some (tabV p.tb) := by
  rw [h.rdn (by rw [len_add]; omega)]
  simp only [GHeap.rdn, cs_add_eq rfl, Option.bind_some]
  rfl
theorem check_ok {H : GHeap} (hw : H.wf) {p : Par} (hp : PR H p) :
    ∃ r H', gev G 17 [parV p] H = some (r, H') ∧ (r = .int .i64 (parF p) ∧ Same H H') := by
  refine gev_GW (f := 17) rfl fun Post hPost => ?_
  have hf := hp.kr.flat
  have hb := par_cflat hf
  have hl := par_cells p
  have hS1 := (Same.refl hw).add (.cells (parC p) 0 true)
  have e0 : ∀ o, (H.add (some (.cells (parC p) 0 true))).rd H.len o = (parC p)[o]? := fun o => rd_add_eq rfl
  simp only [frameOf, Nat.reduceAdd]
  repeat' (first | refine zA ?_ | refine zB ?_ | refine zC ?_ | refine zD ?_ | refine zE ?_ | refine zF ?_ | refine zG ?_ | refine zH ?_ | refine zI ?_ | refine zJ ?_ | refine zK rfl ?_ | refine zL ?_ | refine zM ?_ | refine zN ?_ | refine zO ?_ | refine zP rfl ?_ | refine zQ ?_ | ((first | refine zR ?_ | refine zS ?_ | refine zT ?_ | skip); intro K k; simp (disch := (first | (simp only [yD2, beq_self_eq_true, Nat.reduceLT, Nat.reduceAdd]; done) | ((fail_if_success (apply Bool.eq_iff_iff.2)); first | omega | (simp only [yD2, beq_self_eq_true, Nat.reduceLT, Nat.reduceAdd] <;> omega)) | fail)) only [↓yS, yT, ↓reduceIte, Nat.reduceEqDiff, Nat.reduceAdd, Nat.reduceMul, reduceCtorEq, Int.reduceToNat, g17, hb, hl, e0, parC_0]; refine yC (k _ _ ?_); clear k K) | ((first | refine zU ?_ | refine zV ?_ | refine zW ?_); intro A B C D a b c d; simp only [↓yG, Nat.reduceEqDiff, ↓reduceIte, g17, hb, hl, e0, parC_0]; (first | refine zX (a ?_) | refine zY (b ?_) | refine zZ (fun hc => c ?_) (fun hc => d ?_)) <;> clear a b c d A B C D <;> try simp only [yL] at hc) | (refine yA ?_; intro A a; simp only [↓yG, Nat.reduceEqDiff, ↓reduceIte, g17, hb, hl, e0, parC_0]; refine yB (a ?_); clear a A) | (refine yD ?_; simp only [gresults, ↓yG, Nat.reduceEqDiff, ↓reduceIte, Option.bind_some, gld_1, gld_n, g17, hb, hl, e0, parC_0]; refine ⟨_, rfl, ?_⟩; simp only [gone]))
  refine Gw_s fun K' hK' => G1_call (by simp only [gtarget, ↓GArg.ev, ↓evs, ↓Tr.get_set, Nat.reduceEqDiff, if_true, if_false, ↓reduceIte, Option.map_some]; rfl) (tcheck_ok hS1.wf (hp.kr.later hw hS1) hp.le hp.sh) fun r1 H1 hq => hK' _ _ ?_
  obtain ⟨rfl, hS2⟩ := hq
  have e1 := rd_par hS2
  have e2 := rdn_ptab hS2
  have hS := hS1.trans hS2
  have hsl := hp.kr.isSl
  by_cases h1 : tkF p.l = 0
  · rw [h1]
    by_cases h2 : p.l = []
    · have hl0 : p.l.length = 0 := by rw [h2]; rfl
      have hr : parF p = 6 := by rw [parF, if_neg (by omega), if_pos h2]
      repeat' (first | (exfalso; omega) | refine zA ?_ | refine zB ?_ | refine zC ?_ | refine zD ?_ | refine zE ?_ | refine zF ?_ | refine zG ?_ | refine zH ?_ | refine zI ?_ | refine zJ ?_ | refine zK rfl ?_ | refine zL ?_ | refine zM ?_ | refine zN ?_ | refine zO ?_ | refine zP rfl ?_ | refine zQ ?_ | ((first | refine zR ?_ | refine zS ?_ | refine zT ?_ | skip); intro K k; simp (disch := (first | (simp only [yD2, beq_self_eq_true, Nat.reduceLT, Nat.reduceAdd]; done) | ((fail_if_success (apply Bool.eq_iff_iff.2)); first | omega | (simp only [yD2, beq_self_eq_true, Nat.reduceLT, Nat.reduceAdd] <;> omega)) | fail)) only [↓yS, yT, ↓reduceIte, Nat.reduceEqDiff, Nat.reduceAdd, Nat.reduceMul, reduceCtorEq, Int.reduceToNat, g17, e1, parC_0, hsl.len]; refine yC (k _ _ ?_); clear k K) | ((first | refine zU ?_ | refine zV ?_ | refine zW ?_); intro A B C D a b c d; simp only [↓yG, Nat.reduceEqDiff, ↓reduceIte, g17, e1, parC_0, hsl.len]; (first | refine zX (a ?_) | refine zY (b ?_) | refine zZ (fun hc => c ?_) (fun hc => d ?_)) <;> clear a b c d A B C D <;> try simp only [yL] at hc) | (refine yA ?_; intro A a; simp only [↓yG, Nat.reduceEqDiff, ↓reduceIte, g17, e1, parC_0, hsl.len]; refine yB (a ?_); clear a A) | (refine yD ?_; simp only [gresults, ↓yG, Nat.reduceEqDiff, ↓reduceIte, Option.bind_some, gld_1, gld_n, g17, e1, parC_0, hsl.len]; refine ⟨_, rfl, ?_⟩; simp only [gone]))
      exact hPost _ _ ⟨by rw [hr], hS⟩
    · have hl0 : p.l.length ≠ 0 := fun e => h2 (List.eq_nil_of_length_eq_zero e)
      by_cases h3 : p.w < 1 ∨ 32 < p.w ∨ p.r < 1 ∨ 4 < p.r
      · have hr : parF p = 2 := by rw [parF, if_neg (by omega), if_neg h2, if_pos h3]
        have hs : p.w < 1 ∨ (¬ p.w < 1 ∧ 32 < p.w) ∨ (¬ p.w < 1 ∧ ¬ 32 < p.w ∧ p.r < 1) ∨ (¬ p.w < 1 ∧ ¬ 32 < p.w ∧ ¬ p.r < 1 ∧ 4 < p.r) := by omega
        rcases hs with h | h | h | h
        all_goals repeat' (first | (exfalso; omega) | refine zA ?_ | refine zB ?_ | refine zC ?_ | refine zD ?_ | refine zE ?_ | refine zF ?_ | refine zG ?_ | refine zH ?_ | refine zI ?_ | refine zJ ?_ | refine zK rfl ?_ | refine zL ?_ | refine zM ?_ | refine zN ?_ | refine zO ?_ | refine zP rfl ?_ | refine zQ ?_ | ((first | refine zR ?_ | refine zS ?_ | refine zT ?_ | skip); intro K k; simp (disch := (first | (simp only [yD2, beq_self_eq_true, Nat.reduceLT, Nat.reduceAdd]; done) | ((fail_if_success (apply Bool.eq_iff_iff.2)); first | omega | (simp only [yD2, beq_self_eq_true, Nat.reduceLT, Nat.reduceAdd] <;> omega)) | fail)) only [↓yS, yT, ↓reduceIte, Nat.reduceEqDiff, Nat.reduceAdd, Nat.reduceMul, reduceCtorEq, Int.reduceToNat, g17, e1, parC_0, parC_1, parC_2, hsl.len]; refine yC (k _ _ ?_); clear k K) | ((first | refine zU ?_ | refine zV ?_ | refine zW ?_); intro A B C D a b c d; simp only [↓yG, Nat.reduceEqDiff, ↓reduceIte, g17, e1, parC_0, parC_1, parC_2, hsl.len]; (first | refine zX (a ?_) | refine zY (b ?_) | refine zZ (fun hc => c ?_) (fun hc => d ?_)) <;> clear a b c d A B C D <;> try simp only [yL] at hc) | (refine yA ?_; intro A a; simp only [↓yG, Nat.reduceEqDiff, ↓reduceIte, g17, e1, parC_0, parC_1, parC_2, hsl.len]; refine yB (a ?_); clear a A) | (refine yD ?_; simp only [gresults, ↓yG, Nat.reduceEqDiff, ↓reduceIte, Option.bind_some, gld_1, gld_n, g17, e1, parC_0, parC_1, parC_2, hsl.len]; refine ⟨_, rfl, ?_⟩; simp only [gone]))
        all_goals exact hPost _ _ ⟨by rw [hr], hS⟩
      · have hr : parF p = penF p.tb := by rw [parF, if_neg (by omega), if_neg h2, if_neg h3]
        repeat' (first | (exfalso; omega) | refine zA ?_ | refine zB ?_ | refine zC ?_ | refine zD ?_ | refine zE ?_ | refine zF ?_ | refine zG ?_ | refine zH ?_ | refine zI ?_ | refine zJ ?_ | refine zK rfl ?_ | refine zL ?_ | refine zM ?_ | refine zN ?_ | refine zO ?_ | refine zP rfl ?_ | refine zQ ?_ | ((first | refine zR ?_ | refine zS ?_ | refine zT ?_ | skip); intro K k; simp (disch := (first | (simp only [yD2, beq_self_eq_true, Nat.reduceLT, Nat.reduceAdd]; done) | ((fail_if_success (apply Bool.eq_iff_iff.2)); first | omega | (simp only [yD2, beq_self_eq_true, Nat.reduceLT, Nat.reduceAdd] <;> omega)) | fail)) only [↓yS, yT, ↓reduceIte, Nat.reduceEqDiff, Nat.reduceAdd, Nat.reduceMul, reduceCtorEq, Int.reduceToNat, g17, e1, parC_0, parC_1, parC_2, hsl.len, e2]; refine yC (k _ _ ?_); clear k K) | ((first | refine zU ?_ | refine zV ?_ | refine zW ?_); intro A B C D a b c d; simp only [↓yG, Nat.reduceEqDiff, ↓reduceIte, g17, e1, parC_0, parC_1, parC_2, hsl.len, e2]; (first | refine zX (a ?_) | refine zY (b ?_) | refine zZ (fun hc => c ?_) (fun hc => d ?_)) <;> clear a b c d A B C D <;> try simp only [yL] at hc) | (refine yA ?_; intro A a; simp only [↓yG, Nat.reduceEqDiff, ↓reduceIte, g17, e1, parC_0, parC_1, parC_2, hsl.len, e2]; refine yB (a ?_); clear a A) | (refine yD ?_; simp only [gresults, ↓yG, Nat.reduceEqDiff, ↓reduceIte, Option.bind_some, gld_1, gld_n, g17, e1, parC_0, parC_1, parC_2, hsl.len, e2]; refine ⟨_, rfl, ?_⟩; simp only [gone]))
        refine Gw_s fun K' hK' => G1_call (by simp only [gtarget, ↓GArg.ev, ↓evs, ↓Tr.get_set, Nat.reduceEqDiff, if_true, if_false, ↓reduceIte, Option.map_some]; rfl) (one_of (pcheck_ok p.tb _)) fun r3 H3 hq => hK' _ _ ?_
        obtain ⟨rfl, rfl⟩ := hq
        repeat' (first | (exfalso; omega) | refine zA ?_ | refine zB ?_ | refine zC ?_ | refine zD ?_ | refine zE ?_ | refine zF ?_ | refine zG ?_ | refine zH ?_ | refine zI ?_ | refine zJ ?_ | refine zK rfl ?_ | refine zL ?_ | refine zM ?_ | refine zN ?_ | refine zO ?_ | refine zP rfl ?_ | refine zQ ?_ | ((first | refine zR ?_ | refine zS ?_ | refine zT ?_ | skip); intro K k; simp (disch := (first | (simp only [yD2, beq_self_eq_true, Nat.reduceLT, Nat.reduceAdd]; done) | ((fail_if_success (apply Bool.eq_iff_iff.2)); first | omega | (simp only [yD2, beq_self_eq_true, Nat.reduceLT, Nat.reduceAdd] <;> omega)) | fail)) only [↓yS, yT, ↓reduceIte, Nat.reduceEqDiff, Nat.reduceAdd, Nat.reduceMul, reduceCtorEq, Int.reduceToNat, g17]; refine yC (k _ _ ?_); clear k K) | ((first | refine zU ?_ | refine zV ?_ | refine zW ?_); intro A B C D a b c d; simp only [↓yG, Nat.reduceEqDiff, ↓reduceIte, g17]; (first | refine zX (a ?_) | refine zY (b ?_) | refine zZ (fun hc => c ?_) (fun hc => d ?_)) <;> clear a b c d A B C D <;> try simp only [yL] at hc) | (refine yA ?_; intro A a; simp only [↓yG, Nat.reduceEqDiff, ↓reduceIte, g17]; refine yB (a ?_); clear a A) | (refine yD ?_; simp only [gresults, ↓yG, Nat.reduceEqDiff, ↓reduceIte, Option.bind_some, gld_1, gld_n, g17]; refine ⟨_, rfl, ?_⟩; simp only [gone]))
        exact hPost _ _ ⟨by rw [hr], hS⟩
  · have hr : parF p = tkF p.l := by rw [parF, if_pos h1]
    have h1' : (tkF p.l = 0) = False := eq_false h1
    repeat' (first | (exfalso; omega) | refine zA ?_ | refine zB ?_ | refine zC ?_ | refine zD ?_ | refine zE ?_ | refine zF ?_ | refine zG ?_ | refine zH ?_ | refine zI ?_ | refine zJ ?_ | refine zK rfl ?_ | refine zL ?_ | refine zM ?_ | refine zN ?_ | refine zO ?_ | refine zP rfl ?_ | refine zQ ?_ | ((first | refine zR ?_ | refine zS ?_ | refine zT ?_ | skip); intro K k; simp (disch := (first | (simp only [yD2, beq_self_eq_true, Nat.reduceLT, Nat.reduceAdd]; done) | ((fail_if_success (apply Bool.eq_iff_iff.2)); first | omega | (simp only [yD2, beq_self_eq_true, Nat.reduceLT, Nat.reduceAdd] <;> omega)) | fail)) only [↓yS, yT, ↓reduceIte, Nat.reduceEqDiff, Nat.reduceAdd, Nat.reduceMul, reduceCtorEq, Int.reduceToNat, g17, h1']; refine yC (k _ _ ?_); clear k K) | ((first | refine zU ?_ | refine zV ?_ | refine zW ?_); intro A B C D a b c d; simp only [↓yG, Nat.reduceEqDiff, ↓reduceIte, g17, h1']; (first | refine zX (a ?_) | refine zY (b ?_) | refine zZ (fun hc => c ?_) (fun hc => d ?_)) <;> clear a b c d A B C D <;> try simp only [yL] at hc) | (refine yA ?_; intro A a; simp only [↓yG, Nat.reduceEqDiff, ↓reduceIte, g17, h1']; refine yB (a ?_); clear a A) | (refine yD ?_; simp only [gresults, ↓yG, Nat.reduceEqDiff, ↓reduceIte, Option.bind_some, gld_1, gld_n, g17, h1']; refine ⟨_, rfl, ?_⟩; simp only [gone]))
    exact hPost _ _ ⟨by rw [hr], hS⟩
theorem rcheck_ok {H : GHeap} (hw : H.wf) {p : Par} (hp : PR H p) :
    ∃ r H', gev G 18 [parV p] H = some (r, H') ∧ (r = .int .i64 (parF p) ∧ Same H H') := by
  refine gev_GW (f := 18) rfl fun Post hPost => ?_
  have hf := hp.kr.flat
  have hb := par_cflat hf
  have hl := par_cells p
  have hS1 := (Same.refl hw).add (.cells (parC p) 0 true)
  have e0 : ∀ o, (H.add (some (.cells (parC p) 0 true))).rd H.len o = (parC p)[o]? := fun o => rd_add_eq rfl
  simp only [frameOf, Nat.reduceAdd]
  repeat' (first | refine zA ?_ | refine zB ?_ | refine zC ?_ | refine zD ?_ | refine zE ?_ | refine zF ?_ | refine zG ?_ | refine zH ?_ | refine zI ?_ | refine zJ ?_ | refine zK rfl ?_ | refine zL ?_ | refine zM ?_ | refine zN ?_ | refine zO ?_ | refine zP rfl ?_ | refine zQ ?_ | ((first | refine zR ?_ | refine zS ?_ | refine zT ?_ | skip); intro K k; simp (disch := (first | (simp only [yD2, beq_self_eq_true, Nat.reduceLT, Nat.reduceAdd]; done) | ((fail_if_success (apply Bool.eq_iff_iff.2)); first | omega | (simp only [yD2, beq_self_eq_true, Nat.reduceLT, Nat.reduceAdd] <;> omega)) | fail)) only [↓yS, yT, ↓reduceIte, Nat.reduceEqDiff, Nat.reduceAdd, Nat.reduceMul, reduceCtorEq, Int.reduceToNat, g18, hb, hl, e0, parC_0]; refine yC (k _ _ ?_); clear k K) | ((first | refine zU ?_ | refine zV ?_ | refine zW ?_); intro A B C D a b c d; simp only [↓yG, Nat.reduceEqDiff, ↓reduceIte, g18, hb, hl, e0, parC_0]; (first | refine zX (a ?_) | refine zY (b ?_) | refine zZ (fun hc => c ?_) (fun hc => d ?_)) <;> clear a b c d A B C D <;> try simp only [yL] at hc) | (refine yA ?_; intro A a; simp only [↓yG, Nat.reduceEqDiff, ↓reduceIte, g18, hb, hl, e0, parC_0]; refine yB (a ?_); clear a A) | (refine yD ?_; simp only [gresults, ↓yG, Nat.reduceEqDiff, ↓reduceIte, Option.bind_some, gld_1, gld_n, g18, hb, hl, e0, parC_0]; refine ⟨_, rfl, ?_⟩; simp only [gone]))
  refine Gw_s fun K' hK' => G1_call (by simp only [gtarget, ↓GArg.ev, ↓evs, ↓Tr.get_set, Nat.reduceEqDiff, if_true, if_false, ↓reduceIte, Option.map_some]; rfl) (rtcheck_ok hS1.wf (hp.kr.later hw hS1) hp.le hp.sh) fun r1 H1 hq => hK' _ _ ?_
  obtain ⟨rfl, hS2⟩ := hq
  have e1 := rd_par hS2
  have e2 := rdn_ptab hS2
  have hS := hS1.trans hS2
  have hsl := hp.kr.isSl
  by_cases h1 : tkF p.l = 0
  · rw [h1]
    by_cases h2 : p.l = []
    · have hl0 : p.l.length = 0 := by rw [h2]; rfl
      have hr : parF p = 6 := by rw [parF, if_neg (by omega), if_pos h2]
      repeat' (first | (exfalso; omega) | refine zA ?_ | refine zB ?_ | refine zC ?_ | refine zD ?_ | refine zE ?_ | refine zF ?_ | refine zG ?_ | refine zH ?_ | refine zI ?_ | refine zJ ?_ | refine zK rfl ?_ | refine zL ?_ | refine zM ?_ | refine zN ?_ | refine zO ?_ | refine zP rfl ?_ | refine zQ ?_ | ((first | refine zR ?_ | refine zS ?_ | refine zT ?_ | skip); intro K k; simp (disch := (first | (simp only [yD2, beq_self_eq_true, Nat.reduceLT, Nat.reduceAdd]; done) | ((fail_if_success (apply Bool.eq_iff_iff.2)); first | omega | (simp only [yD2, beq_self_eq_true, Nat.reduceLT, Nat.reduceAdd] <;> omega)) | fail)) only [↓yS, yT, ↓reduceIte, Nat.reduceEqDiff, Nat.reduceAdd, Nat.reduceMul, reduceCtorEq, Int.reduceToNat, g18, e1, parC_0, hsl.len]; refine yC (k _ _ ?_); clear k K) | ((first | refine zU ?_ | refine zV ?_ | refine zW ?_); intro A B C D a b c d; simp only [↓yG, Nat.reduceEqDiff, ↓reduceIte, g18, e1, parC_0, hsl.len]; (first | refine zX (a ?_) | refine zY (b ?_) | refine zZ (fun hc => c ?_) (fun hc => d ?_)) <;> clear a b c d A B C D <;> try simp only [yL] at hc) | (refine yA ?_; intro A a; simp only [↓yG, Nat.reduceEqDiff, ↓reduceIte, g18, e1, parC_0, hsl.len]; refine yB (a ?_); clear a A) | (refine yD ?_; simp only [gresults, ↓yG, Nat.reduceEqDiff, ↓reduceIte, Option.bind_some, gld_1, gld_n, g18, e1, parC_0, hsl.len]; refine ⟨_, rfl, ?_⟩; simp only [gone]))
      exact hPost _ _ ⟨by rw [hr], hS⟩
    · have hl0 : p.l.length ≠ 0 := fun e => h2 (List.eq_nil_of_length_eq_zero e)
      by_cases h3 : p.w < 1 ∨ 32 < p.w ∨ p.r < 1 ∨ 4 < p.r
      · have hr : parF p = 2 := by rw [parF, if_neg (by omega), if_neg h2, if_pos h3]
        have hs : p.w < 1 ∨ (¬ p.w < 1 ∧ 32 < p.w) ∨ (¬ p.w < 1 ∧ ¬ 32 < p.w ∧ p.r < 1) ∨ (¬ p.w < 1 ∧ ¬ 32 < p.w ∧ ¬ p.r < 1 ∧ 4 < p.r) := by omega
        rcases hs with h | h | h | h
        all_goals repeat' (first | (exfalso; omega) | refine zA ?_ | refine zB ?_ | refine zC ?_ | refine zD ?_ | refine zE ?_ | refine zF ?_ | refine zG ?_ | refine zH ?_ | refine zI ?_ | refine zJ ?_ | refine zK rfl ?_ | refine zL ?_ | refine zM ?_ | refine zN ?_ | refine zO ?_ | refine zP rfl ?_ | refine zQ ?_ | ((first | refine zR ?_ | refine zS ?_ | refine zT ?_ | skip); intro K k; simp (disch := (first | (simp only [yD2, beq_self_eq_true, Nat.reduceLT, Nat.reduceAdd]; done) | ((fail_if_success (apply Bool.eq_iff_iff.2)); first | omega | (simp only [yD2, beq_self_eq_true, Nat.reduceLT, Nat.reduceAdd] <;> omega)) | fail)) only [↓yS, yT, ↓reduceIte, Nat.reduceEqDiff, Nat.reduceAdd, Nat.reduceMul, reduceCtorEq, Int.reduceToNat, g18, e1, parC_0, parC_1, parC_2, hsl.len]; refine yC (k _ _ ?_); clear k K) | ((first | refine zU ?_ | refine zV ?_ | refine zW ?_); intro A B C D a b c d; simp only [↓yG, Nat.reduceEqDiff, ↓reduceIte, g18, e1, parC_0, parC_1, parC_2, hsl.len]; (first | refine zX (a ?_) | refine zY (b ?_) | refine zZ (fun hc => c ?_) (fun hc => d ?_)) <;> clear a b c d A B C D <;> try simp only [yL] at hc) | (refine yA ?_; intro A a; simp only [↓yG, Nat.reduceEqDiff, ↓reduceIte, g18, e1, parC_0, parC_1, parC_2, hsl.len]; refine yB (a ?_); clear a A) | (refine yD ?_; simp only [gresults, ↓yG, Nat.reduceEqDiff, ↓reduceIte, Option.bind_some, gld_1, gld_n, g18, e1, parC_0, parC_1, parC_2, hsl.len]; refine ⟨_, rfl, ?_⟩; simp only [gone]))
        all_goals exact hPost _ _ ⟨by rw [hr], hS⟩
      · have hr : parF p = penF p.tb := by rw [parF, if_neg (by omega), if_neg h2, if_neg h3]
        repeat' (first | (exfalso; omega) | refine zA ?_ | refine zB ?_ | refine zC ?_ | refine zD ?_ | refine zE ?_ | refine zF ?_ | refine zG ?_ | refine zH ?_ | refine zI ?_ | refine zJ ?_ | refine zK rfl ?_ | refine zL ?_ | refine zM ?_ | refine zN ?_ | refine zO ?_ | refine zP rfl ?_ | refine zQ ?_ | ((first | refine zR ?_ | refine zS ?_ | refine zT ?_ | skip); intro K k; simp (disch := (first | (simp only [yD2, beq_self_eq_true, Nat.reduceLT, Nat.reduceAdd]; done) | ((fail_if_success (apply Bool.eq_iff_iff.2)); first | omega | (simp only [yD2, beq_self_eq_true, Nat.reduceLT, Nat.reduceAdd] <;> omega)) | fail)) only [↓yS, yT, ↓reduceIte, Nat.reduceEqDiff, Nat.reduceAdd, Nat.reduceMul, reduceCtorEq, Int.reduceToNat, g18, e1, parC_0, parC_1, parC_2, hsl.len, e2]; refine yC (k _ _ ?_); clear k K) | ((first | refine zU ?_ | refine zV ?_ | refine zW ?_); intro A B C D a b c d; simp only [↓yG, Nat.reduceEqDiff, ↓reduceIte, g18, e1, parC_0, parC_1, parC_2, hsl.len, e2]; (first | refine zX (a ?_) | refine zY (b ?_) | refine zZ (fun hc => c ?_) (fun hc => d ?_)) <;> clear a b c d A B C D <;> try simp only [yL] at hc) | (refine yA ?_; intro A a; simp only [↓yG, Nat.reduceEqDiff, ↓reduceIte, g18, e1, parC_0, parC_1, parC_2, hsl.len, e2]; refine yB (a ?_); clear a A) | (refine yD ?_; simp only [gresults, ↓yG, Nat.reduceEqDiff, ↓reduceIte, Option.bind_some, gld_1, gld_n, g18, e1, parC_0, parC_1, parC_2, hsl.len, e2]; refine ⟨_, rfl, ?_⟩; simp only [gone]))
        refine Gw_s fun K' hK' => G1_call (by simp only [gtarget, ↓GArg.ev, ↓evs, ↓Tr.get_set, Nat.reduceEqDiff, if_true, if_false, ↓reduceIte, Option.map_some]; rfl) (one_of (rpcheck_ok p.tb _)) fun r3 H3 hq => hK' _ _ ?_
        obtain ⟨rfl, rfl⟩ := hq
        repeat' (first | (exfalso; omega) | refine zA ?_ | refine zB ?_ | refine zC ?_ | refine zD ?_ | refine zE ?_ | refine zF ?_ | refine zG ?_ | refine zH ?_ | refine zI ?_ | refine zJ ?_ | refine zK rfl ?_ | refine zL ?_ | refine zM ?_ | refine zN ?_ | refine zO ?_ | refine zP rfl ?_ | refine zQ ?_ | ((first | refine zR ?_ | refine zS ?_ | refine zT ?_ | skip); intro K k; simp (disch := (first | (simp only [yD2, beq_self_eq_true, Nat.reduceLT, Nat.reduceAdd]; done) | ((fail_if_success (apply Bool.eq_iff_iff.2)); first | omega | (simp only [yD2, beq_self_eq_true, Nat.reduceLT, Nat.reduceAdd] <;> omega)) | fail)) only [↓yS, yT, ↓reduceIte, Nat.reduceEqDiff, Nat.reduceAdd, Nat.reduceMul, reduceCtorEq, Int.reduceToNat, g18]; refine yC (k _ _ ?_); clear k K) | ((first | refine zU ?_ | refine zV ?_ | refine zW ?_); intro A B C D a b c d; simp only [↓yG, Nat.reduceEqDiff, ↓reduceIte, g18]; (first | refine zX (a ?_) | refine zY (b ?_) | refine zZ (fun hc => c ?_) (fun hc => d ?_)) <;> clear a b c d A B C D <;> try simp only [yL] at hc) | (refine yA ?_; intro A a; simp only [↓yG, Nat.reduceEqDiff, ↓reduceIte, g18]; refine yB (a ?_); clear a A) | (refine yD ?_; simp only [gresults, ↓yG, Nat.reduceEqDiff, ↓reduceIte, Option.bind_some, gld_1, gld_n, g18]; refine ⟨_, rfl, ?_⟩; simp only [gone]))
        exact hPost _ _ ⟨by rw [hr], hS⟩
  · have hr : parF p = tkF p.l := by rw [parF, if_pos h1]
    have h1' : (tkF p.l = 0) = False := eq_false h1
    repeat' (first | (exfalso; omega) | refine zA ?_ | refine zB ?_ | refine zC ?_ | refine zD ?_ | refine zE ?_ | refine zF ?_ | refine zG ?_ | refine zH ?_ | refine zI ?_ | refine zJ ?_ | refine zK rfl ?_ | refine zL ?_ | refine zM ?_ | refine zN ?_ | refine zO ?_ | refine zP rfl ?_ | refine zQ ?_ | ((first | refine zR ?_ | refine zS ?_ | refine zT ?_ | skip); intro K k; simp (disch := (first | (simp only [yD2, beq_self_eq_true, Nat.reduceLT, Nat.reduceAdd]; done) | ((fail_if_success (apply Bool.eq_iff_iff.2)); first | omega | (simp only [yD2, beq_self_eq_true, Nat.reduceLT, Nat.reduceAdd] <;> omega)) | fail)) only [↓yS, yT, ↓reduceIte, Nat.reduceEqDiff, Nat.reduceAdd, Nat.reduceMul, reduceCtorEq, Int.reduceToNat, g18, h1']; refine yC (k _ _ ?_); clear k K) | ((first | refine zU ?_ | refine zV ?_ | refine zW ?_); intro A B C D a b c d; simp only [↓yG, Nat.reduceEqDiff, ↓reduceIte, g18, h1']; (first | refine zX (a ?_) | refine zY (b ?_) | refine zZ (fun hc => c ?_) (fun hc => d ?_)) <;> clear a b c d A B C D <;> try simp only [yL] at hc) | (refine yA ?_; intro A a; simp only [↓yG, Nat.reduceEqDiff, ↓reduceIte, g18, h1']; refine yB (a ?_); clear a A) | (refine yD ?_; simp only [gresults, ↓yG, Nat.reduceEqDiff, ↓reduceIte, Option.bind_some, gld_1, gld_n, g18, h1']; refine ⟨_, rfl, ?_⟩; simp only [gone]))
    exact hPost _ _ ⟨by rw [hr], hS⟩
end Go.Gh
