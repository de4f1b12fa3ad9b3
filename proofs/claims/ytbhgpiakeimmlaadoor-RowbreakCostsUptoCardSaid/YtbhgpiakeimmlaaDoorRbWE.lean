/-
  rowbreak's reference, walked: Join, Rows; slices.Equal of strings; the law Costs.
-/
import Derived.Test.YtbhgpiakeimmlaaDoorRbWB
import Derived.Test.YtbhgpiakeimmlaaDoorRbWC
namespace Go.Gh
set_option linter.unusedSimpArgs false
set_option linter.unusedVariables false
open Go.RowKit
set_option maxRecDepth 4000

theorem jn_one (x : Tk) : jn [x] = x.t := by rw [jn_cons]; simp [jt]
theorem jn_snoc {l : List Tk} {j : Nat} (h : j < l.length) : jn (l.take (j + 1)) = if j = 0 then l[j]!.t else jn (l.take j) ++ 32 :: l[j]!.t := by
  rw [List.take_succ_eq_append_getElem h, ← getElem!_pos l j h]
  by_cases h0 : j = 0
  · subst h0; simp [jn_one]
  · rw [if_neg h0, jn_append, jn_one]
    · intro e
      have := congrArg List.length e
      rw [List.length_take, List.length_nil] at this; omega
    · simp
theorem seg_jnk {p : Par} {a b : Nat} (hok : p.D.ok a b) (h0 : parF p = 0) (k : Nat) : (jn ((seg p.l a b).take k)).length ≤ 1000 := by
  have h1 := jn_len ((seg p.l a b).take k)
  have h2 := seg_sum (l := p.l) (a := a) (b := b) (by have := hok.1; omega)
  have h3 : lenR p.l a b ≤ p.w := of_decide_eq_true hok.2.2
  have h4 := (parF_ok h0).2.2.2.1
  have h5 := (tkF_go (parF_ok h0).1).2
  have h6 := seg_len (l := p.l) (a := a) (b := b) hok.2.1
  have h7 := smN_le' (l := p.l) (k := a) (j := b) (by have := hok.1; omega)
  have h8 : b ≤ p.l.length := hok.2.1
  have h9 : (((seg p.l a b).take k).map tkN).sum ≤ ((seg p.l a b).map tkN).sum := by
    have : smN (seg p.l a b) k ≤ smN (seg p.l a b) (k + (seg p.l a b).length) := smN_le _ _ _
    unfold smN at this
    rwa [List.take_of_length_le (show (seg p.l a b).length ≤ k + (seg p.l a b).length by omega)] at this
  unfold lenR at h3
  rw [List.length_take] at h1
  have := hok.1
  omega
theorem rtjoin_ok {H : GHeap} (hw : H.wf) {v : Value} {l : List Tk} (hv : KR H v l) (hll : l.length ≤ 200) (hj : ∀ k, (jn (l.take k)).length ≤ 1000) :
    ∃ r H', gev G 31 [v] H = some (r, H') ∧ (r = .string (strB (jn l)) ∧ Same H H') := by
  refine gev_GW (f := 31) rfl fun Post hPost => ?_
  have hlim := hw.1
  have hsl := hv.isSl
  have hnil : (⟨#[]⟩ : ByteArray) = strB (jn (l.take 0)) := by simp [jn, Go.Lib.join_nil, strB]
  simp only [frameOf, Nat.reduceAdd]
  repeat' (first | refine zA ?_ | refine zB ?_ | refine zC ?_ | refine zD ?_ | refine zE ?_ | refine zF ?_ | refine zG ?_ | refine zH ?_ | refine zI ?_ | refine zJ ?_ | refine zK rfl ?_ | refine zL ?_ | refine zM ?_ | refine zN ?_ | refine zO ?_ | refine zP rfl ?_ | refine zQ ?_ | ((first | refine zR ?_ | refine zS ?_ | refine zT ?_ | skip); intro K k; simp (disch := (first | (simp only [yD2, beq_self_eq_true, Nat.reduceLT, Nat.reduceAdd]; done) | ((fail_if_success (apply Bool.eq_iff_iff.2)); first | omega | (simp only [yD2, beq_self_eq_true, Nat.reduceLT, Nat.reduceAdd] <;> omega)) | fail)) only [↓yS, yT, ↓reduceIte, Nat.reduceEqDiff, Nat.reduceAdd, Nat.reduceMul, reduceCtorEq, Int.reduceToNat, g31, hsl.len]; refine yC (k _ _ ?_); clear k K) | ((first | refine zU ?_ | refine zV ?_ | refine zW ?_); intro A B C D a b c d; simp only [↓yG, Nat.reduceEqDiff, ↓reduceIte, g31, hsl.len]; (first | refine zX (a ?_) | refine zY (b ?_) | refine zZ (fun hc => c ?_) (fun hc => d ?_)) <;> clear a b c d A B C D <;> try simp only [yL] at hc) | (refine yA ?_; intro A a; simp only [↓yG, Nat.reduceEqDiff, ↓reduceIte, g31, hsl.len]; refine yB (a ?_); clear a A) | (refine yD ?_; simp only [gresults, ↓yG, Nat.reduceEqDiff, ↓reduceIte, Option.bind_some, gld_1, gld_n, g31, hsl.len]; refine ⟨_, rfl, ?_⟩; simp only [gone]))
  refine GW_loop (fun k fr H1 => ∃ (j : Nat), k = l.length - j ∧ j ≤ l.length ∧ fr.get 3 = some (.string (strB (jn (l.take j)))) ∧ fr.get 6 = some (v) ∧ fr.get 7 = some (.int .i64 l.length) ∧ fr.get 8 = some (.int .i64 j) ∧ Same H H1) ?_ l.length ?_
  rotate_left
  · refine ⟨0, by omega, by omega, ?_⟩
    simp only [↓yG, Nat.reduceEqDiff, ↓reduceIte, Int.natCast_add, Int.cast_ofNat_Int, Int.natCast_zero, true_and, and_true, Option.some.injEq, Value.int.injEq]
    exact ⟨by first | trivial | exact congrArg Value.string hnil, Same.refl hw⟩
  rintro k fr H1 ⟨j, rfl, hj1, f3, f6, f7, f8, hS⟩ J hJ
  have hw1 := hS.wf
  have hlim1 := hw1.1
  by_cases hj2 : j < l.length
  · have et := (hv.later hw hS).rowN hj2
    have hjs := jn_snoc hj2
    have hb0 := hj j
    have hb1 := hj (j + 1)
    rw [hjs] at hb1
    generalize l[j]! = x at *
    have x0 : ((H1.add (some (.cells [.string ⟨#[]⟩, .int .i64 0] 0 true))).put H1.len (.cells (tkC x) 0 true)).rd H1.len 0 = some (.string (strB x.t)) := by rw [rd_put_same]; rfl
    have hS2 : Same H1 ((H1.add (some (.cells [.string ⟨#[]⟩, .int .i64 0] 0 true))).put H1.len (.cells (tkC x) 0 true)) := (Same.refl hw1).new _ _
    by_cases h0 : j = 0
    · rw [if_pos h0] at hjs hb1
      have hn0 : jn (l.take j) = [] := by rw [h0]; simp [jn, Go.Lib.join_nil]
      have hadd : ∀ e, gbin .add e (.string (strB (jn (l.take j)))) (.string (strB x.t)) = some (.string (strB (jn (l.take (j + 1))))) := fun e => by
        rw [gb_addB (by rw [hn0]; simp only [List.length_nil]; omega), hn0, List.nil_append, hjs]
      repeat' (first | (exfalso; omega) | refine zA ?_ | refine zB ?_ | refine zC ?_ | refine zD ?_ | refine zE ?_ | refine zF ?_ | refine zG ?_ | refine zH ?_ | refine zI ?_ | refine zJ ?_ | refine zK rfl ?_ | refine zL ?_ | refine zM ?_ | refine zN ?_ | refine zO ?_ | refine zP rfl ?_ | refine zQ ?_ | ((first | refine zR ?_ | refine zS ?_ | refine zT ?_ | skip); intro K k; simp (disch := (first | (simp only [yD2, beq_self_eq_true, Nat.reduceLT, Nat.reduceAdd]; done) | ((fail_if_success (apply Bool.eq_iff_iff.2)); first | omega | (simp only [yD2, beq_self_eq_true, Nat.reduceLT, Nat.reduceAdd] <;> omega)) | fail)) only [↓yS, yT, ↓reduceIte, Nat.reduceEqDiff, Nat.reduceAdd, Nat.reduceMul, reduceCtorEq, Int.reduceToNat, g31, f3, f6, f7, f8, KN, hsl.ia, et, x0, hadd]; refine yC (k _ _ ?_); clear k K) | ((first | refine zU ?_ | refine zV ?_ | refine zW ?_); intro A B C D a b c d; simp only [↓yG, Nat.reduceEqDiff, ↓reduceIte, g31, f3, f6, f7, f8, KN, hsl.ia, et, x0, hadd]; (first | refine zX (a ?_) | refine zY (b ?_) | refine zZ (fun hc => c ?_) (fun hc => d ?_)) <;> clear a b c d A B C D <;> try simp only [yL] at hc) | (refine yA ?_; intro A a; simp only [↓yG, Nat.reduceEqDiff, ↓reduceIte, g31, f3, f6, f7, f8, KN, hsl.ia, et, x0, hadd]; refine yB (a ?_); clear a A) | (refine yD ?_; simp only [gresults, ↓yG, Nat.reduceEqDiff, ↓reduceIte, Option.bind_some, gld_1, gld_n, g31, f3, f6, f7, f8, KN, hsl.ia, et, x0, hadd]; refine ⟨_, rfl, ?_⟩; simp only [gone]))
      refine hJ _ _ ⟨l.length - (j + 1), by omega, j + 1, rfl, by omega, ?_⟩
      simp only [↓yG, Nat.reduceEqDiff, ↓reduceIte, Int.natCast_add, Int.cast_ofNat_Int, Int.natCast_zero, true_and, and_true, Option.some.injEq, Value.int.injEq, f6, f7]
      exact hS.trans hS2
    · rw [if_neg h0] at hjs hb1
      simp only [List.length_append, List.length_cons] at hb1
      have hadd1 : ∀ e, gbin .add e (.string (strB (jn (l.take j)))) (.string ⟨#[32]⟩) = some (.string (strB (jn (l.take j) ++ [32]))) := fun e => gb_addB (e := e) (a := jn (l.take j)) (b := [32]) (by simp only [List.length_cons, List.length_nil]; omega)
      have hadd : ∀ e, gbin .add e (.string (strB (jn (l.take j) ++ [32]))) (.string (strB x.t)) = some (.string (strB (jn (l.take (j + 1))))) := fun e => by
        rw [gb_addB (by simp only [List.length_append, List.length_cons, List.length_nil]; omega), hjs]; simp
      repeat' (first | (exfalso; omega) | refine zA ?_ | refine zB ?_ | refine zC ?_ | refine zD ?_ | refine zE ?_ | refine zF ?_ | refine zG ?_ | refine zH ?_ | refine zI ?_ | refine zJ ?_ | refine zK rfl ?_ | refine zL ?_ | refine zM ?_ | refine zN ?_ | refine zO ?_ | refine zP rfl ?_ | refine zQ ?_ | ((first | refine zR ?_ | refine zS ?_ | refine zT ?_ | skip); intro K k; simp (disch := (first | (simp only [yD2, beq_self_eq_true, Nat.reduceLT, Nat.reduceAdd]; done) | ((fail_if_success (apply Bool.eq_iff_iff.2)); first | omega | (simp only [yD2, beq_self_eq_true, Nat.reduceLT, Nat.reduceAdd] <;> omega)) | fail)) only [↓yS, yT, ↓reduceIte, Nat.reduceEqDiff, Nat.reduceAdd, Nat.reduceMul, reduceCtorEq, Int.reduceToNat, g31, f3, f6, f7, f8, KN, hsl.ia, et, x0, hadd1, hadd]; refine yC (k _ _ ?_); clear k K) | ((first | refine zU ?_ | refine zV ?_ | refine zW ?_); intro A B C D a b c d; simp only [↓yG, Nat.reduceEqDiff, ↓reduceIte, g31, f3, f6, f7, f8, KN, hsl.ia, et, x0, hadd1, hadd]; (first | refine zX (a ?_) | refine zY (b ?_) | refine zZ (fun hc => c ?_) (fun hc => d ?_)) <;> clear a b c d A B C D <;> try simp only [yL] at hc) | (refine yA ?_; intro A a; simp only [↓yG, Nat.reduceEqDiff, ↓reduceIte, g31, f3, f6, f7, f8, KN, hsl.ia, et, x0, hadd1, hadd]; refine yB (a ?_); clear a A) | (refine yD ?_; simp only [gresults, ↓yG, Nat.reduceEqDiff, ↓reduceIte, Option.bind_some, gld_1, gld_n, g31, f3, f6, f7, f8, KN, hsl.ia, et, x0, hadd1, hadd]; refine ⟨_, rfl, ?_⟩; simp only [gone]))
      refine hJ _ _ ⟨l.length - (j + 1), by omega, j + 1, rfl, by omega, ?_⟩
      simp only [↓yG, Nat.reduceEqDiff, ↓reduceIte, Int.natCast_add, Int.cast_ofNat_Int, Int.natCast_zero, true_and, and_true, Option.some.injEq, Value.int.injEq, f6, f7]
      exact hS.trans hS2
  · obtain rfl : j = l.length := by omega
    rw [List.take_length] at f3
    repeat' (first | (exfalso; omega) | refine zA ?_ | refine zB ?_ | refine zC ?_ | refine zD ?_ | refine zE ?_ | refine zF ?_ | refine zG ?_ | refine zH ?_ | refine zI ?_ | refine zJ ?_ | refine zK rfl ?_ | refine zL ?_ | refine zM ?_ | refine zN ?_ | refine zO ?_ | refine zP rfl ?_ | refine zQ ?_ | ((first | refine zR ?_ | refine zS ?_ | refine zT ?_ | skip); intro K k; simp (disch := (first | (simp only [yD2, beq_self_eq_true, Nat.reduceLT, Nat.reduceAdd]; done) | ((fail_if_success (apply Bool.eq_iff_iff.2)); first | omega | (simp only [yD2, beq_self_eq_true, Nat.reduceLT, Nat.reduceAdd] <;> omega)) | fail)) only [↓yS, yT, ↓reduceIte, Nat.reduceEqDiff, Nat.reduceAdd, Nat.reduceMul, reduceCtorEq, Int.reduceToNat, g31, f3, f6, f7, f8]; refine yC (k _ _ ?_); clear k K) | ((first | refine zU ?_ | refine zV ?_ | refine zW ?_); intro A B C D a b c d; simp only [↓yG, Nat.reduceEqDiff, ↓reduceIte, g31, f3, f6, f7, f8]; (first | refine zX (a ?_) | refine zY (b ?_) | refine zZ (fun hc => c ?_) (fun hc => d ?_)) <;> clear a b c d A B C D <;> try simp only [yL] at hc) | (refine yA ?_; intro A a; simp only [↓yG, Nat.reduceEqDiff, ↓reduceIte, g31, f3, f6, f7, f8]; refine yB (a ?_); clear a A) | (refine yD ?_; simp only [gresults, ↓yG, Nat.reduceEqDiff, ↓reduceIte, Option.bind_some, gld_1, gld_n, g31, f3, f6, f7, f8]; refine ⟨_, rfl, ?_⟩; simp only [gone]))
    exact hPost _ _ ⟨rfl, hS⟩
theorem rRows_ok {H : GHeap} (hw : H.wf) {ev : Value} {p : Par} {E : List Int} (hp : PR H p) (hq0 : ShQ p.l) (hE : IR H ev E) (hEl : E.length ≤ 4611686018427387904) :
    ∃ r H', gev G 15 [parV p, ev] H = some (r, H') ∧ (∃ lv, r = .tuple #[lv, .int .i64 (costF p E).2] ∧ Same H H' ∧ ((costF p E).2 ≠ 0 → lv = .slice none 0 0) ∧
      ∀ c, costF p E = (c, 0) → ∃ k, E = natsI k ∧ Pth p.D 0 k c ∧ k.length ≤ p.r.toNat ∧ SRd H' lv (rowsF p.l 0 k)) := by
  refine gev_GW (f := 15) rfl fun Post hPost => ?_
  have hf := hp.kr.flat
  have hlim := hw.1
  have hb := par_cflat hf
  have hl := par_cells p
  have hS1 := (Same.refl hw).add (.cells (parC p) 0 true)
  have e0 := rdn_par (p := p) (Same.refl hS1.wf)
  simp only [frameOf, Nat.reduceAdd]
  repeat' (first | refine zA ?_ | refine zB ?_ | refine zC ?_ | refine zD ?_ | refine zE ?_ | refine zF ?_ | refine zG ?_ | refine zH ?_ | refine zI ?_ | refine zJ ?_ | refine zK rfl ?_ | refine zL ?_ | refine zM ?_ | refine zN ?_ | refine zO ?_ | refine zP rfl ?_ | refine zQ ?_ | ((first | refine zR ?_ | refine zS ?_ | refine zT ?_ | skip); intro K k; simp (disch := (first | (simp only [yD2, beq_self_eq_true, Nat.reduceLT, Nat.reduceAdd]; done) | ((fail_if_success (apply Bool.eq_iff_iff.2)); first | omega | (simp only [yD2, beq_self_eq_true, Nat.reduceLT, Nat.reduceAdd] <;> omega)) | fail)) only [↓yS, yT, ↓reduceIte, Nat.reduceEqDiff, Nat.reduceAdd, Nat.reduceMul, reduceCtorEq, Int.reduceToNat, g15, hb, hl, e0]; refine yC (k _ _ ?_); clear k K) | ((first | refine zU ?_ | refine zV ?_ | refine zW ?_); intro A B C D a b c d; simp only [↓yG, Nat.reduceEqDiff, ↓reduceIte, g15, hb, hl, e0]; (first | refine zX (a ?_) | refine zY (b ?_) | refine zZ (fun hc => c ?_) (fun hc => d ?_)) <;> clear a b c d A B C D <;> try simp only [yL] at hc) | (refine yA ?_; intro A a; simp only [↓yG, Nat.reduceEqDiff, ↓reduceIte, g15, hb, hl, e0]; refine yB (a ?_); clear a A) | (refine yD ?_; simp only [gresults, ↓yG, Nat.reduceEqDiff, ↓reduceIte, Option.bind_some, gld_1, gld_n, g15, hb, hl, e0]; refine ⟨_, rfl, ?_⟩; simp only [gone]))
  refine Gw_s fun K' hK' => G1_call (by simp only [gtarget, ↓GArg.ev, ↓evs, ↓Tr.get_set, Nat.reduceEqDiff, if_true, if_false, ↓reduceIte, Option.map_some]; rfl) (rCost_ok hS1.wf (hp.later hw hS1) hq0 (GArg1.same hE hw hS1) hEl) fun r1 H1 hq => hK' _ _ ?_
  obtain ⟨rfl, hS2⟩ := hq
  have htt : tv2 (costF p E) = .tuple #[.int .i64 (costF p E).1, .int .i64 (costF p E).2] := rfl
  have hcst : costF p E = ((costF p E).1, (costF p E).2) := rfl
  generalize hc1 : (costF p E).1 = c at *
  generalize hc2 : (costF p E).2 = e at *
  have hS := hS1.trans hS2
  have ep := fun {H'} (h : Same H1 H') => rd_par (p := p) (hS2.trans h)
  by_cases he : e = 0
  case neg =>
    have he' := eq_false he
    repeat' (first | (exfalso; omega) | refine zA ?_ | refine zB ?_ | refine zC ?_ | refine zD ?_ | refine zE ?_ | refine zF ?_ | refine zG ?_ | refine zH ?_ | refine zI ?_ | refine zJ ?_ | refine zK rfl ?_ | refine zL ?_ | refine zM ?_ | refine zN ?_ | refine zO ?_ | refine zP rfl ?_ | refine zQ ?_ | ((first | refine zR ?_ | refine zS ?_ | refine zT ?_ | skip); intro K k; simp (disch := (first | (simp only [yD2, beq_self_eq_true, Nat.reduceLT, Nat.reduceAdd]; done) | ((fail_if_success (apply Bool.eq_iff_iff.2)); first | omega | (simp only [yD2, beq_self_eq_true, Nat.reduceLT, Nat.reduceAdd] <;> omega)) | fail)) only [↓yS, yT, ↓reduceIte, Nat.reduceEqDiff, Nat.reduceAdd, Nat.reduceMul, reduceCtorEq, Int.reduceToNat, g15, htt, he']; refine yC (k _ _ ?_); clear k K) | ((first | refine zU ?_ | refine zV ?_ | refine zW ?_); intro A B C D a b c d; simp only [↓yG, Nat.reduceEqDiff, ↓reduceIte, g15, htt, he']; (first | refine zX (a ?_) | refine zY (b ?_) | refine zZ (fun hc => c ?_) (fun hc => d ?_)) <;> clear a b c d A B C D <;> try simp only [yL] at hc) | (refine yA ?_; intro A a; simp only [↓yG, Nat.reduceEqDiff, ↓reduceIte, g15, htt, he']; refine yB (a ?_); clear a A) | (refine yD ?_; simp only [gresults, ↓yG, Nat.reduceEqDiff, ↓reduceIte, Option.bind_some, gld_1, gld_n, g15, htt, he']; refine ⟨_, rfl, ?_⟩; simp only [gone]))
    refine hPost _ _ ⟨_, rfl, hS, fun _ => rfl, fun c' h => ?_⟩
    rw [hcst] at h
    exact absurd (Prod.mk.inj h).2 he
  subst he
  obtain ⟨h0, ks, rfl, hpth, hkl⟩ := costF_pth hcst
  have hk : PK H p := ⟨hp, h0⟩
  have hn := hk.n
  have hsl := hE.isSl
  have hln : (natsI ks).length = ks.length := by simp [natsI]
  rw [hln] at hsl
  have hr4 := (parF_ok h0).2.2.2.2.2.1
  have hgo := (tkF_go (parF_ok h0).1)
  repeat' (first | (exfalso; omega) | refine zA ?_ | refine zB ?_ | refine zC ?_ | refine zD ?_ | refine zE ?_ | refine zF ?_ | refine zG ?_ | refine zH ?_ | refine zI ?_ | refine zJ ?_ | refine zK rfl ?_ | refine zL ?_ | refine zM ?_ | refine zN ?_ | refine zO ?_ | refine zP rfl ?_ | refine zQ ?_ | ((first | refine zR ?_ | refine zS ?_ | refine zT ?_ | skip); intro K k; simp (disch := (first | (simp only [yD2, beq_self_eq_true, Nat.reduceLT, Nat.reduceAdd]; done) | ((fail_if_success (apply Bool.eq_iff_iff.2)); first | omega | (simp only [yD2, beq_self_eq_true, Nat.reduceLT, Nat.reduceAdd] <;> omega)) | fail)) only [↓yS, yT, ↓reduceIte, Nat.reduceEqDiff, Nat.reduceAdd, Nat.reduceMul, reduceCtorEq, Int.reduceToNat, g15, htt, hsl.len]; refine yC (k _ _ ?_); clear k K) | ((first | refine zU ?_ | refine zV ?_ | refine zW ?_); intro A B C D a b c d; simp only [↓yG, Nat.reduceEqDiff, ↓reduceIte, g15, htt, hsl.len]; (first | refine zX (a ?_) | refine zY (b ?_) | refine zZ (fun hc => c ?_) (fun hc => d ?_)) <;> clear a b c d A B C D <;> try simp only [yL] at hc) | (refine yA ?_; intro A a; simp only [↓yG, Nat.reduceEqDiff, ↓reduceIte, g15, htt, hsl.len]; refine yB (a ?_); clear a A) | (refine yD ?_; simp only [gresults, ↓yG, Nat.reduceEqDiff, ↓reduceIte, Option.bind_some, gld_1, gld_n, g15, htt, hsl.len]; refine ⟨_, rfl, ?_⟩; simp only [gone]))
  refine GW_loop (fun q fr H2 => ∃ (j f : Nat) (c' : Int) (A : List (List UInt8)) (lv : Value), q = ks.length - j ∧ j ≤ ks.length ∧ fr.get 2 = some (.pointer (some ⟨H.len, 0, none⟩)) ∧ fr.get 8 = some (lv) ∧ fr.get 9 = some (.int .i64 f) ∧ fr.get 22 = some (ev) ∧ fr.get 23 = some (.int .i64 ks.length) ∧ fr.get 24 = some (.int .i64 j) ∧ OS 1 1 H1 H2 lv A.length (strs A) ∧ Pth p.D f (ks.drop j) c' ∧ A ++ rowsF p.l f (ks.drop j) = rowsF p.l 0 ks) ?_ ks.length ?_
  rotate_left
  · refine ⟨0, 0, c, [], .slice (some ⟨H1.len, 0, none⟩) 0 (0 + 1), by omega, by omega, ?_⟩
    simp only [↓yG, Nat.reduceEqDiff, ↓reduceIte, Int.natCast_add, Int.cast_ofNat_Int, Int.natCast_zero, true_and, and_true, Option.some.injEq, Value.int.injEq]
    exact ⟨OS.made' (Same.refl hS2.wf) rfl, hpth, rfl⟩
  rintro q fr H2 ⟨j, f, c', A, lv, rfl, hj, f2, f8, f9, f22, f23, f24, hO, hpj, hA⟩ J hJ
  have hS12 := hO.same
  have hSH := hS.trans hS12
  by_cases hj1 : j < ks.length
  case neg =>
    obtain rfl : j = ks.length := by omega
    rw [List.drop_length, rowsF, List.append_nil] at hA
    repeat' (first | (exfalso; omega) | refine zA ?_ | refine zB ?_ | refine zC ?_ | refine zD ?_ | refine zE ?_ | refine zF ?_ | refine zG ?_ | refine zH ?_ | refine zI ?_ | refine zJ ?_ | refine zK rfl ?_ | refine zL ?_ | refine zM ?_ | refine zN ?_ | refine zO ?_ | refine zP rfl ?_ | refine zQ ?_ | ((first | refine zR ?_ | refine zS ?_ | refine zT ?_ | skip); intro K k; simp (disch := (first | (simp only [yD2, beq_self_eq_true, Nat.reduceLT, Nat.reduceAdd]; done) | ((fail_if_success (apply Bool.eq_iff_iff.2)); first | omega | (simp only [yD2, beq_self_eq_true, Nat.reduceLT, Nat.reduceAdd] <;> omega)) | fail)) only [↓yS, yT, ↓reduceIte, Nat.reduceEqDiff, Nat.reduceAdd, Nat.reduceMul, reduceCtorEq, Int.reduceToNat, g15, f2, f8, f9, f22, f23, f24]; refine yC (k _ _ ?_); clear k K) | ((first | refine zU ?_ | refine zV ?_ | refine zW ?_); intro A B C D a b c d; simp only [↓yG, Nat.reduceEqDiff, ↓reduceIte, g15, f2, f8, f9, f22, f23, f24]; (first | refine zX (a ?_) | refine zY (b ?_) | refine zZ (fun hc => c ?_) (fun hc => d ?_)) <;> clear a b c d A B C D <;> try simp only [yL] at hc) | (refine yA ?_; intro A a; simp only [↓yG, Nat.reduceEqDiff, ↓reduceIte, g15, f2, f8, f9, f22, f23, f24]; refine yB (a ?_); clear a A) | (refine yD ?_; simp only [gresults, ↓yG, Nat.reduceEqDiff, ↓reduceIte, Option.bind_some, gld_1, gld_n, g15, f2, f8, f9, f22, f23, f24]; refine ⟨_, rfl, ?_⟩; simp only [gone]))
    refine hPost _ _ ⟨_, rfl, hSH, fun h => absurd rfl h, fun c2 h => ⟨ks, rfl, ?_, hkl, ?_⟩⟩
    · rw [hcst] at h
      obtain ⟨rfl, _⟩ := Prod.mk.inj h
      exact hpth
    · rw [← hA]
      exact OwnG.arg hO.same.wf hO.own (.inr rfl)
  have ee : H2.rd (blk ev) (ofs ev + j) = some (.int .i64 (ks[j]! : Nat)) := by
    have h1 := (GArg1.same hE hw hSH)
    have h2 := IR.at_ h1 (j := j) (by omega)
    rw [h2, getElem!_pos (natsI ks) j (by omega), getElem!_pos ks j hj1]
    simp [natsI]
  have hdr : ks.drop j = ks[j]! :: ks.drop (j + 1) := by rw [List.drop_eq_getElem_cons hj1, getElem!_pos ks j hj1]
  rw [hdr] at hpj hA
  generalize ks[j]! = y at *
  rw [rowsF] at hA
  generalize hcd : c' = c'' at hpj
  cases hpj with
  | cons hok hpj2 =>
    rename_i c3
    have hD : p.D.n = p.l.length := rfl
    have hyn : y ≤ p.l.length := hok.2.1
    have hfy := hok.1
    obtain ⟨v', hcut, hkv⟩ := hp.kr.seg hw (a := f) (b := y) (by omega) hyn
    have hjn := seg_jn hok h0
    have hsgl := seg_len (l := p.l) (a := f) hyn
    have hne : seg p.l f y ≠ [] := fun e => by rw [e] at hsgl; simp at hsgl; omega
    have hcut2 := hcut _ hSH
    have ep2 := fun o => ep hS12 o
    have hw2 := hSH.wf
    repeat' (first | (exfalso; omega) | refine zA ?_ | refine zB ?_ | refine zC ?_ | refine zD ?_ | refine zE ?_ | refine zF ?_ | refine zG ?_ | refine zH ?_ | refine zI ?_ | refine zJ ?_ | refine zK rfl ?_ | refine zL ?_ | refine zM ?_ | refine zN ?_ | refine zO ?_ | refine zP rfl ?_ | refine zQ ?_ | ((first | refine zR ?_ | refine zS ?_ | refine zT ?_ | skip); intro K k; simp (disch := (first | (simp only [yD2, beq_self_eq_true, Nat.reduceLT, Nat.reduceAdd]; done) | ((fail_if_success (apply Bool.eq_iff_iff.2)); first | omega | (simp only [yD2, beq_self_eq_true, Nat.reduceLT, Nat.reduceAdd] <;> omega)) | fail)) only [↓yS, yT, ↓reduceIte, Nat.reduceEqDiff, Nat.reduceAdd, Nat.reduceMul, reduceCtorEq, Int.reduceToNat, g15, f2, f8, f9, f22, f23, f24, hsl.ia, ee, ep2, parC_0, hcut2]; refine yC (k _ _ ?_); clear k K) | ((first | refine zU ?_ | refine zV ?_ | refine zW ?_); intro A B C D a b c d; simp only [↓yG, Nat.reduceEqDiff, ↓reduceIte, g15, f2, f8, f9, f22, f23, f24, hsl.ia, ee, ep2, parC_0, hcut2]; (first | refine zX (a ?_) | refine zY (b ?_) | refine zZ (fun hc => c ?_) (fun hc => d ?_)) <;> clear a b c d A B C D <;> try simp only [yL] at hc) | (refine yA ?_; intro A a; simp only [↓yG, Nat.reduceEqDiff, ↓reduceIte, g15, f2, f8, f9, f22, f23, f24, hsl.ia, ee, ep2, parC_0, hcut2]; refine yB (a ?_); clear a A) | (refine yD ?_; simp only [gresults, ↓yG, Nat.reduceEqDiff, ↓reduceIte, Option.bind_some, gld_1, gld_n, g15, f2, f8, f9, f22, f23, f24, hsl.ia, ee, ep2, parC_0, hcut2]; refine ⟨_, rfl, ?_⟩; simp only [gone]))
    refine Gw_s fun K' hK' => G1_call (by simp only [gtarget, ↓GArg.ev, ↓evs, ↓Tr.get_set, Nat.reduceEqDiff, if_true, if_false, ↓reduceIte, Option.map_some, f2, f8, f9, f22, f23, f24]; rfl) (rtjoin_ok hw2 (hkv.later hw hSH) (by omega) (seg_jnk hok h0)) fun r4 H4 hq => hK' _ _ ?_
    obtain ⟨rfl, hS4⟩ := hq
    generalize hrow : jn (seg p.l f y) = row at *
    have hz1 : zeros [.string ⟨#[]⟩] 1 = [.string ⟨#[]⟩] := rfl
    have hset1 : ([.string ⟨#[]⟩] : List Value).set 0 (.string (strB row)) = [.string (strB row)] := rfl
    have hAl : A.length ≤ 4 := by
      have := congrArg List.length hA
      simp only [List.length_append, List.length_cons, rowsF_len] at this
      omega
    have hO4 := hO.later hS4
    have hfil : ∀ z : List Value, z.length = 1 → fillL z [(0, 1, .string (strB row))] = some [.string (strB row)] := fun z hz => fillL_1 hz rfl
    have hfil1 := hfil _ (show (zeros [.string ⟨#[]⟩] 1).length = 1 from rfl)
    repeat' (first | (exfalso; omega) | refine zA ?_ | refine zB ?_ | refine zC ?_ | refine zD ?_ | refine zE ?_ | refine zF ?_ | refine zG ?_ | refine zH ?_ | refine zI ?_ | refine zJ ?_ | refine zK rfl ?_ | refine zL ?_ | refine zM ?_ | refine zN ?_ | refine zO ?_ | refine zP rfl ?_ | refine zQ ?_ | ((first | refine zR ?_ | refine zS ?_ | refine zT ?_ | skip); intro K k; simp (disch := (first | (simp only [yD2, beq_self_eq_true, Nat.reduceLT, Nat.reduceAdd]; done) | ((fail_if_success (apply Bool.eq_iff_iff.2)); first | omega | (simp only [yD2, beq_self_eq_true, Nat.reduceLT, Nat.reduceAdd] <;> omega)) | fail)) only [↓yS, yT, ↓reduceIte, Nat.reduceEqDiff, Nat.reduceAdd, Nat.reduceMul, reduceCtorEq, Int.reduceToNat, g15, f2, f8, f9, f22, f23, f24, hfil1]; refine yC (k _ _ ?_); clear k K) | ((first | refine zU ?_ | refine zV ?_ | refine zW ?_); intro A B C D a b c d; simp only [↓yG, Nat.reduceEqDiff, ↓reduceIte, g15, f2, f8, f9, f22, f23, f24, hfil1]; (first | refine zX (a ?_) | refine zY (b ?_) | refine zZ (fun hc => c ?_) (fun hc => d ?_)) <;> clear a b c d A B C D <;> try simp only [yL] at hc) | (refine yA ?_; intro A a; simp only [↓yG, Nat.reduceEqDiff, ↓reduceIte, g15, f2, f8, f9, f22, f23, f24, hfil1]; refine yB (a ?_); clear a A) | (refine yD ?_; simp only [gresults, ↓yG, Nat.reduceEqDiff, ↓reduceIte, Option.bind_some, gld_1, gld_n, g15, f2, f8, f9, f22, f23, f24, hfil1]; refine ⟨_, rfl, ?_⟩; simp only [gone]))
    refine Gw_s fun K' hK' => ?_
    simp (disch := (first | (simp only [yD2, beq_self_eq_true, Nat.reduceLT, Nat.reduceAdd]; done) | ((fail_if_success (apply Bool.eq_iff_iff.2)); first | omega | (simp only [yD2, beq_self_eq_true, Nat.reduceLT, Nat.reduceAdd] <;> omega)) | fail)) only [↓yS, yT, ↓reduceIte, Nat.reduceEqDiff, Nat.reduceAdd, Nat.reduceMul, reduceCtorEq, Int.reduceToNat, f2, f8, f9, f22, f23, f24, hfil1, hset1]
    obtain ⟨lv', H5, e, hO5, hB⟩ := hO4.app1 (b := 16) (by decide) (by decide) (news := [.string (strB row)]) rfl (by omega) (by omega)
    refine G1_eq e (hK' _ _ ?_)
    clear hK' K' e
    repeat' (first | (exfalso; omega) | refine zA ?_ | refine zB ?_ | refine zC ?_ | refine zD ?_ | refine zE ?_ | refine zF ?_ | refine zG ?_ | refine zH ?_ | refine zI ?_ | refine zJ ?_ | refine zK rfl ?_ | refine zL ?_ | refine zM ?_ | refine zN ?_ | refine zO ?_ | refine zP rfl ?_ | refine zQ ?_ | ((first | refine zR ?_ | refine zS ?_ | refine zT ?_ | skip); intro K k; simp (disch := (first | (simp only [yD2, beq_self_eq_true, Nat.reduceLT, Nat.reduceAdd]; done) | ((fail_if_success (apply Bool.eq_iff_iff.2)); first | omega | (simp only [yD2, beq_self_eq_true, Nat.reduceLT, Nat.reduceAdd] <;> omega)) | fail)) only [↓yS, yT, ↓reduceIte, Nat.reduceEqDiff, Nat.reduceAdd, Nat.reduceMul, reduceCtorEq, Int.reduceToNat, g15, f2, f8, f9, f22, f23, f24]; refine yC (k _ _ ?_); clear k K) | ((first | refine zU ?_ | refine zV ?_ | refine zW ?_); intro A B C D a b c d; simp only [↓yG, Nat.reduceEqDiff, ↓reduceIte, g15, f2, f8, f9, f22, f23, f24]; (first | refine zX (a ?_) | refine zY (b ?_) | refine zZ (fun hc => c ?_) (fun hc => d ?_)) <;> clear a b c d A B C D <;> try simp only [yL] at hc) | (refine yA ?_; intro A a; simp only [↓yG, Nat.reduceEqDiff, ↓reduceIte, g15, f2, f8, f9, f22, f23, f24]; refine yB (a ?_); clear a A) | (refine yD ?_; simp only [gresults, ↓yG, Nat.reduceEqDiff, ↓reduceIte, Option.bind_some, gld_1, gld_n, g15, f2, f8, f9, f22, f23, f24]; refine ⟨_, rfl, ?_⟩; simp only [gone]))
    refine hJ _ _ ⟨ks.length - (j + 1), by omega, j + 1, y, c3, A ++ [row], lv', rfl, by omega, ?_⟩
    simp only [↓yG, Nat.reduceEqDiff, ↓reduceIte, Int.natCast_add, Int.cast_ofNat_Int, Int.natCast_zero, true_and, and_true, Option.some.injEq, Value.int.injEq, f2, f22, f23]
    refine ⟨?_, hpj2, by rw [List.append_assoc]; exact hA⟩
    rw [List.length_append]
    have : strs (A ++ [row]) = strs A ++ [.string (strB row)] := by simp [strs]
    rw [this]; exact hO5
/-! ### slices.Equal -/
theorem eqs_ok {H : GHeap} {v w : Value} {A B : List (List UInt8)} (hv : SRd H v A) (hw : SRd H w B) (hA : A.length ≤ 4611686018427387904) (hB : B.length ≤ 4611686018427387904) :
    ∃ r H', gev G 16 [v, w] H = some (r, H') ∧ (r = .bool (decide (A = B)) ∧ H' = H) := by
  refine gev_GW (f := 16) rfl fun Post hPost => ?_
  have hsl := hv.rd.isSl
  have hsl2 := hw.rd.isSl
  have hat : ∀ {v : Value} {A : List (List UInt8)}, SRd H v A → ∀ j, j < A.length → H.rd (blk v) (ofs v + j) = some (.string (strB A[j]!)) := fun {v A} h j hj => by
    rw [h.rd.rd (by simp [strs]; exact hj)]
    simp only [strs, List.getElem?_map]
    rw [gget hj]; rfl
  simp only [frameOf, Nat.reduceAdd]
  by_cases hl : A.length = B.length
  case neg =>
    have hne : A ≠ B := fun e => hl (by rw [e])
    rw [decide_eq_false hne] at hPost
    repeat' (first | (exfalso; omega) | refine zA ?_ | refine zB ?_ | refine zC ?_ | refine zD ?_ | refine zE ?_ | refine zF ?_ | refine zG ?_ | refine zH ?_ | refine zI ?_ | refine zJ ?_ | refine zK rfl ?_ | refine zL ?_ | refine zM ?_ | refine zN ?_ | refine zO ?_ | refine zP rfl ?_ | refine zQ ?_ | ((first | refine zR ?_ | refine zS ?_ | refine zT ?_ | skip); intro K k; simp (disch := (first | (simp only [yD2, beq_self_eq_true, Nat.reduceLT, Nat.reduceAdd]; done) | ((fail_if_success (apply Bool.eq_iff_iff.2)); first | omega | (simp only [yD2, beq_self_eq_true, Nat.reduceLT, Nat.reduceAdd] <;> omega)) | fail)) only [↓yS, yT, ↓reduceIte, Nat.reduceEqDiff, Nat.reduceAdd, Nat.reduceMul, reduceCtorEq, Int.reduceToNat, g16, hsl.len, hsl2.len]; refine yC (k _ _ ?_); clear k K) | ((first | refine zU ?_ | refine zV ?_ | refine zW ?_); intro A B C D a b c d; simp only [↓yG, Nat.reduceEqDiff, ↓reduceIte, g16, hsl.len, hsl2.len]; (first | refine zX (a ?_) | refine zY (b ?_) | refine zZ (fun hc => c ?_) (fun hc => d ?_)) <;> clear a b c d A B C D <;> try simp only [yL] at hc) | (refine yA ?_; intro A a; simp only [↓yG, Nat.reduceEqDiff, ↓reduceIte, g16, hsl.len, hsl2.len]; refine yB (a ?_); clear a A) | (refine yD ?_; simp only [gresults, ↓yG, Nat.reduceEqDiff, ↓reduceIte, Option.bind_some, gld_1, gld_n, g16, hsl.len, hsl2.len]; refine ⟨_, rfl, ?_⟩; simp only [gone]))
    exact hPost _ _ ⟨rfl, rfl⟩
  repeat' (first | (exfalso; omega) | refine zA ?_ | refine zB ?_ | refine zC ?_ | refine zD ?_ | refine zE ?_ | refine zF ?_ | refine zG ?_ | refine zH ?_ | refine zI ?_ | refine zJ ?_ | refine zK rfl ?_ | refine zL ?_ | refine zM ?_ | refine zN ?_ | refine zO ?_ | refine zP rfl ?_ | refine zQ ?_ | ((first | refine zR ?_ | refine zS ?_ | refine zT ?_ | skip); intro K k; simp (disch := (first | (simp only [yD2, beq_self_eq_true, Nat.reduceLT, Nat.reduceAdd]; done) | ((fail_if_success (apply Bool.eq_iff_iff.2)); first | omega | (simp only [yD2, beq_self_eq_true, Nat.reduceLT, Nat.reduceAdd] <;> omega)) | fail)) only [↓yS, yT, ↓reduceIte, Nat.reduceEqDiff, Nat.reduceAdd, Nat.reduceMul, reduceCtorEq, Int.reduceToNat, g16, hsl.len, hsl2.len]; refine yC (k _ _ ?_); clear k K) | ((first | refine zU ?_ | refine zV ?_ | refine zW ?_); intro A B C D a b c d; simp only [↓yG, Nat.reduceEqDiff, ↓reduceIte, g16, hsl.len, hsl2.len]; (first | refine zX (a ?_) | refine zY (b ?_) | refine zZ (fun hc => c ?_) (fun hc => d ?_)) <;> clear a b c d A B C D <;> try simp only [yL] at hc) | (refine yA ?_; intro A a; simp only [↓yG, Nat.reduceEqDiff, ↓reduceIte, g16, hsl.len, hsl2.len]; refine yB (a ?_); clear a A) | (refine yD ?_; simp only [gresults, ↓yG, Nat.reduceEqDiff, ↓reduceIte, Option.bind_some, gld_1, gld_n, g16, hsl.len, hsl2.len]; refine ⟨_, rfl, ?_⟩; simp only [gone]))
  refine GW_loop (fun k fr H1 => ∃ (j : Nat), k = A.length - j ∧ j ≤ A.length ∧ fr.get 0 = some (v) ∧ fr.get 1 = some (w) ∧ fr.get 12 = some (.int .i64 A.length) ∧ fr.get 13 = some (.int .i64 j) ∧ H1 = H ∧ decide (A = B) = decide (A.drop j = B.drop j)) ?_ A.length ?_
  rotate_left
  · refine ⟨0, by omega, by omega, ?_⟩
    simp only [↓yG, Nat.reduceEqDiff, ↓reduceIte, Int.natCast_add, Int.cast_ofNat_Int, Int.natCast_zero, true_and, and_true, Option.some.injEq, Value.int.injEq]
    first | exact ⟨rfl, rfl⟩ | rfl | (simp; done)
  rintro k fr H1 ⟨j, rfl, hj, f0, f1, f12, f13, rfl, hd⟩ J hJ
  by_cases hj1 : j < A.length
  · have e1 := hat hv j hj1
    have e2 := hat hw j (by omega)
    have d1 : A.drop j = A[j]! :: A.drop (j + 1) := by rw [List.drop_eq_getElem_cons hj1, getElem!_pos A j hj1]
    have d2 : B.drop j = B[j]! :: B.drop (j + 1) := by rw [List.drop_eq_getElem_cons (by omega), getElem!_pos B j (by omega)]
    rw [d1, d2] at hd
    by_cases hx : A[j]! = B[j]!
    · have hx' := eq_true hx
      have hd2 : decide (A = B) = decide (A.drop (j + 1) = B.drop (j + 1)) := by rw [hd, hx]; simp
      repeat' (first | (exfalso; omega) | refine zA ?_ | refine zB ?_ | refine zC ?_ | refine zD ?_ | refine zE ?_ | refine zF ?_ | refine zG ?_ | refine zH ?_ | refine zI ?_ | refine zJ ?_ | refine zK rfl ?_ | refine zL ?_ | refine zM ?_ | refine zN ?_ | refine zO ?_ | refine zP rfl ?_ | refine zQ ?_ | ((first | refine zR ?_ | refine zS ?_ | refine zT ?_ | skip); intro K k; simp (disch := (first | (simp only [yD2, beq_self_eq_true, Nat.reduceLT, Nat.reduceAdd]; done) | ((fail_if_success (apply Bool.eq_iff_iff.2)); first | omega | (simp only [yD2, beq_self_eq_true, Nat.reduceLT, Nat.reduceAdd] <;> omega)) | fail)) only [↓yS, yT, ↓reduceIte, Nat.reduceEqDiff, Nat.reduceAdd, Nat.reduceMul, reduceCtorEq, Int.reduceToNat, g16, f0, f1, f12, f13, hsl.ia, hsl2.ia, e1, e2, hx']; refine yC (k _ _ ?_); clear k K) | ((first | refine zU ?_ | refine zV ?_ | refine zW ?_); intro A B C D a b c d; simp only [↓yG, Nat.reduceEqDiff, ↓reduceIte, g16, f0, f1, f12, f13, hsl.ia, hsl2.ia, e1, e2, hx']; (first | refine zX (a ?_) | refine zY (b ?_) | refine zZ (fun hc => c ?_) (fun hc => d ?_)) <;> clear a b c d A B C D <;> try simp only [yL] at hc) | (refine yA ?_; intro A a; simp only [↓yG, Nat.reduceEqDiff, ↓reduceIte, g16, f0, f1, f12, f13, hsl.ia, hsl2.ia, e1, e2, hx']; refine yB (a ?_); clear a A) | (refine yD ?_; simp only [gresults, ↓yG, Nat.reduceEqDiff, ↓reduceIte, Option.bind_some, gld_1, gld_n, g16, f0, f1, f12, f13, hsl.ia, hsl2.ia, e1, e2, hx']; refine ⟨_, rfl, ?_⟩; simp only [gone]))
      refine hJ _ _ ⟨A.length - (j + 1), by omega, j + 1, rfl, by omega, ?_⟩
      simp only [↓yG, Nat.reduceEqDiff, ↓reduceIte, Int.natCast_add, Int.cast_ofNat_Int, Int.natCast_zero, true_and, and_true, Option.some.injEq, Value.int.injEq, f0, f1, f12]
      first | exact ⟨rfl, hd2⟩ | exact hd2
    · have hx' := eq_false hx
      have hne : decide (A = B) = false := by rw [hd]; exact decide_eq_false fun h => hx (List.cons.inj h).1
      rw [hne] at hPost
      repeat' (first | (exfalso; omega) | refine zA ?_ | refine zB ?_ | refine zC ?_ | refine zD ?_ | refine zE ?_ | refine zF ?_ | refine zG ?_ | refine zH ?_ | refine zI ?_ | refine zJ ?_ | refine zK rfl ?_ | refine zL ?_ | refine zM ?_ | refine zN ?_ | refine zO ?_ | refine zP rfl ?_ | refine zQ ?_ | ((first | refine zR ?_ | refine zS ?_ | refine zT ?_ | skip); intro K k; simp (disch := (first | (simp only [yD2, beq_self_eq_true, Nat.reduceLT, Nat.reduceAdd]; done) | ((fail_if_success (apply Bool.eq_iff_iff.2)); first | omega | (simp only [yD2, beq_self_eq_true, Nat.reduceLT, Nat.reduceAdd] <;> omega)) | fail)) only [↓yS, yT, ↓reduceIte, Nat.reduceEqDiff, Nat.reduceAdd, Nat.reduceMul, reduceCtorEq, Int.reduceToNat, g16, f0, f1, f12, f13, hsl.ia, hsl2.ia, e1, e2, hx']; refine yC (k _ _ ?_); clear k K) | ((first | refine zU ?_ | refine zV ?_ | refine zW ?_); intro A B C D a b c d; simp only [↓yG, Nat.reduceEqDiff, ↓reduceIte, g16, f0, f1, f12, f13, hsl.ia, hsl2.ia, e1, e2, hx']; (first | refine zX (a ?_) | refine zY (b ?_) | refine zZ (fun hc => c ?_) (fun hc => d ?_)) <;> clear a b c d A B C D <;> try simp only [yL] at hc) | (refine yA ?_; intro A a; simp only [↓yG, Nat.reduceEqDiff, ↓reduceIte, g16, f0, f1, f12, f13, hsl.ia, hsl2.ia, e1, e2, hx']; refine yB (a ?_); clear a A) | (refine yD ?_; simp only [gresults, ↓yG, Nat.reduceEqDiff, ↓reduceIte, Option.bind_some, gld_1, gld_n, g16, f0, f1, f12, f13, hsl.ia, hsl2.ia, e1, e2, hx']; refine ⟨_, rfl, ?_⟩; simp only [gone]))
      exact hPost _ _ ⟨rfl, rfl⟩
  · obtain rfl : j = A.length := by omega
    have hy : decide (A = B) = true := by rw [hd, List.drop_length, hl, List.drop_length]; simp
    rw [hy] at hPost
    repeat' (first | (exfalso; omega) | refine zA ?_ | refine zB ?_ | refine zC ?_ | refine zD ?_ | refine zE ?_ | refine zF ?_ | refine zG ?_ | refine zH ?_ | refine zI ?_ | refine zJ ?_ | refine zK rfl ?_ | refine zL ?_ | refine zM ?_ | refine zN ?_ | refine zO ?_ | refine zP rfl ?_ | refine zQ ?_ | ((first | refine zR ?_ | refine zS ?_ | refine zT ?_ | skip); intro K k; simp (disch := (first | (simp only [yD2, beq_self_eq_true, Nat.reduceLT, Nat.reduceAdd]; done) | ((fail_if_success (apply Bool.eq_iff_iff.2)); first | omega | (simp only [yD2, beq_self_eq_true, Nat.reduceLT, Nat.reduceAdd] <;> omega)) | fail)) only [↓yS, yT, ↓reduceIte, Nat.reduceEqDiff, Nat.reduceAdd, Nat.reduceMul, reduceCtorEq, Int.reduceToNat, g16, f0, f1, f12, f13]; refine yC (k _ _ ?_); clear k K) | ((first | refine zU ?_ | refine zV ?_ | refine zW ?_); intro A B C D a b c d; simp only [↓yG, Nat.reduceEqDiff, ↓reduceIte, g16, f0, f1, f12, f13]; (first | refine zX (a ?_) | refine zY (b ?_) | refine zZ (fun hc => c ?_) (fun hc => d ?_)) <;> clear a b c d A B C D <;> try simp only [yL] at hc) | (refine yA ?_; intro A a; simp only [↓yG, Nat.reduceEqDiff, ↓reduceIte, g16, f0, f1, f12, f13]; refine yB (a ?_); clear a A) | (refine yD ?_; simp only [gresults, ↓yG, Nat.reduceEqDiff, ↓reduceIte, Option.bind_some, gld_1, gld_n, g16, f0, f1, f12, f13]; refine ⟨_, rfl, ?_⟩; simp only [gone]))
    exact hPost _ _ ⟨rfl, rfl⟩
/-! ### the law Costs -/
theorem PR.up {H : GHeap} {p : Par} (h : PR H p) : PR H.up p := ⟨⟨h.kr.rd, h.kr.sl⟩, h.sh, h.le, h.ww, h.rr⟩
theorem costs_ok {H : GHeap} (hw : H.wf) {p : Par} (hp : PR H p) (hsq : ShQ p.l) {ev : Value} {E : List Int} (hE : IR H ev E) (hEl : E.length ≤ 4611686018427387904) : ∃ r H', gev G 3 [parV p, ev] H = some (r, H') ∧ r = .bool true := by
  refine gev_GW (f := 3) rfl fun Post hPost => ?_
  have hP : ∀ H', Post (.bool true) H' := fun H' => hPost _ _ rfl
  have hf := hp.kr.flat
  have hlim := hw.1
  have hb := par_cflat hf
  have hl := par_cells p
  have hS1 := (Same.refl hw).add (.cells (parC p) 0 true)
  have e0 := rdn_par (p := p) (Same.refl hS1.wf)
  have hm0 : (H.add (some (.cells (parC p) 0 true))).mine H.len = some (parC p, 0) := mine_add_eq rfl hlim
  simp only [frameOf, Nat.reduceAdd]
  repeat' (first | refine zA ?_ | refine zB ?_ | refine zC ?_ | refine zD ?_ | refine zE ?_ | refine zF ?_ | refine zG ?_ | refine zH ?_ | refine zI ?_ | refine zJ ?_ | refine zK rfl ?_ | refine zL ?_ | refine zM ?_ | refine zN ?_ | refine zO ?_ | refine zP rfl ?_ | refine zQ ?_ | ((first | refine zR ?_ | refine zS ?_ | refine zT ?_ | skip); intro K k; simp (disch := (first | (simp only [yD2, beq_self_eq_true, Nat.reduceLT, Nat.reduceAdd]; done) | ((fail_if_success (apply Bool.eq_iff_iff.2)); first | omega | (simp only [yD2, beq_self_eq_true, Nat.reduceLT, Nat.reduceAdd] <;> omega)) | fail)) only [↓yS, yT, ↓reduceIte, Nat.reduceEqDiff, Nat.reduceAdd, Nat.reduceMul, reduceCtorEq, Int.reduceToNat, g3, hb, hl]; refine yC (k _ _ ?_); clear k K) | ((first | refine zU ?_ | refine zV ?_ | refine zW ?_); intro A B C D a b c d; simp only [↓yG, Nat.reduceEqDiff, ↓reduceIte, g3, hb, hl]; (first | refine zX (a ?_) | refine zY (b ?_) | refine zZ (fun hc => c ?_) (fun hc => d ?_)) <;> clear a b c d A B C D <;> try simp only [yL] at hc) | (refine yA ?_; intro A a; simp only [↓yG, Nat.reduceEqDiff, ↓reduceIte, g3, hb, hl]; refine yB (a ?_); clear a A) | (refine yD ?_; simp only [gresults, ↓yG, Nat.reduceEqDiff, ↓reduceIte, Option.bind_some, gld_1, gld_n, g3, hb, hl]; refine ⟨_, rfl, ?_⟩; simp only [gone]))
  refine Gw_s fun K' hK' => G1_call (by simp only [gtarget, ↓GArg.ev, ↓evs, ↓Tr.get_set, Nat.reduceEqDiff, if_true, if_false, ↓reduceIte, Option.map_some]; rfl) (awake_ok _) fun r1 H1 hq => hK' _ _ ?_
  obtain ⟨rfl, rfl⟩ := hq
  repeat' (first | refine zA ?_ | refine zB ?_ | refine zC ?_ | refine zD ?_ | refine zE ?_ | refine zF ?_ | refine zG ?_ | refine zH ?_ | refine zI ?_ | refine zJ ?_ | refine zK rfl ?_ | refine zL ?_ | refine zM ?_ | refine zN ?_ | refine zO ?_ | refine zP rfl ?_ | refine zQ ?_ | ((first | refine zR ?_ | refine zS ?_ | refine zT ?_ | skip); intro K k; simp (disch := (first | (simp only [yD2, beq_self_eq_true, Nat.reduceLT, Nat.reduceAdd]; done) | ((fail_if_success (apply Bool.eq_iff_iff.2)); first | omega | (simp only [yD2, beq_self_eq_true, Nat.reduceLT, Nat.reduceAdd] <;> omega)) | fail)) only [↓yS, yT, ↓reduceIte, Nat.reduceEqDiff, Nat.reduceAdd, Nat.reduceMul, reduceCtorEq, Int.reduceToNat, g3, e0]; refine yC (k _ _ ?_); clear k K) | ((first | refine zU ?_ | refine zV ?_ | refine zW ?_); intro A B C D a b c d; simp only [↓yG, Nat.reduceEqDiff, ↓reduceIte, g3, e0]; (first | refine zX (a ?_) | refine zY (b ?_) | refine zZ (fun hc => c ?_) (fun hc => d ?_)) <;> clear a b c d A B C D <;> try simp only [yL] at hc) | (refine yA ?_; intro A a; simp only [↓yG, Nat.reduceEqDiff, ↓reduceIte, g3, e0]; refine yB (a ?_); clear a A) | (refine yD ?_; simp only [gresults, ↓yG, Nat.reduceEqDiff, ↓reduceIte, Option.bind_some, gld_1, gld_n, g3, e0]; refine ⟨_, rfl, ?_⟩; simp only [gone]))
  refine Gw_s fun K' hK' => G1_call (by simp only [gtarget, ↓GArg.ev, ↓evs, ↓Tr.get_set, Nat.reduceEqDiff, if_true, if_false, ↓reduceIte, Option.map_some]; rfl) (few_ok' hw hS1.wf hS1 hp) fun r1 H1 hq => hK' _ _ ?_
  obtain ⟨q, rfl, hq1, hq16, hql, hS2⟩ := hq
  have hqs : ShQ q.l := fun x hx => hsq x (by rw [hql] at hx; exact List.mem_of_mem_take hx)
  have hin : H.len < (H.add (some (.cells (parC p) 0 true))).len := by rw [len_add]; omega
  have hm1 : H1.mine H.len = some (parC p, 0) := by rw [hS2.mine hin]; exact hm0
  have hst := gsetn_par (p := q) (parC_len p) hq1.kr.flat
  have hlim1 := hS2.wf.1
  have hlt0 : H.len < H1.len := Nat.lt_of_lt_of_le hin hS2.len
  have hS3 : Same H (H1.put H.len (.cells (parC q) 0 true)) := (hS1.trans hS2).put (Nat.le_refl _) hlt0 _
  have hrq : (H1.put H.len (.cells (parC q) 0 true)).rdn H.len 0 15 = some (parV q) := rdnP
  repeat' (first | refine zA ?_ | refine zB ?_ | refine zC ?_ | refine zD ?_ | refine zE ?_ | refine zF ?_ | refine zG ?_ | refine zH ?_ | refine zI ?_ | refine zJ ?_ | refine zK rfl ?_ | refine zL ?_ | refine zM ?_ | refine zN ?_ | refine zO ?_ | refine zP rfl ?_ | refine zQ ?_ | ((first | refine zR ?_ | refine zS ?_ | refine zT ?_ | skip); intro K k; simp (disch := (first | (simp only [yD2, beq_self_eq_true, Nat.reduceLT, Nat.reduceAdd]; done) | ((fail_if_success (apply Bool.eq_iff_iff.2)); first | omega | (simp only [yD2, beq_self_eq_true, Nat.reduceLT, Nat.reduceAdd] <;> omega)) | fail)) only [↓yS, yT, ↓reduceIte, Nat.reduceEqDiff, Nat.reduceAdd, Nat.reduceMul, reduceCtorEq, Int.reduceToNat, g3, hm1, hst, rdnP]; refine yC (k _ _ ?_); clear k K) | ((first | refine zU ?_ | refine zV ?_ | refine zW ?_); intro A B C D a b c d; simp only [↓yG, Nat.reduceEqDiff, ↓reduceIte, g3, hm1, hst, rdnP]; (first | refine zX (a ?_) | refine zY (b ?_) | refine zZ (fun hc => c ?_) (fun hc => d ?_)) <;> clear a b c d A B C D <;> try simp only [yL] at hc) | (refine yA ?_; intro A a; simp only [↓yG, Nat.reduceEqDiff, ↓reduceIte, g3, hm1, hst, rdnP]; refine yB (a ?_); clear a A) | (refine yD ?_; simp only [gresults, ↓yG, Nat.reduceEqDiff, ↓reduceIte, Option.bind_some, gld_1, gld_n, g3, hm1, hst, rdnP]; refine ⟨_, rfl, ?_⟩; simp only [gone]))
  have hl2 : H.len < (H1.put H.len (.cells (parC q) 0 true)).len := by rw [len_put]; omega
  generalize H1.put H.len (.cells (parC q) 0 true) = H2 at *
  have erq : ∀ H', Same H2 H' → H'.rdn H.len 0 15 = some (parV q) := fun H' h => by rw [h.rdn hl2]; exact hrq
  have htt : tv2 (costF q E) = .tuple #[.int .i64 (costF q E).1, .int .i64 (costF q E).2] := rfl
  have hcst : costF q E = ((costF q E).1, (costF q E).2) := rfl
  refine Gw_s fun K' hK' => G1_call (by simp only [gtarget, ↓GArg.ev, ↓evs, ↓Tr.get_set, Nat.reduceEqDiff, if_true, if_false, ↓reduceIte, Option.map_some]; rfl) (Cost_ok hS3.wf (hq1.later hw hS3) (GArg1.same hE hw hS3) hEl) fun r3 H3 hq => hK' _ _ ?_
  obtain ⟨rfl, hS5⟩ := hq
  have hS6 := hS3.trans hS5
  have er3 := erq _ hS5
  repeat' (first | refine zA ?_ | refine zB ?_ | refine zC ?_ | refine zD ?_ | refine zE ?_ | refine zF ?_ | refine zG ?_ | refine zH ?_ | refine zI ?_ | refine zJ ?_ | refine zK rfl ?_ | refine zL ?_ | refine zM ?_ | refine zN ?_ | refine zO ?_ | refine zP rfl ?_ | refine zQ ?_ | ((first | refine zR ?_ | refine zS ?_ | refine zT ?_ | skip); intro K k; simp (disch := (first | (simp only [yD2, beq_self_eq_true, Nat.reduceLT, Nat.reduceAdd]; done) | ((fail_if_success (apply Bool.eq_iff_iff.2)); first | omega | (simp only [yD2, beq_self_eq_true, Nat.reduceLT, Nat.reduceAdd] <;> omega)) | fail)) only [↓yS, yT, ↓reduceIte, Nat.reduceEqDiff, Nat.reduceAdd, Nat.reduceMul, reduceCtorEq, Int.reduceToNat, g3, htt, er3]; refine yC (k _ _ ?_); clear k K) | ((first | refine zU ?_ | refine zV ?_ | refine zW ?_); intro A B C D a b c d; simp only [↓yG, Nat.reduceEqDiff, ↓reduceIte, g3, htt, er3]; (first | refine zX (a ?_) | refine zY (b ?_) | refine zZ (fun hc => c ?_) (fun hc => d ?_)) <;> clear a b c d A B C D <;> try simp only [yL] at hc) | (refine yA ?_; intro A a; simp only [↓yG, Nat.reduceEqDiff, ↓reduceIte, g3, htt, er3]; refine yB (a ?_); clear a A) | (refine yD ?_; simp only [gresults, ↓yG, Nat.reduceEqDiff, ↓reduceIte, Option.bind_some, gld_1, gld_n, g3, htt, er3]; refine ⟨_, rfl, ?_⟩; simp only [gone]))
  refine Gw_s fun K' hK' => G1_call (by simp only [gtarget, ↓GArg.ev, ↓evs, ↓Tr.get_set, Nat.reduceEqDiff, if_true, if_false, ↓reduceIte, Option.map_some]; rfl) (rCost_ok hS6.wf (hq1.later hw hS6) hqs (GArg1.same hE hw hS6) hEl) fun r3 H4 hq => hK' _ _ ?_
  obtain ⟨rfl, hS7⟩ := hq
  have hS8 := hS6.trans hS7
  have hS57 := hS5.trans hS7
  have er4 := erq _ hS57
  repeat' (first | refine zA ?_ | refine zB ?_ | refine zC ?_ | refine zD ?_ | refine zE ?_ | refine zF ?_ | refine zG ?_ | refine zH ?_ | refine zI ?_ | refine zJ ?_ | refine zK rfl ?_ | refine zL ?_ | refine zM ?_ | refine zN ?_ | refine zO ?_ | refine zP rfl ?_ | refine zQ ?_ | ((first | refine zR ?_ | refine zS ?_ | refine zT ?_ | skip); intro K k; simp (disch := (first | (simp only [yD2, beq_self_eq_true, Nat.reduceLT, Nat.reduceAdd]; done) | ((fail_if_success (apply Bool.eq_iff_iff.2)); first | omega | (simp only [yD2, beq_self_eq_true, Nat.reduceLT, Nat.reduceAdd] <;> omega)) | fail)) only [↓yS, yT, ↓reduceIte, Nat.reduceEqDiff, Nat.reduceAdd, Nat.reduceMul, reduceCtorEq, Int.reduceToNat, g3, htt, er4]; refine yC (k _ _ ?_); clear k K) | ((first | refine zU ?_ | refine zV ?_ | refine zW ?_); intro A B C D a b c d; simp only [↓yG, Nat.reduceEqDiff, ↓reduceIte, g3, htt, er4]; (first | refine zX (a ?_) | refine zY (b ?_) | refine zZ (fun hc => c ?_) (fun hc => d ?_)) <;> clear a b c d A B C D <;> try simp only [yL] at hc) | (refine yA ?_; intro A a; simp only [↓yG, Nat.reduceEqDiff, ↓reduceIte, g3, htt, er4]; refine yB (a ?_); clear a A) | (refine yD ?_; simp only [gresults, ↓yG, Nat.reduceEqDiff, ↓reduceIte, Option.bind_some, gld_1, gld_n, g3, htt, er4]; refine ⟨_, rfl, ?_⟩; simp only [gone]))
  refine Gw_s fun K' hK' => G1_call (by simp only [gtarget, ↓GArg.ev, ↓evs, ↓Tr.get_set, Nat.reduceEqDiff, if_true, if_false, ↓reduceIte, Option.map_some]; rfl) (Rows_ok hS8.wf (hq1.later hw hS8) (GArg1.same hE hw hS8) hEl) fun r3 H5 hq => hK' _ _ ?_
  obtain ⟨lv, rfl, hS9, hlv, hrows⟩ := hq
  have hSA := hS8.trans hS9
  have hS59 := hS57.trans hS9
  have er5 := erq _ hS59
  repeat' (first | refine zA ?_ | refine zB ?_ | refine zC ?_ | refine zD ?_ | refine zE ?_ | refine zF ?_ | refine zG ?_ | refine zH ?_ | refine zI ?_ | refine zJ ?_ | refine zK rfl ?_ | refine zL ?_ | refine zM ?_ | refine zN ?_ | refine zO ?_ | refine zP rfl ?_ | refine zQ ?_ | ((first | refine zR ?_ | refine zS ?_ | refine zT ?_ | skip); intro K k; simp (disch := (first | (simp only [yD2, beq_self_eq_true, Nat.reduceLT, Nat.reduceAdd]; done) | ((fail_if_success (apply Bool.eq_iff_iff.2)); first | omega | (simp only [yD2, beq_self_eq_true, Nat.reduceLT, Nat.reduceAdd] <;> omega)) | fail)) only [↓yS, yT, ↓reduceIte, Nat.reduceEqDiff, Nat.reduceAdd, Nat.reduceMul, reduceCtorEq, Int.reduceToNat, g3, er5]; refine yC (k _ _ ?_); clear k K) | ((first | refine zU ?_ | refine zV ?_ | refine zW ?_); intro A B C D a b c d; simp only [↓yG, Nat.reduceEqDiff, ↓reduceIte, g3, er5]; (first | refine zX (a ?_) | refine zY (b ?_) | refine zZ (fun hc => c ?_) (fun hc => d ?_)) <;> clear a b c d A B C D <;> try simp only [yL] at hc) | (refine yA ?_; intro A a; simp only [↓yG, Nat.reduceEqDiff, ↓reduceIte, g3, er5]; refine yB (a ?_); clear a A) | (refine yD ?_; simp only [gresults, ↓yG, Nat.reduceEqDiff, ↓reduceIte, Option.bind_some, gld_1, gld_n, g3, er5]; refine ⟨_, rfl, ?_⟩; simp only [gone]))
  refine Gw_s fun K' hK' => G1_call (by simp only [gtarget, ↓GArg.ev, ↓evs, ↓Tr.get_set, Nat.reduceEqDiff, if_true, if_false, ↓reduceIte, Option.map_some]; rfl) (rRows_ok hSA.wf (hq1.later hw hSA) hqs (GArg1.same hE hw hSA) hEl) fun r3 H6 hq => hK' _ _ ?_
  obtain ⟨mv, rfl, hSB, hmv, hrows2⟩ := hq
  have hSC := hSA.trans hSB
  have hS5B := hS59.trans hSB
  have hL : ∃ L, L.length ≤ 4611686018427387904 ∧ SRd H6 lv L ∧ SRd H6 mv L := by
    by_cases h2 : (costF q E).2 = 0
    · rw [h2] at hcst
      obtain ⟨ks, e1, h3, h4, h5⟩ := hrows _ hcst
      obtain ⟨ks2, e2, _, _, h6⟩ := hrows2 _ hcst
      have hks : ks = ks2 := by
        rw [e1] at e2
        have hinj : ∀ a b : List Nat, natsI a = natsI b → a = b := by
          intro a
          induction a with
          | nil => intro b h; cases b with
            | nil => rfl
            | cons => simp [natsI] at h
          | cons x a ih => intro b h; cases b with
            | nil => simp [natsI] at h
            | cons y b =>
              simp only [natsI, List.map_cons, List.cons.injEq] at h
              rw [ih b h.2, show x = y by omega]
        exact hinj _ _ e2
      subst hks
      refine ⟨_, ?_, GArg1.same h5 hSA.wf hSB, h6⟩
      rw [rowsF_len]
      have h7 := congrArg List.length e1
      have h8 : (natsI ks).length = ks.length := by simp [natsI]
      rw [h8] at h7; omega
    · rw [hlv h2, hmv h2]
      exact ⟨[], by simp, RB.nil, RB.nil⟩
  obtain ⟨L, hLl, hL1, hL2⟩ := hL
  have hw6 := hSC.wf
  generalize (costF q E).1 = c2 at *
  generalize (costF q E).2 = e2 at *
  repeat' (first | (exfalso; omega) | refine zA ?_ | refine zB ?_ | refine zC ?_ | refine zD ?_ | refine zE ?_ | refine zF ?_ | refine zG ?_ | refine zH ?_ | refine zI ?_ | refine zJ ?_ | refine zK rfl ?_ | refine zL ?_ | refine zM ?_ | refine zN ?_ | refine zO ?_ | refine zP rfl ?_ | refine zQ ?_ | ((first | refine zR ?_ | refine zS ?_ | refine zT ?_ | skip); intro K k; simp (disch := (first | (simp only [yD2, beq_self_eq_true, Nat.reduceLT, Nat.reduceAdd]; done) | ((fail_if_success (apply Bool.eq_iff_iff.2)); first | omega | (simp only [yD2, beq_self_eq_true, Nat.reduceLT, Nat.reduceAdd] <;> omega)) | fail)) only [↓yS, yT, ↓reduceIte, Nat.reduceEqDiff, Nat.reduceAdd, Nat.reduceMul, reduceCtorEq, Int.reduceToNat, g3]; refine yC (k _ _ ?_); clear k K) | ((first | refine zU ?_ | refine zV ?_ | refine zW ?_); intro A B C D a b c d; simp only [↓yG, Nat.reduceEqDiff, ↓reduceIte, g3]; (first | refine zX (a ?_) | refine zY (b ?_) | refine zZ (fun hc => c ?_) (fun hc => d ?_)) <;> clear a b c d A B C D <;> try simp only [yL] at hc) | (refine yA ?_; intro A a; simp only [↓yG, Nat.reduceEqDiff, ↓reduceIte, g3]; refine yB (a ?_); clear a A) | (refine yD ?_; simp only [gresults, ↓yG, Nat.reduceEqDiff, ↓reduceIte, Option.bind_some, gld_1, gld_n, g3]; refine ⟨_, rfl, ?_⟩; simp only [gone]))
  intro K' hK'; refine G1_callM (by simp only [gtarget, ↓GArg.ev, ↓evs, ↓Tr.get_set, Nat.reduceEqDiff, if_true, if_false, ↓reduceIte, Option.map_some]; rfl) (eqs_ok (H := H6.up) ⟨hL1.rd, hL1.sl⟩ ⟨hL2.rd, hL2.sl⟩ hLl hLl) fun r7 H7 hq => hK' _ _ ?_
  obtain ⟨rfl, rfl⟩ := hq
  rw [updown, decide_eq_true rfl]
  have er6 := erq _ hS5B
  repeat' (first | (exfalso; omega) | refine zA ?_ | refine zB ?_ | refine zC ?_ | refine zD ?_ | refine zE ?_ | refine zF ?_ | refine zG ?_ | refine zH ?_ | refine zI ?_ | refine zJ ?_ | refine zK rfl ?_ | refine zL ?_ | refine zM ?_ | refine zN ?_ | refine zO ?_ | refine zP rfl ?_ | refine zQ ?_ | ((first | refine zR ?_ | refine zS ?_ | refine zT ?_ | skip); intro K k; simp (disch := (first | (simp only [yD2, beq_self_eq_true, Nat.reduceLT, Nat.reduceAdd]; done) | ((fail_if_success (apply Bool.eq_iff_iff.2)); first | omega | (simp only [yD2, beq_self_eq_true, Nat.reduceLT, Nat.reduceAdd] <;> omega)) | fail)) only [↓yS, yT, ↓reduceIte, Nat.reduceEqDiff, Nat.reduceAdd, Nat.reduceMul, reduceCtorEq, Int.reduceToNat, g3, er6]; refine yC (k _ _ ?_); clear k K) | ((first | refine zU ?_ | refine zV ?_ | refine zW ?_); intro A B C D a b c d; simp only [↓yG, Nat.reduceEqDiff, ↓reduceIte, g3, er6]; (first | refine zX (a ?_) | refine zY (b ?_) | refine zZ (fun hc => c ?_) (fun hc => d ?_)) <;> clear a b c d A B C D <;> try simp only [yL] at hc) | (refine yA ?_; intro A a; simp only [↓yG, Nat.reduceEqDiff, ↓reduceIte, g3, er6]; refine yB (a ?_); clear a A) | (refine yD ?_; simp only [gresults, ↓yG, Nat.reduceEqDiff, ↓reduceIte, Option.bind_some, gld_1, gld_n, g3, er6]; refine ⟨_, rfl, ?_⟩; simp only [gone]))
  intro K' hK'; refine G1_callM (by simp only [gtarget, ↓GArg.ev, ↓evs, ↓Tr.get_set, Nat.reduceEqDiff, if_true, if_false, ↓reduceIte, Option.map_some]; rfl) (check_ok (wf_up hw6) (hq1.later hw hSC).up) fun r7 H7 hq => hK' _ _ ?_
  obtain ⟨rfl, hS7'⟩ := hq
  have hSD := Same.down hw6 hS7'
  generalize H7.down H6.lim = H8 at *
  have er8 := erq _ (hS5B.trans hSD)
  have hw8 := hSD.wf
  repeat' (first | (exfalso; omega) | refine zA ?_ | refine zB ?_ | refine zC ?_ | refine zD ?_ | refine zE ?_ | refine zF ?_ | refine zG ?_ | refine zH ?_ | refine zI ?_ | refine zJ ?_ | refine zK rfl ?_ | refine zL ?_ | refine zM ?_ | refine zN ?_ | refine zO ?_ | refine zP rfl ?_ | refine zQ ?_ | ((first | refine zR ?_ | refine zS ?_ | refine zT ?_ | skip); intro K k; simp (disch := (first | (simp only [yD2, beq_self_eq_true, Nat.reduceLT, Nat.reduceAdd]; done) | ((fail_if_success (apply Bool.eq_iff_iff.2)); first | omega | (simp only [yD2, beq_self_eq_true, Nat.reduceLT, Nat.reduceAdd] <;> omega)) | fail)) only [↓yS, yT, ↓reduceIte, Nat.reduceEqDiff, Nat.reduceAdd, Nat.reduceMul, reduceCtorEq, Int.reduceToNat, g3, er8]; refine yC (k _ _ ?_); clear k K) | ((first | refine zU ?_ | refine zV ?_ | refine zW ?_); intro A B C D a b c d; simp only [↓yG, Nat.reduceEqDiff, ↓reduceIte, g3, er8]; (first | refine zX (a ?_) | refine zY (b ?_) | refine zZ (fun hc => c ?_) (fun hc => d ?_)) <;> clear a b c d A B C D <;> try simp only [yL] at hc) | (refine yA ?_; intro A a; simp only [↓yG, Nat.reduceEqDiff, ↓reduceIte, g3, er8]; refine yB (a ?_); clear a A) | (refine yD ?_; simp only [gresults, ↓yG, Nat.reduceEqDiff, ↓reduceIte, Option.bind_some, gld_1, gld_n, g3, er8]; refine ⟨_, rfl, ?_⟩; simp only [gone]))
  intro K' hK'; refine G1_callM (by simp only [gtarget, ↓GArg.ev, ↓evs, ↓Tr.get_set, Nat.reduceEqDiff, if_true, if_false, ↓reduceIte, Option.map_some]; rfl) (rcheck_ok (wf_up hw8) (hq1.later hw (hSC.trans hSD)).up) fun r7 H9 hq => hK' _ _ ?_
  obtain ⟨rfl, hS9'⟩ := hq
  repeat' (first | (exfalso; omega) | refine zA ?_ | refine zB ?_ | refine zC ?_ | refine zD ?_ | refine zE ?_ | refine zF ?_ | refine zG ?_ | refine zH ?_ | refine zI ?_ | refine zJ ?_ | refine zK rfl ?_ | refine zL ?_ | refine zM ?_ | refine zN ?_ | refine zO ?_ | refine zP rfl ?_ | refine zQ ?_ | ((first | refine zR ?_ | refine zS ?_ | refine zT ?_ | skip); intro K k; simp (disch := (first | (simp only [yD2, beq_self_eq_true, Nat.reduceLT, Nat.reduceAdd]; done) | ((fail_if_success (apply Bool.eq_iff_iff.2)); first | omega | (simp only [yD2, beq_self_eq_true, Nat.reduceLT, Nat.reduceAdd] <;> omega)) | fail)) only [↓yS, yT, ↓reduceIte, Nat.reduceEqDiff, Nat.reduceAdd, Nat.reduceMul, reduceCtorEq, Int.reduceToNat, g3]; refine yC (k _ _ ?_); clear k K) | ((first | refine zU ?_ | refine zV ?_ | refine zW ?_); intro A B C D a b c d; simp only [↓yG, Nat.reduceEqDiff, ↓reduceIte, g3]; (first | refine zX (a ?_) | refine zY (b ?_) | refine zZ (fun hc => c ?_) (fun hc => d ?_)) <;> clear a b c d A B C D <;> try simp only [yL] at hc) | (refine yA ?_; intro A a; simp only [↓yG, Nat.reduceEqDiff, ↓reduceIte, g3]; refine yB (a ?_); clear a A) | (refine yD ?_; simp only [gresults, ↓yG, Nat.reduceEqDiff, ↓reduceIte, Option.bind_some, gld_1, gld_n, g3]; refine ⟨_, rfl, ?_⟩; simp only [gone]))
  all_goals first | exact hP _ | (rw [decide_eq_true rfl]; exact hP _)
theorem costs_law {H : GHeap} (hw : H.wf) {gvs : List Value} (h : RdAsQ (fun m => m ≤ 1048576) H [parShp, .sl (.int .i64)] gvs) : ∃ v H2, gev G 3 gvs H = some (v, H2) ∧ v = .bool true := by
  obtain ⟨gv, _, rfl, h1, gv2, _, rfl, h2, rfl⟩ := h
  obtain ⟨p, rfl, hp, hsq⟩ := RdA.par h1
  obtain ⟨E, h3, h4⟩ := RdAQ.ints_ h2
  refine costs_ok hw hp hsq h3 ?_
  have := h4.1.2
  have hb : IntKind.i64.bits / 8 = 8 := rfl
  rw [hb] at this
  simp only [reachBytes] at this
  omega
end Go.Gh
