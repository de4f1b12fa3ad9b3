/-
  rowbreak, walked: total, Cost; the reference's Len, Fits, row, Cost.
-/
import Derived.Test.YtbhgpiakeimmlaaDoorRbW5
namespace Go.Gh
set_option linter.unusedSimpArgs false
set_option linter.unusedVariables false
open Go.RowKit
set_option maxRecDepth 4000

def tv2 (x : Int × Int) : Value := .tuple #[.int .i64 x.1, .int .i64 x.2]
theorem lastF_at {E : List Int} (h : E ≠ []) : E[E.length - 1]! = lastF E := by
  have hl := List.length_pos_iff.2 h
  rw [getElem!_pos E _ (by omega), lastF, List.getLast?_eq_getElem?, List.getElem?_eq_getElem (by omega)]; rfl
theorem drop_bangI {l : List Int} {n : Nat} (h : n < l.length) : l.drop n = l[n]! :: l.drop (n + 1) := by rw [List.drop_eq_getElem_cons h, getElem!_pos l n h]
/-- a slice of numbers that can be read -/
abbrev IR (H : GHeap) (v : Value) (E : List Int) : Prop := GArg1 H 1 v E.length (ints .i64 E)
theorem IR.isSl {H : GHeap} {v : Value} {E : List Int} (h : IR H v E) : IsSl v E.length := h.rd.isSl
theorem IR.at_ {H : GHeap} {v : Value} {E : List Int} (h : IR H v E) {j : Nat} (hj : j < E.length) : H.rd (blk v) (ofs v + j) = some (.int .i64 E[j]!) := by
  rw [h.rd.rd (by rw [ints_length]; exact hj)]; exact ints_at hj
theorem sumF_bd {D : DD} (G : D.Good) : ∀ {l : List Int} {f : Nat} {s c : Int}, risF f l = true → (∀ x ∈ l, x ≤ D.n) → 0 ≤ s → sumF D f l s = (c, 0) → s ≤ c ∧ c ≤ s + l.length * 40000000
  | [], f, s, c, _, _, _, h => by simp [sumF] at h; subst h; simp
  | x :: l, f, s, c, hr, hx, hs, h => by
    simp only [risF, Bool.and_eq_true, decide_eq_true_eq] at hr
    rw [sumF] at h
    split at h
    · rename_i hf
      have hxn := hx x (by simp)
      have hok : D.ok f x.toNat := ⟨by omega, by omega, hf⟩
      have h1 := G.pos _ _ hok
      have h2 := G.ub _ _ hok
      have ih := sumF_bd G (l := l) (f := x.toNat) (s := s + D.row f x.toNat) (by rw [show ((x.toNat : Nat) : Int) = x by omega]; exact hr.2) (fun y hy => hx y (by simp [hy])) (by omega) h
      simp only [List.length_cons]
      omega
    · cases h
theorem total_ok {H : GHeap} (hw : H.wf) {v ev : Value} {p : Par} {E : List Int} (hs : Sht H v p) (hk : PK H p) (hE : IR H ev E) (hEl : E.length ≤ 4611686018427387904) :
    ∃ r H', gev G 28 [v, ev] H = some (r, H') ∧ (r = tv2 (totF p.D p.r E) ∧ Same H H') := by
  refine gev_GW (f := 28) rfl fun Post hPost => ?_
  have hP : ∀ x H', totF p.D p.r E = x → Same H H' → Post (tv2 x) H' := fun x H' e h => hPost _ _ ⟨by rw [e], h⟩
  clear hPost
  unfold tv2 at hP
  have hlim := hw.1
  have hsl := hE.isSl
  have hn := hk.n
  have hD : p.D.n = p.l.length := rfl
  have hpar := parF_ok hk.ok
  have hG := Par.good hk.ok
  obtain ⟨id, sv, hv, hid, hc, hr⟩ := hs.ex
  have e : ∀ o, H.rd id o = (shC p sv p.aim)[o]? := fun o => by simp only [GHeap.rd, hc]; rfl
  have hsu : Sht H.up v p := ⟨id, sv, hv, hid, hc, hr⟩
  have hku : PR H.up p := ⟨⟨hk.pr.kr.rd, hk.pr.kr.sl⟩, hk.pr.sh, hk.pr.le, hk.pr.ww, hk.pr.rr⟩
  simp only [frameOf, Nat.reduceAdd]
  by_cases hE0 : E = []
  · have hl0 : E.length = 0 := by rw [hE0]; rfl
    repeat' (first | (exfalso; omega) | refine zA ?_ | refine zB ?_ | refine zC ?_ | refine zD ?_ | refine zE ?_ | refine zF ?_ | refine zG ?_ | refine zH ?_ | refine zI ?_ | refine zJ ?_ | refine zK rfl ?_ | refine zL ?_ | refine zM ?_ | refine zN ?_ | refine zO ?_ | refine zP rfl ?_ | refine zQ ?_ | ((first | refine zR ?_ | refine zS ?_ | refine zT ?_ | skip); intro K k; simp (disch := (first | (simp only [yD2, beq_self_eq_true, Nat.reduceLT, Nat.reduceAdd]; done) | ((fail_if_success (apply Bool.eq_iff_iff.2)); first | omega | (simp only [yD2, beq_self_eq_true, Nat.reduceLT, Nat.reduceAdd] <;> omega)) | fail)) only [↓yS, yT, ↓reduceIte, Nat.reduceEqDiff, Nat.reduceAdd, Nat.reduceMul, reduceCtorEq, Int.reduceToNat, g28, hsl.len]; refine yC (k _ _ ?_); clear k K) | ((first | refine zU ?_ | refine zV ?_ | refine zW ?_); intro A B C D a b c d; simp only [↓yG, Nat.reduceEqDiff, ↓reduceIte, g28, hsl.len]; (first | refine zX (a ?_) | refine zY (b ?_) | refine zZ (fun hc => c ?_) (fun hc => d ?_)) <;> clear a b c d A B C D <;> try simp only [yL] at hc) | (refine yA ?_; intro A a; simp only [↓yG, Nat.reduceEqDiff, ↓reduceIte, g28, hsl.len]; refine yB (a ?_); clear a A) | (refine yD ?_; simp only [gresults, ↓yG, Nat.reduceEqDiff, ↓reduceIte, Option.bind_some, gld_1, gld_n, g28, hsl.len]; refine ⟨_, rfl, ?_⟩; simp only [gone]))
    exact hP (0, 1) _ (by unfold totF; rw [if_neg (fun h => h.2.2 hE0)]) (Same.refl hw)
  have hl0 : 0 < E.length := List.length_pos_iff.2 hE0
  have ela := hE.at_ (j := E.length - 1) (by omega)
  rw [lastF_at hE0] at ela
  have hx1 : ((E.length : Int) - 1).toNat = E.length - 1 := by omega
  repeat' (first | (exfalso; omega) | refine zA ?_ | refine zB ?_ | refine zC ?_ | refine zD ?_ | refine zE ?_ | refine zF ?_ | refine zG ?_ | refine zH ?_ | refine zI ?_ | refine zJ ?_ | refine zK rfl ?_ | refine zL ?_ | refine zM ?_ | refine zN ?_ | refine zO ?_ | refine zP rfl ?_ | refine zQ ?_ | ((first | refine zR ?_ | refine zS ?_ | refine zT ?_ | skip); intro K k; simp (disch := (first | (simp only [yD2, beq_self_eq_true, Nat.reduceLT, Nat.reduceAdd]; done) | ((fail_if_success (apply Bool.eq_iff_iff.2)); first | omega | (simp only [yD2, beq_self_eq_true, Nat.reduceLT, Nat.reduceAdd] <;> omega)) | fail)) only [↓yS, yT, ↓reduceIte, Nat.reduceEqDiff, Nat.reduceAdd, Nat.reduceMul, reduceCtorEq, Int.reduceToNat, g28, hsl.len, hsl.ia, ela, hx1, Nat.mul_one]; refine yC (k _ _ ?_); clear k K) | ((first | refine zU ?_ | refine zV ?_ | refine zW ?_); intro A B C D a b c d; simp only [↓yG, Nat.reduceEqDiff, ↓reduceIte, g28, hsl.len, hsl.ia, ela, hx1, Nat.mul_one]; (first | refine zX (a ?_) | refine zY (b ?_) | refine zZ (fun hc => c ?_) (fun hc => d ?_)) <;> clear a b c d A B C D <;> try simp only [yL] at hc) | (refine yA ?_; intro A a; simp only [↓yG, Nat.reduceEqDiff, ↓reduceIte, g28, hsl.len, hsl.ia, ela, hx1, Nat.mul_one]; refine yB (a ?_); clear a A) | (refine yD ?_; simp only [gresults, ↓yG, Nat.reduceEqDiff, ↓reduceIte, Option.bind_some, gld_1, gld_n, g28, hsl.len, hsl.ia, ela, hx1, Nat.mul_one]; refine ⟨_, rfl, ?_⟩; simp only [gone]))
  intro K' hK'; refine G1_callM (by simp only [gtarget, ↓GArg.ev, ↓evs, ↓Tr.get_set, Nat.reduceEqDiff, if_true, if_false, ↓reduceIte, Option.map_some]; rfl) (sn_ok hsu hku) fun r1 H1 hq => hK' _ _ ?_
  obtain ⟨rfl, rfl⟩ := hq
  rw [updown]
  by_cases hla : lastF E = p.l.length
  case neg =>
    repeat' (first | (exfalso; omega) | refine zA ?_ | refine zB ?_ | refine zC ?_ | refine zD ?_ | refine zE ?_ | refine zF ?_ | refine zG ?_ | refine zH ?_ | refine zI ?_ | refine zJ ?_ | refine zK rfl ?_ | refine zL ?_ | refine zM ?_ | refine zN ?_ | refine zO ?_ | refine zP rfl ?_ | refine zQ ?_ | ((first | refine zR ?_ | refine zS ?_ | refine zT ?_ | skip); intro K k; simp (disch := (first | (simp only [yD2, beq_self_eq_true, Nat.reduceLT, Nat.reduceAdd]; done) | ((fail_if_success (apply Bool.eq_iff_iff.2)); first | omega | (simp only [yD2, beq_self_eq_true, Nat.reduceLT, Nat.reduceAdd] <;> omega)) | fail)) only [↓yS, yT, ↓reduceIte, Nat.reduceEqDiff, Nat.reduceAdd, Nat.reduceMul, reduceCtorEq, Int.reduceToNat, g28, hsl.len]; refine yC (k _ _ ?_); clear k K) | ((first | refine zU ?_ | refine zV ?_ | refine zW ?_); intro A B C D a b c d; simp only [↓yG, Nat.reduceEqDiff, ↓reduceIte, g28, hsl.len]; (first | refine zX (a ?_) | refine zY (b ?_) | refine zZ (fun hc => c ?_) (fun hc => d ?_)) <;> clear a b c d A B C D <;> try simp only [yL] at hc) | (refine yA ?_; intro A a; simp only [↓yG, Nat.reduceEqDiff, ↓reduceIte, g28, hsl.len]; refine yB (a ?_); clear a A) | (refine yD ?_; simp only [gresults, ↓yG, Nat.reduceEqDiff, ↓reduceIte, Option.bind_some, gld_1, gld_n, g28, hsl.len]; refine ⟨_, rfl, ?_⟩; simp only [gone]))
    exact hP (0, 1) _ (by unfold totF; rw [if_neg (fun h => hla h.2.1)]) (Same.refl hw)
  repeat' (first | (exfalso; omega) | refine zA ?_ | refine zB ?_ | refine zC ?_ | refine zD ?_ | refine zE ?_ | refine zF ?_ | refine zG ?_ | refine zH ?_ | refine zI ?_ | refine zJ ?_ | refine zK rfl ?_ | refine zL ?_ | refine zM ?_ | refine zN ?_ | refine zO ?_ | refine zP rfl ?_ | refine zQ ?_ | ((first | refine zR ?_ | refine zS ?_ | refine zT ?_ | skip); intro K k; simp (disch := (first | (simp only [yD2, beq_self_eq_true, Nat.reduceLT, Nat.reduceAdd]; done) | ((fail_if_success (apply Bool.eq_iff_iff.2)); first | omega | (simp only [yD2, beq_self_eq_true, Nat.reduceLT, Nat.reduceAdd] <;> omega)) | fail)) only [↓yS, yT, ↓reduceIte, Nat.reduceEqDiff, Nat.reduceAdd, Nat.reduceMul, reduceCtorEq, Int.reduceToNat, g28, hsl.len]; refine yC (k _ _ ?_); clear k K) | ((first | refine zU ?_ | refine zV ?_ | refine zW ?_); intro A B C D a b c d; simp only [↓yG, Nat.reduceEqDiff, ↓reduceIte, g28, hsl.len]; (first | refine zX (a ?_) | refine zY (b ?_) | refine zZ (fun hc => c ?_) (fun hc => d ?_)) <;> clear a b c d A B C D <;> try simp only [yL] at hc) | (refine yA ?_; intro A a; simp only [↓yG, Nat.reduceEqDiff, ↓reduceIte, g28, hsl.len]; refine yB (a ?_); clear a A) | (refine yD ?_; simp only [gresults, ↓yG, Nat.reduceEqDiff, ↓reduceIte, Option.bind_some, gld_1, gld_n, g28, hsl.len]; refine ⟨_, rfl, ?_⟩; simp only [gone]))
  refine GW_loop (fun k fr H1 => ∃ (j : Nat) (f : Int), k = E.length - j ∧ j ≤ E.length ∧ fr.get 0 = some (v) ∧ fr.get 1 = some (ev) ∧ fr.get 6 = some (.int .i64 f) ∧ fr.get 26 = some (ev) ∧ fr.get 27 = some (.int .i64 E.length) ∧ fr.get 28 = some (.int .i64 j) ∧ H1 = H ∧ risF 0 E = risF f (E.drop j)) ?_ E.length ?_
  rotate_left
  · refine ⟨0, 0, by omega, by omega, ?_⟩
    simp only [↓yG, Nat.reduceEqDiff, ↓reduceIte, Int.natCast_add, Int.cast_ofNat_Int, Int.natCast_zero, true_and, and_true, Option.some.injEq, Value.int.injEq]
    all_goals first | exact rfl | exact ⟨rfl, rfl⟩
  rintro k fr H1 ⟨j, f, rfl, hj, f0, f1, f6, f26, f27, f28, rfl, hri⟩ J hJ
  by_cases hj1 : j < E.length
  · have ee := hE.at_ hj1
    rw [drop_bangI hj1, risF] at hri
    generalize E[j]! = x at *
    by_cases hx : f < x
    · rw [decide_eq_true hx, Bool.true_and] at hri
      repeat' (first | (exfalso; omega) | refine zA ?_ | refine zB ?_ | refine zC ?_ | refine zD ?_ | refine zE ?_ | refine zF ?_ | refine zG ?_ | refine zH ?_ | refine zI ?_ | refine zJ ?_ | refine zK rfl ?_ | refine zL ?_ | refine zM ?_ | refine zN ?_ | refine zO ?_ | refine zP rfl ?_ | refine zQ ?_ | ((first | refine zR ?_ | refine zS ?_ | refine zT ?_ | skip); intro K k; simp (disch := (first | (simp only [yD2, beq_self_eq_true, Nat.reduceLT, Nat.reduceAdd]; done) | ((fail_if_success (apply Bool.eq_iff_iff.2)); first | omega | (simp only [yD2, beq_self_eq_true, Nat.reduceLT, Nat.reduceAdd] <;> omega)) | fail)) only [↓yS, yT, ↓reduceIte, Nat.reduceEqDiff, Nat.reduceAdd, Nat.reduceMul, reduceCtorEq, Int.reduceToNat, g28, f0, f1, f6, f26, f27, f28, hsl.ia, ee]; refine yC (k _ _ ?_); clear k K) | ((first | refine zU ?_ | refine zV ?_ | refine zW ?_); intro A B C D a b c d; simp only [↓yG, Nat.reduceEqDiff, ↓reduceIte, g28, f0, f1, f6, f26, f27, f28, hsl.ia, ee]; (first | refine zX (a ?_) | refine zY (b ?_) | refine zZ (fun hc => c ?_) (fun hc => d ?_)) <;> clear a b c d A B C D <;> try simp only [yL] at hc) | (refine yA ?_; intro A a; simp only [↓yG, Nat.reduceEqDiff, ↓reduceIte, g28, f0, f1, f6, f26, f27, f28, hsl.ia, ee]; refine yB (a ?_); clear a A) | (refine yD ?_; simp only [gresults, ↓yG, Nat.reduceEqDiff, ↓reduceIte, Option.bind_some, gld_1, gld_n, g28, f0, f1, f6, f26, f27, f28, hsl.ia, ee]; refine ⟨_, rfl, ?_⟩; simp only [gone]))
      refine hJ _ _ ⟨E.length - (j + 1), by omega, j + 1, x, rfl, by omega, ?_⟩
      simp only [↓yG, Nat.reduceEqDiff, ↓reduceIte, Int.natCast_add, Int.cast_ofNat_Int, Int.natCast_zero, true_and, and_true, Option.some.injEq, Value.int.injEq, f0, f1, f26, f27]
      all_goals first | exact hri | exact ⟨rfl, hri⟩
    · rw [decide_eq_false hx, Bool.false_and] at hri
      repeat' (first | (exfalso; omega) | refine zA ?_ | refine zB ?_ | refine zC ?_ | refine zD ?_ | refine zE ?_ | refine zF ?_ | refine zG ?_ | refine zH ?_ | refine zI ?_ | refine zJ ?_ | refine zK rfl ?_ | refine zL ?_ | refine zM ?_ | refine zN ?_ | refine zO ?_ | refine zP rfl ?_ | refine zQ ?_ | ((first | refine zR ?_ | refine zS ?_ | refine zT ?_ | skip); intro K k; simp (disch := (first | (simp only [yD2, beq_self_eq_true, Nat.reduceLT, Nat.reduceAdd]; done) | ((fail_if_success (apply Bool.eq_iff_iff.2)); first | omega | (simp only [yD2, beq_self_eq_true, Nat.reduceLT, Nat.reduceAdd] <;> omega)) | fail)) only [↓yS, yT, ↓reduceIte, Nat.reduceEqDiff, Nat.reduceAdd, Nat.reduceMul, reduceCtorEq, Int.reduceToNat, g28, f0, f1, f6, f26, f27, f28, hsl.ia, ee]; refine yC (k _ _ ?_); clear k K) | ((first | refine zU ?_ | refine zV ?_ | refine zW ?_); intro A B C D a b c d; simp only [↓yG, Nat.reduceEqDiff, ↓reduceIte, g28, f0, f1, f6, f26, f27, f28, hsl.ia, ee]; (first | refine zX (a ?_) | refine zY (b ?_) | refine zZ (fun hc => c ?_) (fun hc => d ?_)) <;> clear a b c d A B C D <;> try simp only [yL] at hc) | (refine yA ?_; intro A a; simp only [↓yG, Nat.reduceEqDiff, ↓reduceIte, g28, f0, f1, f6, f26, f27, f28, hsl.ia, ee]; refine yB (a ?_); clear a A) | (refine yD ?_; simp only [gresults, ↓yG, Nat.reduceEqDiff, ↓reduceIte, Option.bind_some, gld_1, gld_n, g28, f0, f1, f6, f26, f27, f28, hsl.ia, ee]; refine ⟨_, rfl, ?_⟩; simp only [gone]))
      exact hP (0, 1) _ (by unfold totF; rw [if_neg (fun h => by rw [hri] at h; cases h.1)]) (Same.refl hw)
  obtain rfl : j = E.length := by omega
  rw [List.drop_length, risF] at hri
  have hge := risF_ge hri
  have hle := fun x hx => risF_le hri hE0 x hx
  rw [hla] at hle
  have htot : totF p.D p.r E = if p.r < E.length then (0, 9) else sumF p.D 0 E 0 := by unfold totF; rw [if_pos ⟨hri, hla, hE0⟩]
  clear hJ hj1
  subst hv
  by_cases hrw : p.r < E.length
  · repeat' (first | (exfalso; omega) | refine zA ?_ | refine zB ?_ | refine zC ?_ | refine zD ?_ | refine zE ?_ | refine zF ?_ | refine zG ?_ | refine zH ?_ | refine zI ?_ | refine zJ ?_ | refine zK rfl ?_ | refine zL ?_ | refine zM ?_ | refine zN ?_ | refine zO ?_ | refine zP rfl ?_ | refine zQ ?_ | ((first | refine zR ?_ | refine zS ?_ | refine zT ?_ | skip); intro K k; simp (disch := (first | (simp only [yD2, beq_self_eq_true, Nat.reduceLT, Nat.reduceAdd]; done) | ((fail_if_success (apply Bool.eq_iff_iff.2)); first | omega | (simp only [yD2, beq_self_eq_true, Nat.reduceLT, Nat.reduceAdd] <;> omega)) | fail)) only [↓yS, yT, ↓reduceIte, Nat.reduceEqDiff, Nat.reduceAdd, Nat.reduceMul, reduceCtorEq, Int.reduceToNat, g28, f0, f1, f6, f26, f27, f28, hsl.len, e, shC_2]; refine yC (k _ _ ?_); clear k K) | ((first | refine zU ?_ | refine zV ?_ | refine zW ?_); intro A B C D a b c d; simp only [↓yG, Nat.reduceEqDiff, ↓reduceIte, g28, f0, f1, f6, f26, f27, f28, hsl.len, e, shC_2]; (first | refine zX (a ?_) | refine zY (b ?_) | refine zZ (fun hc => c ?_) (fun hc => d ?_)) <;> clear a b c d A B C D <;> try simp only [yL] at hc) | (refine yA ?_; intro A a; simp only [↓yG, Nat.reduceEqDiff, ↓reduceIte, g28, f0, f1, f6, f26, f27, f28, hsl.len, e, shC_2]; refine yB (a ?_); clear a A) | (refine yD ?_; simp only [gresults, ↓yG, Nat.reduceEqDiff, ↓reduceIte, Option.bind_some, gld_1, gld_n, g28, f0, f1, f6, f26, f27, f28, hsl.len, e, shC_2]; refine ⟨_, rfl, ?_⟩; simp only [gone]))
    exact hP (0, 9) _ (by rw [htot, if_pos hrw]) (Same.refl hw)
  rw [if_neg hrw] at htot
  repeat' (first | (exfalso; omega) | refine zA ?_ | refine zB ?_ | refine zC ?_ | refine zD ?_ | refine zE ?_ | refine zF ?_ | refine zG ?_ | refine zH ?_ | refine zI ?_ | refine zJ ?_ | refine zK rfl ?_ | refine zL ?_ | refine zM ?_ | refine zN ?_ | refine zO ?_ | refine zP rfl ?_ | refine zQ ?_ | ((first | refine zR ?_ | refine zS ?_ | refine zT ?_ | skip); intro K k; simp (disch := (first | (simp only [yD2, beq_self_eq_true, Nat.reduceLT, Nat.reduceAdd]; done) | ((fail_if_success (apply Bool.eq_iff_iff.2)); first | omega | (simp only [yD2, beq_self_eq_true, Nat.reduceLT, Nat.reduceAdd] <;> omega)) | fail)) only [↓yS, yT, ↓reduceIte, Nat.reduceEqDiff, Nat.reduceAdd, Nat.reduceMul, reduceCtorEq, Int.reduceToNat, g28, f0, f1, f6, f26, f27, f28, hsl.len, e, shC_2]; refine yC (k _ _ ?_); clear k K) | ((first | refine zU ?_ | refine zV ?_ | refine zW ?_); intro A B C D a b c d; simp only [↓yG, Nat.reduceEqDiff, ↓reduceIte, g28, f0, f1, f6, f26, f27, f28, hsl.len, e, shC_2]; (first | refine zX (a ?_) | refine zY (b ?_) | refine zZ (fun hc => c ?_) (fun hc => d ?_)) <;> clear a b c d A B C D <;> try simp only [yL] at hc) | (refine yA ?_; intro A a; simp only [↓yG, Nat.reduceEqDiff, ↓reduceIte, g28, f0, f1, f6, f26, f27, f28, hsl.len, e, shC_2]; refine yB (a ?_); clear a A) | (refine yD ?_; simp only [gresults, ↓yG, Nat.reduceEqDiff, ↓reduceIte, Option.bind_some, gld_1, gld_n, g28, f0, f1, f6, f26, f27, f28, hsl.len, e, shC_2]; refine ⟨_, rfl, ?_⟩; simp only [gone]))
  clear f1 f6 f26 f27 f28 hsu hku
  refine GW_loop (fun k fr H2 => ∃ (j f : Nat) (s : Int), k = E.length - j ∧ j ≤ E.length ∧ fr.get 0 = some (.pointer (some ⟨id, 0, none⟩)) ∧ fr.get 6 = some (.int .i64 f) ∧ fr.get 9 = some (.int .i64 s) ∧ fr.get 45 = some (ev) ∧ fr.get 46 = some (.int .i64 E.length) ∧ fr.get 47 = some (.int .i64 j) ∧ Same H1 H2 ∧ totF p.D p.r E = sumF p.D f (E.drop j) s ∧ risF f (E.drop j) = true ∧ f ≤ p.l.length ∧ 0 ≤ s ∧ s ≤ j * 40000000) ?_ E.length ?_
  rotate_left
  · refine ⟨0, 0, 0, by omega, by omega, ?_⟩
    simp only [↓yG, Nat.reduceEqDiff, ↓reduceIte, Int.natCast_add, Int.cast_ofNat_Int, Int.natCast_zero, true_and, and_true, Option.some.injEq, Value.int.injEq, f0]
    exact ⟨Same.refl hw, htot, hri, by omega, by omega, by omega⟩
  clear f0
  rintro k fr2 H2 ⟨j, f, s, rfl, hj, f0, f6, f9, f45, f46, f47, hS, ht, hri2, hf, hs0, hsb⟩ J hJ
  by_cases hj1 : j < E.length
  · have ee := hE.at_ hj1
    have hmem : E[j]! ∈ E := by rw [getElem!_pos E j hj1]; exact List.getElem_mem _
    have hx0 := hge _ hmem
    have hxn := hle _ hmem
    rw [drop_bangI hj1, risF] at hri2
    rw [drop_bangI hj1, sumF] at ht
    generalize E[j]! = x at *
    simp only [Bool.and_eq_true, decide_eq_true_eq] at hri2
    have hx' : x = ((x.toNat : Nat) : Int) := by omega
    generalize x.toNat = y at *
    subst hx'
    have ee2 : H2.rd (blk ev) (ofs ev + j) = some (.int .i64 (y : Int)) := by rw [hS.rd (hE.rd.lt (by omega))]; exact ee
    repeat' (first | (exfalso; omega) | refine zA ?_ | refine zB ?_ | refine zC ?_ | refine zD ?_ | refine zE ?_ | refine zF ?_ | refine zG ?_ | refine zH ?_ | refine zI ?_ | refine zJ ?_ | refine zK rfl ?_ | refine zL ?_ | refine zM ?_ | refine zN ?_ | refine zO ?_ | refine zP rfl ?_ | refine zQ ?_ | ((first | refine zR ?_ | refine zS ?_ | refine zT ?_ | skip); intro K k; simp (disch := (first | (simp only [yD2, beq_self_eq_true, Nat.reduceLT, Nat.reduceAdd]; done) | ((fail_if_success (apply Bool.eq_iff_iff.2)); first | omega | (simp only [yD2, beq_self_eq_true, Nat.reduceLT, Nat.reduceAdd] <;> omega)) | fail)) only [↓yS, yT, ↓reduceIte, Nat.reduceEqDiff, Nat.reduceAdd, Nat.reduceMul, reduceCtorEq, Int.reduceToNat, g28, f0, f6, f9, f45, f46, f47, hsl.ia, ee2]; refine yC (k _ _ ?_); clear k K) | ((first | refine zU ?_ | refine zV ?_ | refine zW ?_); intro A B C D a b c d; simp only [↓yG, Nat.reduceEqDiff, ↓reduceIte, g28, f0, f6, f9, f45, f46, f47, hsl.ia, ee2]; (first | refine zX (a ?_) | refine zY (b ?_) | refine zZ (fun hc => c ?_) (fun hc => d ?_)) <;> clear a b c d A B C D <;> try simp only [yL] at hc) | (refine yA ?_; intro A a; simp only [↓yG, Nat.reduceEqDiff, ↓reduceIte, g28, f0, f6, f9, f45, f46, f47, hsl.ia, ee2]; refine yB (a ?_); clear a A) | (refine yD ?_; simp only [gresults, ↓yG, Nat.reduceEqDiff, ↓reduceIte, Option.bind_some, gld_1, gld_n, g28, f0, f6, f9, f45, f46, f47, hsl.ia, ee2]; refine ⟨_, rfl, ?_⟩; simp only [gone]))
    refine Gw_s fun K' hK' => G1_call (by simp only [gtarget, ↓GArg.ev, ↓evs, ↓Tr.get_set, Nat.reduceEqDiff, if_true, if_false, ↓reduceIte, Option.map_some, f0, f6, f9, f45, f46, f47]; rfl) (fits_ok (j := y) (hs.later hS) (hk.later hw hS) hf (by omega)) fun r4 H4 hq => hK' _ _ ?_
    obtain ⟨rfl, rfl⟩ := hq
    cases hfit : p.fit f y with
    | false =>
      rw [if_neg (by show ¬ p.fit f y = true; rw [hfit]; decide)] at ht
      repeat' (first | (exfalso; omega) | refine zA ?_ | refine zB ?_ | refine zC ?_ | refine zD ?_ | refine zE ?_ | refine zF ?_ | refine zG ?_ | refine zH ?_ | refine zI ?_ | refine zJ ?_ | refine zK rfl ?_ | refine zL ?_ | refine zM ?_ | refine zN ?_ | refine zO ?_ | refine zP rfl ?_ | refine zQ ?_ | ((first | refine zR ?_ | refine zS ?_ | refine zT ?_ | skip); intro K k; simp (disch := (first | (simp only [yD2, beq_self_eq_true, Nat.reduceLT, Nat.reduceAdd]; done) | ((fail_if_success (apply Bool.eq_iff_iff.2)); first | omega | (simp only [yD2, beq_self_eq_true, Nat.reduceLT, Nat.reduceAdd] <;> omega)) | fail)) only [↓yS, yT, ↓reduceIte, Nat.reduceEqDiff, Nat.reduceAdd, Nat.reduceMul, reduceCtorEq, Int.reduceToNat, g28, f0, f6, f9, f45, f46, f47]; refine yC (k _ _ ?_); clear k K) | ((first | refine zU ?_ | refine zV ?_ | refine zW ?_); intro A B C D a b c d; simp only [↓yG, Nat.reduceEqDiff, ↓reduceIte, g28, f0, f6, f9, f45, f46, f47]; (first | refine zX (a ?_) | refine zY (b ?_) | refine zZ (fun hc => c ?_) (fun hc => d ?_)) <;> clear a b c d A B C D <;> try simp only [yL] at hc) | (refine yA ?_; intro A a; simp only [↓yG, Nat.reduceEqDiff, ↓reduceIte, g28, f0, f6, f9, f45, f46, f47]; refine yB (a ?_); clear a A) | (refine yD ?_; simp only [gresults, ↓yG, Nat.reduceEqDiff, ↓reduceIte, Option.bind_some, gld_1, gld_n, g28, f0, f6, f9, f45, f46, f47]; refine ⟨_, rfl, ?_⟩; simp only [gone]))
      exact hP (0, 11) _ ht hS
    | true =>
      have hok : p.D.ok f y := ⟨by omega, by rw [hD]; omega, hfit⟩
      have h1 : 0 ≤ p.row f y := hG.pos _ _ hok
      have h2 : p.row f y ≤ 40000000 := hG.ub _ _ hok
      rw [if_pos (show p.D.fit f y = true from hfit)] at ht
      repeat' (first | (exfalso; omega) | refine zA ?_ | refine zB ?_ | refine zC ?_ | refine zD ?_ | refine zE ?_ | refine zF ?_ | refine zG ?_ | refine zH ?_ | refine zI ?_ | refine zJ ?_ | refine zK rfl ?_ | refine zL ?_ | refine zM ?_ | refine zN ?_ | refine zO ?_ | refine zP rfl ?_ | refine zQ ?_ | ((first | refine zR ?_ | refine zS ?_ | refine zT ?_ | skip); intro K k; simp (disch := (first | (simp only [yD2, beq_self_eq_true, Nat.reduceLT, Nat.reduceAdd]; done) | ((fail_if_success (apply Bool.eq_iff_iff.2)); first | omega | (simp only [yD2, beq_self_eq_true, Nat.reduceLT, Nat.reduceAdd] <;> omega)) | fail)) only [↓yS, yT, ↓reduceIte, Nat.reduceEqDiff, Nat.reduceAdd, Nat.reduceMul, reduceCtorEq, Int.reduceToNat, g28, f0, f6, f9, f45, f46, f47]; refine yC (k _ _ ?_); clear k K) | ((first | refine zU ?_ | refine zV ?_ | refine zW ?_); intro A B C D a b c d; simp only [↓yG, Nat.reduceEqDiff, ↓reduceIte, g28, f0, f6, f9, f45, f46, f47]; (first | refine zX (a ?_) | refine zY (b ?_) | refine zZ (fun hc => c ?_) (fun hc => d ?_)) <;> clear a b c d A B C D <;> try simp only [yL] at hc) | (refine yA ?_; intro A a; simp only [↓yG, Nat.reduceEqDiff, ↓reduceIte, g28, f0, f6, f9, f45, f46, f47]; refine yB (a ?_); clear a A) | (refine yD ?_; simp only [gresults, ↓yG, Nat.reduceEqDiff, ↓reduceIte, Option.bind_some, gld_1, gld_n, g28, f0, f6, f9, f45, f46, f47]; refine ⟨_, rfl, ?_⟩; simp only [gone]))
      refine Gw_s fun K' hK' => G1_call (by simp only [gtarget, ↓GArg.ev, ↓evs, ↓Tr.get_set, Nat.reduceEqDiff, if_true, if_false, ↓reduceIte, Option.map_some, f0, f6, f9, f45, f46, f47]; rfl) (cost_ok (j := y) hS.wf (hs.later hS) (hk.later hw hS) hf (by omega) (by omega)) fun r5 H5 hq => hK' _ _ ?_
      obtain ⟨rfl, hS5⟩ := hq
      repeat' (first | (exfalso; omega) | refine zA ?_ | refine zB ?_ | refine zC ?_ | refine zD ?_ | refine zE ?_ | refine zF ?_ | refine zG ?_ | refine zH ?_ | refine zI ?_ | refine zJ ?_ | refine zK rfl ?_ | refine zL ?_ | refine zM ?_ | refine zN ?_ | refine zO ?_ | refine zP rfl ?_ | refine zQ ?_ | ((first | refine zR ?_ | refine zS ?_ | refine zT ?_ | skip); intro K k; simp (disch := (first | (simp only [yD2, beq_self_eq_true, Nat.reduceLT, Nat.reduceAdd]; done) | ((fail_if_success (apply Bool.eq_iff_iff.2)); first | omega | (simp only [yD2, beq_self_eq_true, Nat.reduceLT, Nat.reduceAdd] <;> omega)) | fail)) only [↓yS, yT, ↓reduceIte, Nat.reduceEqDiff, Nat.reduceAdd, Nat.reduceMul, reduceCtorEq, Int.reduceToNat, g28, f0, f6, f9, f45, f46, f47]; refine yC (k _ _ ?_); clear k K) | ((first | refine zU ?_ | refine zV ?_ | refine zW ?_); intro A B C D a b c d; simp only [↓yG, Nat.reduceEqDiff, ↓reduceIte, g28, f0, f6, f9, f45, f46, f47]; (first | refine zX (a ?_) | refine zY (b ?_) | refine zZ (fun hc => c ?_) (fun hc => d ?_)) <;> clear a b c d A B C D <;> try simp only [yL] at hc) | (refine yA ?_; intro A a; simp only [↓yG, Nat.reduceEqDiff, ↓reduceIte, g28, f0, f6, f9, f45, f46, f47]; refine yB (a ?_); clear a A) | (refine yD ?_; simp only [gresults, ↓yG, Nat.reduceEqDiff, ↓reduceIte, Option.bind_some, gld_1, gld_n, g28, f0, f6, f9, f45, f46, f47]; refine ⟨_, rfl, ?_⟩; simp only [gone]))
      refine hJ _ _ ⟨E.length - (j + 1), by omega, j + 1, y, s + p.row f y, rfl, by omega, ?_⟩
      simp only [↓yG, Nat.reduceEqDiff, ↓reduceIte, Int.natCast_add, Int.cast_ofNat_Int, Int.natCast_zero, true_and, and_true, Option.some.injEq, Value.int.injEq, f0, f45, f46]
      exact ⟨hS.trans hS5, ht, hri2.2, by omega, by omega, by omega⟩
  · obtain rfl : j = E.length := by omega
    rw [List.drop_length, sumF] at ht
    repeat' (first | (exfalso; omega) | refine zA ?_ | refine zB ?_ | refine zC ?_ | refine zD ?_ | refine zE ?_ | refine zF ?_ | refine zG ?_ | refine zH ?_ | refine zI ?_ | refine zJ ?_ | refine zK rfl ?_ | refine zL ?_ | refine zM ?_ | refine zN ?_ | refine zO ?_ | refine zP rfl ?_ | refine zQ ?_ | ((first | refine zR ?_ | refine zS ?_ | refine zT ?_ | skip); intro K k; simp (disch := (first | (simp only [yD2, beq_self_eq_true, Nat.reduceLT, Nat.reduceAdd]; done) | ((fail_if_success (apply Bool.eq_iff_iff.2)); first | omega | (simp only [yD2, beq_self_eq_true, Nat.reduceLT, Nat.reduceAdd] <;> omega)) | fail)) only [↓yS, yT, ↓reduceIte, Nat.reduceEqDiff, Nat.reduceAdd, Nat.reduceMul, reduceCtorEq, Int.reduceToNat, g28, f0, f6, f9, f45, f46, f47]; refine yC (k _ _ ?_); clear k K) | ((first | refine zU ?_ | refine zV ?_ | refine zW ?_); intro A B C D a b c d; simp only [↓yG, Nat.reduceEqDiff, ↓reduceIte, g28, f0, f6, f9, f45, f46, f47]; (first | refine zX (a ?_) | refine zY (b ?_) | refine zZ (fun hc => c ?_) (fun hc => d ?_)) <;> clear a b c d A B C D <;> try simp only [yL] at hc) | (refine yA ?_; intro A a; simp only [↓yG, Nat.reduceEqDiff, ↓reduceIte, g28, f0, f6, f9, f45, f46, f47]; refine yB (a ?_); clear a A) | (refine yD ?_; simp only [gresults, ↓yG, Nat.reduceEqDiff, ↓reduceIte, Option.bind_some, gld_1, gld_n, g28, f0, f6, f9, f45, f46, f47]; refine ⟨_, rfl, ?_⟩; simp only [gone]))
    exact hP (s, 0) _ ht hS
theorem Cost_ok {H : GHeap} (hw : H.wf) {ev : Value} {p : Par} {E : List Int} (hp : PR H p) (hE : IR H ev E) (hEl : E.length ≤ 4611686018427387904) :
    ∃ r H', gev G 12 [parV p, ev] H = some (r, H') ∧ (r = tv2 (costF p E) ∧ Same H H') := by
  refine gev_GW (f := 12) rfl fun Post hPost => ?_
  have hP : ∀ x H', costF p E = x → Same H H' → Post (tv2 x) H' := fun x H' e h => hPost _ _ ⟨by rw [e], h⟩
  clear hPost
  have hf := hp.kr.flat
  have hb := par_cflat hf
  have hl := par_cells p
  have hS1 := (Same.refl hw).add (.cells (parC p) 0 true)
  have e0 := rdn_par (p := p) (Same.refl hS1.wf)
  simp only [frameOf, Nat.reduceAdd]
  repeat' (first | refine zA ?_ | refine zB ?_ | refine zC ?_ | refine zD ?_ | refine zE ?_ | refine zF ?_ | refine zG ?_ | refine zH ?_ | refine zI ?_ | refine zJ ?_ | refine zK rfl ?_ | refine zL ?_ | refine zM ?_ | refine zN ?_ | refine zO ?_ | refine zP rfl ?_ | refine zQ ?_ | ((first | refine zR ?_ | refine zS ?_ | refine zT ?_ | skip); intro K k; simp (disch := (first | (simp only [yD2, beq_self_eq_true, Nat.reduceLT, Nat.reduceAdd]; done) | ((fail_if_success (apply Bool.eq_iff_iff.2)); first | omega | (simp only [yD2, beq_self_eq_true, Nat.reduceLT, Nat.reduceAdd] <;> omega)) | fail)) only [↓yS, yT, ↓reduceIte, Nat.reduceEqDiff, Nat.reduceAdd, Nat.reduceMul, reduceCtorEq, Int.reduceToNat, g12, hb, hl, e0]; refine yC (k _ _ ?_); clear k K) | ((first | refine zU ?_ | refine zV ?_ | refine zW ?_); intro A B C D a b c d; simp only [↓yG, Nat.reduceEqDiff, ↓reduceIte, g12, hb, hl, e0]; (first | refine zX (a ?_) | refine zY (b ?_) | refine zZ (fun hc => c ?_) (fun hc => d ?_)) <;> clear a b c d A B C D <;> try simp only [yL] at hc) | (refine yA ?_; intro A a; simp only [↓yG, Nat.reduceEqDiff, ↓reduceIte, g12, hb, hl, e0]; refine yB (a ?_); clear a A) | (refine yD ?_; simp only [gresults, ↓yG, Nat.reduceEqDiff, ↓reduceIte, Option.bind_some, gld_1, gld_n, g12, hb, hl, e0]; refine ⟨_, rfl, ?_⟩; simp only [gone]))
  refine Gw_s fun K' hK' => G1_call (by simp only [gtarget, ↓GArg.ev, ↓evs, ↓Tr.get_set, Nat.reduceEqDiff, if_true, if_false, ↓reduceIte, Option.map_some]; rfl) (check_ok hS1.wf (hp.later hw hS1)) fun r1 H1 hq => hK' _ _ ?_
  obtain ⟨rfl, hS2⟩ := hq
  have e1 := rdn_par hS2
  have hS := hS1.trans hS2
  by_cases h0 : parF p = 0
  · rw [h0]
    repeat' (first | (exfalso; omega) | refine zA ?_ | refine zB ?_ | refine zC ?_ | refine zD ?_ | refine zE ?_ | refine zF ?_ | refine zG ?_ | refine zH ?_ | refine zI ?_ | refine zJ ?_ | refine zK rfl ?_ | refine zL ?_ | refine zM ?_ | refine zN ?_ | refine zO ?_ | refine zP rfl ?_ | refine zQ ?_ | ((first | refine zR ?_ | refine zS ?_ | refine zT ?_ | skip); intro K k; simp (disch := (first | (simp only [yD2, beq_self_eq_true, Nat.reduceLT, Nat.reduceAdd]; done) | ((fail_if_success (apply Bool.eq_iff_iff.2)); first | omega | (simp only [yD2, beq_self_eq_true, Nat.reduceLT, Nat.reduceAdd] <;> omega)) | fail)) only [↓yS, yT, ↓reduceIte, Nat.reduceEqDiff, Nat.reduceAdd, Nat.reduceMul, reduceCtorEq, Int.reduceToNat, g12, e1]; refine yC (k _ _ ?_); clear k K) | ((first | refine zU ?_ | refine zV ?_ | refine zW ?_); intro A B C D a b c d; simp only [↓yG, Nat.reduceEqDiff, ↓reduceIte, g12, e1]; (first | refine zX (a ?_) | refine zY (b ?_) | refine zZ (fun hc => c ?_) (fun hc => d ?_)) <;> clear a b c d A B C D <;> try simp only [yL] at hc) | (refine yA ?_; intro A a; simp only [↓yG, Nat.reduceEqDiff, ↓reduceIte, g12, e1]; refine yB (a ?_); clear a A) | (refine yD ?_; simp only [gresults, ↓yG, Nat.reduceEqDiff, ↓reduceIte, Option.bind_some, gld_1, gld_n, g12, e1]; refine ⟨_, rfl, ?_⟩; simp only [gone]))
    have hk : PK H p := ⟨hp, h0⟩
    refine Gw_s fun K' hK' => G1_call (by simp only [gtarget, ↓GArg.ev, ↓evs, ↓Tr.get_set, Nat.reduceEqDiff, if_true, if_false, ↓reduceIte, Option.map_some]; rfl) (open_ok hS.wf (hk.later hw hS)) fun r2 H2 hq => hK' _ _ ?_
    obtain ⟨hsh, hS3⟩ := hq
    have hS' := hS.trans hS3
    repeat' (first | (exfalso; omega) | refine zA ?_ | refine zB ?_ | refine zC ?_ | refine zD ?_ | refine zE ?_ | refine zF ?_ | refine zG ?_ | refine zH ?_ | refine zI ?_ | refine zJ ?_ | refine zK rfl ?_ | refine zL ?_ | refine zM ?_ | refine zN ?_ | refine zO ?_ | refine zP rfl ?_ | refine zQ ?_ | ((first | refine zR ?_ | refine zS ?_ | refine zT ?_ | skip); intro K k; simp (disch := (first | (simp only [yD2, beq_self_eq_true, Nat.reduceLT, Nat.reduceAdd]; done) | ((fail_if_success (apply Bool.eq_iff_iff.2)); first | omega | (simp only [yD2, beq_self_eq_true, Nat.reduceLT, Nat.reduceAdd] <;> omega)) | fail)) only [↓yS, yT, ↓reduceIte, Nat.reduceEqDiff, Nat.reduceAdd, Nat.reduceMul, reduceCtorEq, Int.reduceToNat, g12]; refine yC (k _ _ ?_); clear k K) | ((first | refine zU ?_ | refine zV ?_ | refine zW ?_); intro A B C D a b c d; simp only [↓yG, Nat.reduceEqDiff, ↓reduceIte, g12]; (first | refine zX (a ?_) | refine zY (b ?_) | refine zZ (fun hc => c ?_) (fun hc => d ?_)) <;> clear a b c d A B C D <;> try simp only [yL] at hc) | (refine yA ?_; intro A a; simp only [↓yG, Nat.reduceEqDiff, ↓reduceIte, g12]; refine yB (a ?_); clear a A) | (refine yD ?_; simp only [gresults, ↓yG, Nat.reduceEqDiff, ↓reduceIte, Option.bind_some, gld_1, gld_n, g12]; refine ⟨_, rfl, ?_⟩; simp only [gone]))
    refine Gw_s fun K' hK' => G1_call (by simp only [gtarget, ↓GArg.ev, ↓evs, ↓Tr.get_set, Nat.reduceEqDiff, if_true, if_false, ↓reduceIte, Option.map_some]; rfl) (total_ok hS'.wf hsh (hk.later hw hS') (GArg1.same hE hw hS') hEl) fun r3 H3 hq => hK' _ _ ?_
    obtain ⟨rfl, hS4⟩ := hq
    unfold tv2
    repeat' (first | (exfalso; omega) | refine zA ?_ | refine zB ?_ | refine zC ?_ | refine zD ?_ | refine zE ?_ | refine zF ?_ | refine zG ?_ | refine zH ?_ | refine zI ?_ | refine zJ ?_ | refine zK rfl ?_ | refine zL ?_ | refine zM ?_ | refine zN ?_ | refine zO ?_ | refine zP rfl ?_ | refine zQ ?_ | ((first | refine zR ?_ | refine zS ?_ | refine zT ?_ | skip); intro K k; simp (disch := (first | (simp only [yD2, beq_self_eq_true, Nat.reduceLT, Nat.reduceAdd]; done) | ((fail_if_success (apply Bool.eq_iff_iff.2)); first | omega | (simp only [yD2, beq_self_eq_true, Nat.reduceLT, Nat.reduceAdd] <;> omega)) | fail)) only [↓yS, yT, ↓reduceIte, Nat.reduceEqDiff, Nat.reduceAdd, Nat.reduceMul, reduceCtorEq, Int.reduceToNat, g12]; refine yC (k _ _ ?_); clear k K) | ((first | refine zU ?_ | refine zV ?_ | refine zW ?_); intro A B C D a b c d; simp only [↓yG, Nat.reduceEqDiff, ↓reduceIte, g12]; (first | refine zX (a ?_) | refine zY (b ?_) | refine zZ (fun hc => c ?_) (fun hc => d ?_)) <;> clear a b c d A B C D <;> try simp only [yL] at hc) | (refine yA ?_; intro A a; simp only [↓yG, Nat.reduceEqDiff, ↓reduceIte, g12]; refine yB (a ?_); clear a A) | (refine yD ?_; simp only [gresults, ↓yG, Nat.reduceEqDiff, ↓reduceIte, Option.bind_some, gld_1, gld_n, g12]; refine ⟨_, rfl, ?_⟩; simp only [gone]))
    refine hP _ _ ?_ (hS'.trans hS4)
    unfold costF; rw [if_neg (fun h => h h0)]
  · have h0' : (parF p = 0) = False := eq_false h0
    unfold tv2 at hP
    repeat' (first | (exfalso; omega) | refine zA ?_ | refine zB ?_ | refine zC ?_ | refine zD ?_ | refine zE ?_ | refine zF ?_ | refine zG ?_ | refine zH ?_ | refine zI ?_ | refine zJ ?_ | refine zK rfl ?_ | refine zL ?_ | refine zM ?_ | refine zN ?_ | refine zO ?_ | refine zP rfl ?_ | refine zQ ?_ | ((first | refine zR ?_ | refine zS ?_ | refine zT ?_ | skip); intro K k; simp (disch := (first | (simp only [yD2, beq_self_eq_true, Nat.reduceLT, Nat.reduceAdd]; done) | ((fail_if_success (apply Bool.eq_iff_iff.2)); first | omega | (simp only [yD2, beq_self_eq_true, Nat.reduceLT, Nat.reduceAdd] <;> omega)) | fail)) only [↓yS, yT, ↓reduceIte, Nat.reduceEqDiff, Nat.reduceAdd, Nat.reduceMul, reduceCtorEq, Int.reduceToNat, g12, h0']; refine yC (k _ _ ?_); clear k K) | ((first | refine zU ?_ | refine zV ?_ | refine zW ?_); intro A B C D a b c d; simp only [↓yG, Nat.reduceEqDiff, ↓reduceIte, g12, h0']; (first | refine zX (a ?_) | refine zY (b ?_) | refine zZ (fun hc => c ?_) (fun hc => d ?_)) <;> clear a b c d A B C D <;> try simp only [yL] at hc) | (refine yA ?_; intro A a; simp only [↓yG, Nat.reduceEqDiff, ↓reduceIte, g12, h0']; refine yB (a ?_); clear a A) | (refine yD ?_; simp only [gresults, ↓yG, Nat.reduceEqDiff, ↓reduceIte, Option.bind_some, gld_1, gld_n, g12, h0']; refine ⟨_, rfl, ?_⟩; simp only [gone]))
    refine hP (0, parF p) _ ?_ hS
    unfold costF; rw [if_pos h0]
end Go.Gh
