/-
  glossary: the law Parses.
-/
import Derived.Test.YtfldcmeecpgpeaaDoorGlWR
import Derived.Test.YtfldcmeecpgpeaaDoorK5
namespace Go.Gh
set_option linter.unusedSimpArgs false
set_option linter.unusedVariables false
open Go.RowKit Go.Lib
set_option maxRecDepth 4000
theorem same_ok {H : GHeap} {v w : Value} {l m : List Tm} (hv : TR H v l) (hw : TR H w m) (he : l.map Tm.t0 = m.map Tm.t0) :
    ∃ r H', gev G 19 [v, w] H = some (r, H') ∧ (r = .bool true ∧ H' = H) := by
  refine gev_GW (f := 19) rfl fun Post hPost => ?_
  have hsl := hv.isSl
  have hsl2 := hw.isSl
  have hlen : l.length = m.length := by simpa using congrArg List.length he
  rw [← hlen] at hsl2
  have hle := hv.le
  have hat : ∀ i, i < l.length → l[i]!.s = m[i]!.s ∧ l[i]!.g = m[i]!.g := fun i hi => by
    have h1 : (l.map Tm.t0)[i]? = (m.map Tm.t0)[i]? := by rw [he]
    rw [List.getElem?_map, List.getElem?_map, List.getElem?_eq_getElem hi, List.getElem?_eq_getElem (by omega)] at h1
    simp only [Option.map_some, Option.some.injEq, Tm.t0, T0.mk.injEq] at h1
    rw [getElem!_pos l i hi, getElem!_pos m i (by omega)]
    exact h1
  simp only [frameOf, Nat.reduceAdd]
  repeat' (first | (exfalso; omega) | refine zn ?_ | refine zK rfl ?_ | refine zP rfl ?_ | ((first | refine zm ?_ | skip); intro _; intros; simp (disch := first | exact zd | fail) only [↓yS, yT, ↓reduceIte, Nat.reduceEqDiff, Nat.reduceAdd, Nat.reduceMul, reduceCtorEq, Int.reduceToNat, g19, hsl.len, hsl2.len]; first | (rename_i K k; refine yC (k _ _ ?_); clear k K) | (rename_i A B C D a b c d; (first | refine zX (a ?_) | refine zY (b ?_) | refine zZ (fun hc => c ?_) (fun hc => d ?_)) <;> clear a b c d A B C D <;> try simp only [yL] at hc)) | (refine yA ?_; intro A a; simp only [↓yG, Nat.reduceEqDiff, ↓reduceIte, g19, hsl.len, hsl2.len]; refine yB (a ?_); clear a A) | (refine yD ?_; simp only [gresults, ↓yG, Nat.reduceEqDiff, ↓reduceIte, Option.bind_some, gld_1, gld_n, g19, hsl.len, hsl2.len]; refine ⟨_, rfl, ?_⟩; simp only [gone]) | refine zA ?_ | refine zB ?_ | refine zF ?_)
  refine GW_loop (fun k fr H1 => ∃ (j : Nat), k = l.length - j ∧ j ≤ l.length ∧ fr.get 0 = some (v) ∧ fr.get 1 = some (w) ∧ fr.get 13 = some (.int .i64 l.length) ∧ fr.get 14 = some (.int .i64 j) ∧ H1 = H) ?_ l.length ?_
  rotate_left
  · refine ⟨0, by omega, by omega, ?_⟩
    simp only [↓yG, Nat.reduceEqDiff, ↓reduceIte, Int.natCast_add, Int.cast_ofNat_Int, Int.natCast_zero, true_and, and_true, Option.some.injEq, Value.int.injEq]
  rintro k fr H1 ⟨j, rfl, hj, f0, f1, f13, f14, rfl⟩ J hJ
  by_cases hj1 : j < l.length
  · obtain ⟨hs, hg⟩ := hat j hj1
    have hj2 : j < m.length := by omega
    have a0 := hv.row (c := 0) hj1 (by decide)
    have a1 := hv.row (c := 1) hj1 (by decide)
    have b0 := hw.row (c := 0) hj2 (by decide)
    have b1 := hw.row (c := 1) hj2 (by decide)
    have hA := hv.tg _ (bang_mem hj1)
    have hB := hw.tg _ (bang_mem hj2)
    have hAl := (hv.sz _ (bang_mem hj1)).2.1
    generalize l[j]! = x at *
    generalize m[j]! = y at *
    obtain ⟨xs, xv, xg⟩ := x
    obtain ⟨ys, yv, yg⟩ := y
    simp only at hs hg hA hB hAl
    subst hs hg
    rw [Nat.add_zero] at a0 b0
    have hA1 := hA.rd.isSl
    have hB1 := hB.rd.isSl
    have a0' : H1.rd (blk v) (ofs v + j * 2) = some (.string (strB xs)) := a0
    have b0' : H1.rd (blk w) (ofs w + j * 2) = some (.string (strB xs)) := b0
    have a1' : H1.rd (blk v) (ofs v + j * 2 + 1) = some xv := a1
    have b1' : H1.rd (blk w) (ofs w + j * 2 + 1) = some yv := b1
    have hse : ∀ e, gbin .neq e (.string (strB xs)) (.string (strB xs)) = some (.bool false) := fun e => by
      rw [gb_neqB]; simp
    repeat' (first | (exfalso; omega) | refine zn ?_ | refine zK rfl ?_ | refine zP rfl ?_ | ((first | refine zm ?_ | skip); intro _; intros; simp (disch := first | exact zd | fail) only [↓yS, yT, ↓reduceIte, Nat.reduceEqDiff, Nat.reduceAdd, Nat.reduceMul, reduceCtorEq, Int.reduceToNat, g19, f0, f1, f13, f14, hsl.ia, hsl2.ia, a0', b0', a1', b1', hse, hA1.len, hB1.len]; first | (rename_i K k; refine yC (k _ _ ?_); clear k K) | (rename_i A B C D a b c d; (first | refine zX (a ?_) | refine zY (b ?_) | refine zZ (fun hc => c ?_) (fun hc => d ?_)) <;> clear a b c d A B C D <;> try simp only [yL] at hc)) | (refine yA ?_; intro A a; simp only [↓yG, Nat.reduceEqDiff, ↓reduceIte, g19, f0, f1, f13, f14, hsl.ia, hsl2.ia, a0', b0', a1', b1', hse, hA1.len, hB1.len]; refine yB (a ?_); clear a A) | (refine yD ?_; simp only [gresults, ↓yG, Nat.reduceEqDiff, ↓reduceIte, Option.bind_some, gld_1, gld_n, g19, f0, f1, f13, f14, hsl.ia, hsl2.ia, a0', b0', a1', b1', hse, hA1.len, hB1.len]; refine ⟨_, rfl, ?_⟩; simp only [gone]) | refine zA ?_ | refine zB ?_ | refine zF ?_)
    refine GW_loop (fun k fr H2 => ∃ (i : Nat), k = xg.length - i ∧ i ≤ xg.length ∧ fr.get 0 = some (v) ∧ fr.get 1 = some (w) ∧ fr.get 5 = some (.int .i64 j) ∧ fr.get 13 = some (.int .i64 l.length) ∧ fr.get 14 = some (.int .i64 j) ∧ fr.get 48 = some (.int .i64 xg.length) ∧ fr.get 49 = some (.int .i64 i) ∧ H2 = H1) ?_ xg.length ?_
    rotate_left
    · refine ⟨0, by omega, by omega, ?_⟩
      simp only [↓yG, Nat.reduceEqDiff, ↓reduceIte, Int.natCast_add, Int.cast_ofNat_Int, Int.natCast_zero, true_and, and_true, Option.some.injEq, Value.int.injEq, f0, f1, f13, f14]
    rintro k2 fr2 H2 ⟨i, rfl, hi, i0, i1, i5, i13, i14, i48, i49, rfl⟩ J2 hJ2
    by_cases hi1 : i < xg.length
    · have c1 := SRd.at_ hA hi1
      have c2 := SRd.at_ hB hi1
      have hse2 : ∀ e, gbin .neq e (.string (strB xg[i]!)) (.string (strB xg[i]!)) = some (.bool false) := fun e => by
        rw [gb_neqB]; simp
      repeat' (first | (exfalso; omega) | refine zn ?_ | refine zK rfl ?_ | refine zP rfl ?_ | ((first | refine zm ?_ | skip); intro _; intros; simp (disch := first | exact zd | fail) only [↓yS, yT, ↓reduceIte, Nat.reduceEqDiff, Nat.reduceAdd, Nat.reduceMul, reduceCtorEq, Int.reduceToNat, g19, i0, i1, i5, i13, i14, i48, i49, hsl.ia, hsl2.ia, a1', b1', hA1.ia, hB1.ia, c1, c2, hse2]; first | (rename_i K k; refine yC (k _ _ ?_); clear k K) | (rename_i A B C D a b c d; (first | refine zX (a ?_) | refine zY (b ?_) | refine zZ (fun hc => c ?_) (fun hc => d ?_)) <;> clear a b c d A B C D <;> try simp only [yL] at hc)) | (refine yA ?_; intro A a; simp only [↓yG, Nat.reduceEqDiff, ↓reduceIte, g19, i0, i1, i5, i13, i14, i48, i49, hsl.ia, hsl2.ia, a1', b1', hA1.ia, hB1.ia, c1, c2, hse2]; refine yB (a ?_); clear a A) | (refine yD ?_; simp only [gresults, ↓yG, Nat.reduceEqDiff, ↓reduceIte, Option.bind_some, gld_1, gld_n, g19, i0, i1, i5, i13, i14, i48, i49, hsl.ia, hsl2.ia, a1', b1', hA1.ia, hB1.ia, c1, c2, hse2]; refine ⟨_, rfl, ?_⟩; simp only [gone]) | refine zA ?_ | refine zB ?_ | refine zF ?_)
      refine hJ2 _ _ ⟨xg.length - (i + 1), by omega, i + 1, rfl, by omega, ?_⟩
      simp only [↓yG, Nat.reduceEqDiff, ↓reduceIte, Int.natCast_add, Int.cast_ofNat_Int, Int.natCast_zero, true_and, and_true, Option.some.injEq, Value.int.injEq, i0, i1, i5, i13, i14, i48, i49]
    · obtain rfl : i = xg.length := by omega
      repeat' (first | (exfalso; omega) | refine zn ?_ | refine zK rfl ?_ | refine zP rfl ?_ | ((first | refine zm ?_ | skip); intro _; intros; simp (disch := first | exact zd | fail) only [↓yS, yT, ↓reduceIte, Nat.reduceEqDiff, Nat.reduceAdd, Nat.reduceMul, reduceCtorEq, Int.reduceToNat, g19, i0, i1, i5, i13, i14, i48, i49]; first | (rename_i K k; refine yC (k _ _ ?_); clear k K) | (rename_i A B C D a b c d; (first | refine zX (a ?_) | refine zY (b ?_) | refine zZ (fun hc => c ?_) (fun hc => d ?_)) <;> clear a b c d A B C D <;> try simp only [yL] at hc)) | (refine yA ?_; intro A a; simp only [↓yG, Nat.reduceEqDiff, ↓reduceIte, g19, i0, i1, i5, i13, i14, i48, i49]; refine yB (a ?_); clear a A) | (refine yD ?_; simp only [gresults, ↓yG, Nat.reduceEqDiff, ↓reduceIte, Option.bind_some, gld_1, gld_n, g19, i0, i1, i5, i13, i14, i48, i49]; refine ⟨_, rfl, ?_⟩; simp only [gone]) | refine zA ?_ | refine zB ?_ | refine zF ?_)
      refine hJ _ _ ⟨l.length - (j + 1), by omega, j + 1, rfl, by omega, ?_⟩
      simp only [↓yG, Nat.reduceEqDiff, ↓reduceIte, Int.natCast_add, Int.cast_ofNat_Int, Int.natCast_zero, true_and, and_true, Option.some.injEq, Value.int.injEq, i0, i1, i5, i13, i14, i48, i49]
  · obtain rfl : j = l.length := by omega
    repeat' (first | (exfalso; omega) | refine zn ?_ | refine zK rfl ?_ | refine zP rfl ?_ | ((first | refine zm ?_ | skip); intro _; intros; simp (disch := first | exact zd | fail) only [↓yS, yT, ↓reduceIte, Nat.reduceEqDiff, Nat.reduceAdd, Nat.reduceMul, reduceCtorEq, Int.reduceToNat, g19, f0, f1, f13, f14]; first | (rename_i K k; refine yC (k _ _ ?_); clear k K) | (rename_i A B C D a b c d; (first | refine zX (a ?_) | refine zY (b ?_) | refine zZ (fun hc => c ?_) (fun hc => d ?_)) <;> clear a b c d A B C D <;> try simp only [yL] at hc)) | (refine yA ?_; intro A a; simp only [↓yG, Nat.reduceEqDiff, ↓reduceIte, g19, f0, f1, f13, f14]; refine yB (a ?_); clear a A) | (refine yD ?_; simp only [gresults, ↓yG, Nat.reduceEqDiff, ↓reduceIte, Option.bind_some, gld_1, gld_n, g19, f0, f1, f13, f14]; refine ⟨_, rfl, ?_⟩; simp only [gone]) | refine zA ?_ | refine zB ?_ | refine zF ?_)
    exact hPost _ _ ⟨rfl, rfl⟩
theorem neD_self (a b c : Int) : gbin .neq (some (.parts [(0, none, .int), (1, none, .int), (2, none, .int)])) (.agg #[.int .i64 a, .int .i64 b, .int .i64 c]) (.agg #[.int .i64 a, .int .i64 b, .int .i64 c]) = some (.bool false) := by
  have h0 : geqIn 12 (.parts [(0, none, .int), (1, none, .int), (2, none, .int)]) (.agg #[.int .i64 a, .int .i64 b, .int .i64 c]) (.agg #[.int .i64 a, .int .i64 b, .int .i64 c]) = match geqIn 11 .int (.int .i64 a) (.int .i64 a) with
    | some true => (match geqIn 11 .int (.int .i64 b) (.int .i64 b) with
      | some true => (match geqIn 11 .int (.int .i64 c) (.int .i64 c) with
        | some true => some true
        | z => z)
      | z => z)
    | z => z := rfl
  have hI : ∀ x : Int, geqIn 11 .int (.int .i64 x) (.int .i64 x) = some true := fun x => by simp [geqIn]
  simp only [hI] at h0
  simp only [gbin, geq, h0]; rfl
theorem parses_ok {H : GHeap} (hw : H.wf) {src : List UInt8} (hl : src.length ≤ 140737488355328) : ∃ r H', gev G 5 [.string (strB src)] H = some (r, H') ∧ r = .bool true := by
  refine gev_GW (f := 5) rfl fun Post hPost => ?_
  have hP : ∀ H', Post (.bool true) H' := fun H' => hPost _ _ rfl
  simp only [frameOf, Nat.reduceAdd]
  repeat' (first | refine zn ?_ | refine zK rfl ?_ | refine zP rfl ?_ | ((first | refine zm ?_ | skip); intro _; intros; simp (disch := first | exact zd | fail) only [↓yS, yT, ↓reduceIte, Nat.reduceEqDiff, Nat.reduceAdd, Nat.reduceMul, reduceCtorEq, Int.reduceToNat, g5]; first | (rename_i K k; refine yC (k _ _ ?_); clear k K) | (rename_i A B C D a b c d; (first | refine zX (a ?_) | refine zY (b ?_) | refine zZ (fun hc => c ?_) (fun hc => d ?_)) <;> clear a b c d A B C D <;> try simp only [yL] at hc)) | (refine yA ?_; intro A a; simp only [↓yG, Nat.reduceEqDiff, ↓reduceIte, g5]; refine yB (a ?_); clear a A) | (refine yD ?_; simp only [gresults, ↓yG, Nat.reduceEqDiff, ↓reduceIte, Option.bind_some, gld_1, gld_n, g5]; refine ⟨_, rfl, ?_⟩; simp only [gone]) | refine zA ?_ | refine zB ?_ | refine zF ?_)
  refine Gw_s fun K' hK' => G1_call (by simp only [gtarget, ↓GArg.ev, ↓evs, ↓Tr.get_set, Nat.reduceEqDiff, if_true, if_false, ↓reduceIte, Option.map_some]; rfl) (awake_ok _) fun r1 H1 hq => hK' _ _ ?_
  obtain ⟨rfl, rfl⟩ := hq
  repeat' (first | refine zn ?_ | refine zK rfl ?_ | refine zP rfl ?_ | ((first | refine zm ?_ | skip); intro _; intros; simp (disch := first | exact zd | fail) only [↓yS, yT, ↓reduceIte, Nat.reduceEqDiff, Nat.reduceAdd, Nat.reduceMul, reduceCtorEq, Int.reduceToNat, g5]; first | (rename_i K k; refine yC (k _ _ ?_); clear k K) | (rename_i A B C D a b c d; (first | refine zX (a ?_) | refine zY (b ?_) | refine zZ (fun hc => c ?_) (fun hc => d ?_)) <;> clear a b c d A B C D <;> try simp only [yL] at hc)) | (refine yA ?_; intro A a; simp only [↓yG, Nat.reduceEqDiff, ↓reduceIte, g5]; refine yB (a ?_); clear a A) | (refine yD ?_; simp only [gresults, ↓yG, Nat.reduceEqDiff, ↓reduceIte, Option.bind_some, gld_1, gld_n, g5]; refine ⟨_, rfl, ?_⟩; simp only [gone]) | refine zA ?_ | refine zB ?_ | refine zF ?_)
  refine Gw_s fun K' hK' => G1_call (by simp only [gtarget, ↓GArg.ev, ↓evs, ↓Tr.get_set, Nat.reduceEqDiff, if_true, if_false, ↓reduceIte, Option.map_some]; rfl) (Parse_ok hw hl) fun r2 H2 hq => hK' _ _ ?_
  obtain ⟨tv, dv, T, rfl, hT, hTe, hD, hS2⟩ := hq
  repeat' (first | refine zn ?_ | refine zK rfl ?_ | refine zP rfl ?_ | ((first | refine zm ?_ | skip); intro _; intros; simp (disch := first | exact zd | fail) only [↓yS, yT, ↓reduceIte, Nat.reduceEqDiff, Nat.reduceAdd, Nat.reduceMul, reduceCtorEq, Int.reduceToNat, g5]; first | (rename_i K k; refine yC (k _ _ ?_); clear k K) | (rename_i A B C D a b c d; (first | refine zX (a ?_) | refine zY (b ?_) | refine zZ (fun hc => c ?_) (fun hc => d ?_)) <;> clear a b c d A B C D <;> try simp only [yL] at hc)) | (refine yA ?_; intro A a; simp only [↓yG, Nat.reduceEqDiff, ↓reduceIte, g5]; refine yB (a ?_); clear a A) | (refine yD ?_; simp only [gresults, ↓yG, Nat.reduceEqDiff, ↓reduceIte, Option.bind_some, gld_1, gld_n, g5]; refine ⟨_, rfl, ?_⟩; simp only [gone]) | refine zA ?_ | refine zB ?_ | refine zF ?_)
  refine Gw_s fun K' hK' => G1_call (by simp only [gtarget, ↓GArg.ev, ↓evs, ↓Tr.get_set, Nat.reduceEqDiff, if_true, if_false, ↓reduceIte, Option.map_some]; rfl) (rParse_ok hS2.wf hl) fun r3 H3 hq => hK' _ _ ?_
  obtain ⟨uv, ev, U, rfl, hU, hUe, hE, hS3⟩ := hq
  repeat' (first | refine zn ?_ | refine zK rfl ?_ | refine zP rfl ?_ | ((first | refine zm ?_ | skip); intro _; intros; simp (disch := first | exact zd | fail) only [↓yS, yT, ↓reduceIte, Nat.reduceEqDiff, Nat.reduceAdd, Nat.reduceMul, reduceCtorEq, Int.reduceToNat, g5]; first | (rename_i K k; refine yC (k _ _ ?_); clear k K) | (rename_i A B C D a b c d; (first | refine zX (a ?_) | refine zY (b ?_) | refine zZ (fun hc => c ?_) (fun hc => d ?_)) <;> clear a b c d A B C D <;> try simp only [yL] at hc)) | (refine yA ?_; intro A a; simp only [↓yG, Nat.reduceEqDiff, ↓reduceIte, g5]; refine yB (a ?_); clear a A) | (refine yD ?_; simp only [gresults, ↓yG, Nat.reduceEqDiff, ↓reduceIte, Option.bind_some, gld_1, gld_n, g5]; refine ⟨_, rfl, ?_⟩; simp only [gone]) | refine zA ?_ | refine zB ?_ | refine zF ?_)
  refine Gw_s fun K' hK' => G1_call (by simp only [gtarget, ↓GArg.ev, ↓evs, ↓Tr.get_set, Nat.reduceEqDiff, if_true, if_false, ↓reduceIte, Option.map_some]; rfl) (same_ok (hT.later hS2.wf hS3) hU (by rw [hTe, hUe])) fun r4 H4 hq => hK' _ _ ?_
  obtain ⟨rfl, rfl⟩ := hq
  have hD3 : GArg1 H4 3 dv (parD src).length (DgC (parD src)) := GArg1.same hD hS2.wf hS3
  have hsl := hD3.rd.isSl
  have hsl2 := hE.rd.isSl
  have hDl : (parD src).length ≤ 50 := by
    unfold parD splD
    repeat' split
    all_goals simp [List.length_take]
    all_goals omega
  generalize parD src = D at *
  repeat' (first | (exfalso; omega) | refine zn ?_ | refine zK rfl ?_ | refine zP rfl ?_ | ((first | refine zm ?_ | skip); intro _; intros; simp (disch := first | exact zd | fail) only [↓yS, yT, ↓reduceIte, Nat.reduceEqDiff, Nat.reduceAdd, Nat.reduceMul, reduceCtorEq, Int.reduceToNat, g5, hsl.len, hsl2.len]; first | (rename_i K k; refine yC (k _ _ ?_); clear k K) | (rename_i A B C D a b c d; (first | refine zX (a ?_) | refine zY (b ?_) | refine zZ (fun hc => c ?_) (fun hc => d ?_)) <;> clear a b c d A B C D <;> try simp only [yL] at hc)) | (refine yA ?_; intro A a; simp only [↓yG, Nat.reduceEqDiff, ↓reduceIte, g5, hsl.len, hsl2.len]; refine yB (a ?_); clear a A) | (refine yD ?_; simp only [gresults, ↓yG, Nat.reduceEqDiff, ↓reduceIte, Option.bind_some, gld_1, gld_n, g5, hsl.len, hsl2.len]; refine ⟨_, rfl, ?_⟩; simp only [gone]) | refine zA ?_ | refine zB ?_ | refine zF ?_)
  refine GW_loop (fun k fr H1 => ∃ (j : Nat), k = D.length - j ∧ j ≤ D.length ∧ fr.get 4 = some (dv) ∧ fr.get 6 = some (ev) ∧ fr.get 32 = some (.int .i64 D.length) ∧ fr.get 33 = some (.int .i64 j) ∧ H1 = H4) ?_ D.length ?_
  rotate_left
  · refine ⟨0, by omega, by omega, ?_⟩
    simp only [↓yG, Nat.reduceEqDiff, ↓reduceIte, Int.natCast_add, Int.cast_ofNat_Int, Int.natCast_zero, true_and, and_true, Option.some.injEq, Value.int.injEq]
  rintro k fr H5 ⟨j, rfl, hj, f4, f6, f32, f33, rfl⟩ J hJ
  by_cases hj1 : j < D.length
  · have e1 := GRd.rowN (f := dgC) hD3.rd dgC_len (by decide) hj1
    have e2 := GRd.rowN (f := dgC) hE.rd dgC_len (by decide) hj1
    have hne := neD_self (D[j]!).l (D[j]!).c (D[j]!).e
    unfold dgC at e1 e2
    generalize D[j]! = d at *
    repeat' (first | (exfalso; omega) | refine zn ?_ | refine zK rfl ?_ | refine zP rfl ?_ | ((first | refine zm ?_ | skip); intro _; intros; simp (disch := first | exact zd | fail) only [↓yS, yT, ↓reduceIte, Nat.reduceEqDiff, Nat.reduceAdd, Nat.reduceMul, reduceCtorEq, Int.reduceToNat, g5, f4, f6, f32, f33, hsl.ia, hsl2.ia, e1, e2, hne]; first | (rename_i K k; refine yC (k _ _ ?_); clear k K) | (rename_i A B C D a b c d; (first | refine zX (a ?_) | refine zY (b ?_) | refine zZ (fun hc => c ?_) (fun hc => d ?_)) <;> clear a b c d A B C D <;> try simp only [yL] at hc)) | (refine yA ?_; intro A a; simp only [↓yG, Nat.reduceEqDiff, ↓reduceIte, g5, f4, f6, f32, f33, hsl.ia, hsl2.ia, e1, e2, hne]; refine yB (a ?_); clear a A) | (refine yD ?_; simp only [gresults, ↓yG, Nat.reduceEqDiff, ↓reduceIte, Option.bind_some, gld_1, gld_n, g5, f4, f6, f32, f33, hsl.ia, hsl2.ia, e1, e2, hne]; refine ⟨_, rfl, ?_⟩; simp only [gone]) | refine zA ?_ | refine zB ?_ | refine zF ?_)
    refine hJ _ _ ⟨D.length - (j + 1), by omega, j + 1, rfl, by omega, ?_⟩
    simp only [↓yG, Nat.reduceEqDiff, ↓reduceIte, Int.natCast_add, Int.cast_ofNat_Int, Int.natCast_zero, true_and, and_true, Option.some.injEq, Value.int.injEq, f4, f6, f32, f33]
  · obtain rfl : j = D.length := by omega
    repeat' (first | (exfalso; omega) | refine zn ?_ | refine zK rfl ?_ | refine zP rfl ?_ | ((first | refine zm ?_ | skip); intro _; intros; simp (disch := first | exact zd | fail) only [↓yS, yT, ↓reduceIte, Nat.reduceEqDiff, Nat.reduceAdd, Nat.reduceMul, reduceCtorEq, Int.reduceToNat, g5, f4, f6, f32, f33]; first | (rename_i K k; refine yC (k _ _ ?_); clear k K) | (rename_i A B C D a b c d; (first | refine zX (a ?_) | refine zY (b ?_) | refine zZ (fun hc => c ?_) (fun hc => d ?_)) <;> clear a b c d A B C D <;> try simp only [yL] at hc)) | (refine yA ?_; intro A a; simp only [↓yG, Nat.reduceEqDiff, ↓reduceIte, g5, f4, f6, f32, f33]; refine yB (a ?_); clear a A) | (refine yD ?_; simp only [gresults, ↓yG, Nat.reduceEqDiff, ↓reduceIte, Option.bind_some, gld_1, gld_n, g5, f4, f6, f32, f33]; refine ⟨_, rfl, ?_⟩; simp only [gone]) | refine zA ?_ | refine zB ?_ | refine zF ?_)
    exact hP _
theorem parses_law {H : GHeap} (hw : H.wf) {gvs : List Value} (h : RdAs H [.str] gvs) : ∃ v H2, gev G 5 gvs H = some (v, H2) ∧ v = .bool true := by
  obtain ⟨v, _, rfl, h1, rfl⟩ := h
  obtain ⟨s, rfl, hs⟩ := RdAQ.str_ h1
  have h2 : s = strB s.data.toList := by rw [strB_of]
  have h3 : s.data.toList.length = s.size := rfl
  rw [h2]
  refine parses_ok hw ?_
  rw [h3]
  have : reachBytes ≤ 140737488355328 := by decide
  omega
end Go.Gh
