/-
  style, walked: Text.
-/
import Derived.Test.YtgbibkkcnkaelaaDoorSyT3
namespace Go.Gh
set_option linter.unusedSimpArgs false
set_option linter.unusedVariables false
open Go.RowKit
set_option maxRecDepth 4000

theorem add_l {e : Option EqK} {a b : List UInt8} {A : ByteArray} (hA : A = strB a) (h : a.length + b.length ≤ 9223372036854775807) : gbin .add e (.string A) (.string (strB b)) = some (.string (strB (a ++ b))) := by
  rw [hA]; exact gb_addB h
theorem run_in_text {l : List SR} {j : Nat} (h : j < l.length) : (textB (l.take j)).length + (if j = 0 then run0 l[0]! else runT l[j]!).length ≤ (textB l).length := by
  have h1 := textB_le l (j + 1)
  rw [textB_take h, List.length_append] at h1
  exact h1
theorem runX_len (x : SR) (j : Nat) : (esc x.t).length ≤ (if j = 0 then run0 x else runT x).length := by
  split
  · unfold run0; split
    · omega
    · unfold runT; simp only [List.length_append]; omega
  · unfold runT; simp only [List.length_append]; omega
theorem runT_len (x : SR) : (runT x).length = 2 + (tagB x).length + (esc x.t).length := by
  unfold runT; simp only [List.length_append, List.length_cons, List.length_nil]; omega
theorem tagB_len (x : SR) : (tagB x).length ≤ 9 + (esc x.y).length := by
  have := letB_len x.s
  unfold tagB
  rw [List.length_append]
  split <;> simp <;> omega
set_option maxHeartbeats 1000000 in
theorem text_ok {H : GHeap} (hw : H.wf) {v : Value} {l : List SR} (hv : RR H v l) (hll : l.length ≤ 4611686018427387904) (hsh : ShR l) (hc0 : ∀ x ∈ l, 0 ≤ x.s.c) (ht : checkF l = 0 → (textB l).length < 140737488355328) :
    ∃ r H', gev G 26 [rowV v] H = some (r, H') ∧ (r = .tuple #[.string (strB (if checkF l = 0 then textB l else [])), .int .i64 (checkF l)] ∧ Same H H') := by
  refine gev_GW (f := 26) rfl fun Post hPost => ?_
  have hlim := hw.1
  have hf := hv.flat
  have hsl := hv.isSl
  simp only [frameOf, Nat.reduceAdd]
  have hS0 : Same H (H.add (some (.cells [v] 0 true))) := (Same.refl hw).add _
  have kr : (H.add (some (.cells [v] 0 true))).rdn H.len 0 1 = some (rowV v) := rdn_add_all (n := 1) rfl rfl
  have k0 : (H.add (some (.cells [v] 0 true))).rd H.len 0 = some v := by rw [rd_add_eq rfl]; rfl
  have hl0 : (H.add (some (.cells [v] 0 true))).len = H.len + 1 := by rw [len_add]
  repeat' (first | refine zA ?_ | refine zB ?_ | refine zC ?_ | refine zD ?_ | refine zE ?_ | refine zF ?_ | refine zG ?_ | refine zH ?_ | refine zI ?_ | refine zJ ?_ | refine zK rfl ?_ | refine zL ?_ | refine zM ?_ | refine zN ?_ | refine zO ?_ | refine zP rfl ?_ | refine zQ ?_ | ((first | refine zR ?_ | refine zS ?_ | refine zT ?_ | skip); intro K k; simp (disch := (first | (simp only [yD2, beq_self_eq_true, Nat.reduceLT, Nat.reduceAdd]; done) | ((fail_if_success (apply Bool.eq_iff_iff.2)); first | omega | (simp only [yD2, beq_self_eq_true, Nat.reduceLT, Nat.reduceAdd] <;> omega)) | fail)) only [↓yS, yT, ↓reduceIte, Nat.reduceEqDiff, Nat.reduceAdd, Nat.reduceMul, reduceCtorEq, Int.reduceToNat, g26, rowV_eq, agg_all, agg_list, hf]; refine yC (k _ _ ?_); clear k K) | ((first | refine zU ?_ | refine zV ?_ | refine zW ?_); intro A B C D a b c d; simp only [↓yG, Nat.reduceEqDiff, ↓reduceIte, g26, rowV_eq, agg_all, agg_list, hf]; (first | refine zX (a ?_) | refine zY (b ?_) | refine zZ (fun hc => c ?_) (fun hc => d ?_)) <;> clear a b c d A B C D <;> try simp only [yL] at hc) | (refine yA ?_; intro A a; simp only [↓yG, Nat.reduceEqDiff, ↓reduceIte, g26, rowV_eq, agg_all, agg_list, hf]; refine yB (a ?_); clear a A) | (refine yD ?_; simp only [gresults, ↓yG, Nat.reduceEqDiff, ↓reduceIte, Option.bind_some, gld_1, gld_n, g26, rowV_eq, agg_all, agg_list, hf]; refine ⟨_, rfl, ?_⟩; simp only [gone]))
  generalize H.add (some (.cells [v] 0 true)) = Hb at *
  repeat' (first | refine zA ?_ | refine zB ?_ | refine zC ?_ | refine zD ?_ | refine zE ?_ | refine zF ?_ | refine zG ?_ | refine zH ?_ | refine zI ?_ | refine zJ ?_ | refine zK rfl ?_ | refine zL ?_ | refine zM ?_ | refine zN ?_ | refine zO ?_ | refine zP rfl ?_ | refine zQ ?_ | ((first | refine zR ?_ | refine zS ?_ | refine zT ?_ | skip); intro K k; simp (disch := (first | (simp only [yD2, beq_self_eq_true, Nat.reduceLT, Nat.reduceAdd]; done) | ((fail_if_success (apply Bool.eq_iff_iff.2)); first | omega | (simp only [yD2, beq_self_eq_true, Nat.reduceLT, Nat.reduceAdd] <;> omega)) | fail)) only [↓yS, yT, ↓reduceIte, Nat.reduceEqDiff, Nat.reduceAdd, Nat.reduceMul, reduceCtorEq, Int.reduceToNat, g26, kr]; refine yC (k _ _ ?_); clear k K) | ((first | refine zU ?_ | refine zV ?_ | refine zW ?_); intro A B C D a b c d; simp only [↓yG, Nat.reduceEqDiff, ↓reduceIte, g26, kr]; (first | refine zX (a ?_) | refine zY (b ?_) | refine zZ (fun hc => c ?_) (fun hc => d ?_)) <;> clear a b c d A B C D <;> try simp only [yL] at hc) | (refine yA ?_; intro A a; simp only [↓yG, Nat.reduceEqDiff, ↓reduceIte, g26, kr]; refine yB (a ?_); clear a A) | (refine yD ?_; simp only [gresults, ↓yG, Nat.reduceEqDiff, ↓reduceIte, Option.bind_some, gld_1, gld_n, g26, kr]; refine ⟨_, rfl, ?_⟩; simp only [gone]))
  refine Gw_s fun K' hK' => G1_call (by simp only [gtarget, ↓GArg.ev, ↓evs, ↓Tr.get_set, Nat.reduceEqDiff, if_true, if_false, ↓reduceIte, Option.map_some]; rfl) (check_ok hS0.wf (hv.later hw hS0) hll hsh) fun r1 H1 hq => hK' _ _ ?_
  obtain ⟨rfl, hS1⟩ := hq
  have hS01 := hS0.trans hS1
  by_cases hch : checkF l = 0
  rotate_left
  · repeat' (first | (exfalso; omega) | refine zA ?_ | refine zB ?_ | refine zC ?_ | refine zD ?_ | refine zE ?_ | refine zF ?_ | refine zG ?_ | refine zH ?_ | refine zI ?_ | refine zJ ?_ | refine zK rfl ?_ | refine zL ?_ | refine zM ?_ | refine zN ?_ | refine zO ?_ | refine zP rfl ?_ | refine zQ ?_ | ((first | refine zR ?_ | refine zS ?_ | refine zT ?_ | skip); intro K k; simp (disch := (first | (simp only [yD2, beq_self_eq_true, Nat.reduceLT, Nat.reduceAdd]; done) | ((fail_if_success (apply Bool.eq_iff_iff.2)); first | omega | (simp only [yD2, beq_self_eq_true, Nat.reduceLT, Nat.reduceAdd] <;> omega)) | fail)) only [↓yS, yT, ↓reduceIte, Nat.reduceEqDiff, Nat.reduceAdd, Nat.reduceMul, reduceCtorEq, Int.reduceToNat, g26]; refine yC (k _ _ ?_); clear k K) | ((first | refine zU ?_ | refine zV ?_ | refine zW ?_); intro A B C D a b c d; simp only [↓yG, Nat.reduceEqDiff, ↓reduceIte, g26]; (first | refine zX (a ?_) | refine zY (b ?_) | refine zZ (fun hc => c ?_) (fun hc => d ?_)) <;> clear a b c d A B C D <;> try simp only [yL] at hc) | (refine yA ?_; intro A a; simp only [↓yG, Nat.reduceEqDiff, ↓reduceIte, g26]; refine yB (a ?_); clear a A) | (refine yD ?_; simp only [gresults, ↓yG, Nat.reduceEqDiff, ↓reduceIte, Option.bind_some, gld_1, gld_n, g26]; refine ⟨_, rfl, ?_⟩; simp only [gone]))
    refine hPost _ _ ⟨?_, hS01⟩
    rw [if_neg hch]; rfl
  rw [if_pos hch] at hPost
  rw [hch] at hPost ⊢
  obtain ⟨hl16, hall⟩ := check_ok' hch
  have htl := ht hch
  have k01 : H1.rd H.len 0 = some v := by rw [hS1.rd (by omega)]; exact k0
  have hwv := hv.later hw hS01
  have k02 : ∀ o, (H1.add (some (.cells o 258 true))).rd H.len 0 = some v := fun o => by rw [rd_add_ne (by have := hS1.len; omega)]; exact k01
  repeat' (first | (exfalso; omega) | refine zA ?_ | refine zB ?_ | refine zC ?_ | refine zD ?_ | refine zE ?_ | refine zF ?_ | refine zG ?_ | refine zH ?_ | refine zI ?_ | refine zJ ?_ | refine zK rfl ?_ | refine zL ?_ | refine zM ?_ | refine zN ?_ | refine zO ?_ | refine zP rfl ?_ | refine zQ ?_ | ((first | refine zR ?_ | refine zS ?_ | refine zT ?_ | skip); intro K k; simp (disch := (first | (simp only [yD2, beq_self_eq_true, Nat.reduceLT, Nat.reduceAdd]; done) | ((fail_if_success (apply Bool.eq_iff_iff.2)); first | omega | (simp only [yD2, beq_self_eq_true, Nat.reduceLT, Nat.reduceAdd] <;> omega)) | fail)) only [↓yS, yT, ↓reduceIte, Nat.reduceEqDiff, Nat.reduceAdd, Nat.reduceMul, reduceCtorEq, Int.reduceToNat, g26, k02, hsl.len]; refine yC (k _ _ ?_); clear k K) | ((first | refine zU ?_ | refine zV ?_ | refine zW ?_); intro A B C D a b c d; simp only [↓yG, Nat.reduceEqDiff, ↓reduceIte, g26, k02, hsl.len]; (first | refine zX (a ?_) | refine zY (b ?_) | refine zZ (fun hc => c ?_) (fun hc => d ?_)) <;> clear a b c d A B C D <;> try simp only [yL] at hc) | (refine yA ?_; intro A a; simp only [↓yG, Nat.reduceEqDiff, ↓reduceIte, g26, k02, hsl.len]; refine yB (a ?_); clear a A) | (refine yD ?_; simp only [gresults, ↓yG, Nat.reduceEqDiff, ↓reduceIte, Option.bind_some, gld_1, gld_n, g26, k02, hsl.len]; refine ⟨_, rfl, ?_⟩; simp only [gone]))
  have hself : self H1.len = .pointer (some ⟨H1.len, 0, none⟩) := rfl
  refine GW_loop (fun k fr Hk => ∃ (j : Nat), k = l.length - j ∧ j ≤ l.length ∧ fr.get 5 = some (self H1.len) ∧ fr.get 15 = some (v) ∧ fr.get 16 = some (.int .i64 l.length) ∧ fr.get 17 = some (.int .i64 j) ∧ Bld H1 Hk H1.len (textB (l.take j))) ?_ l.length ?_
  rotate_left
  · refine ⟨0, by omega, by omega, ?_⟩
    simp only [↓yG, Nat.reduceEqDiff, ↓reduceIte, Int.natCast_add, Int.cast_ofNat_Int, Int.natCast_zero, true_and, and_true, Option.some.injEq, Value.int.injEq, hself]
    exact Bld.new hS01.wf
  rintro k fr H2 ⟨j, rfl, hj, f5, f15, f16, f17, hB⟩ J hJ
  have hw2 := hB.same.wf
  have hlim2 := hw2.1
  have hle2 := hB.same.len
  obtain ⟨pb, sb, hmb, _⟩ := hB.ex
  have hb2 := mine_lt hw2 hmb
  by_cases hj1 : j < l.length
  rotate_left
  · obtain rfl : j = l.length := by omega
    rw [List.take_length] at hB
    repeat' (first | (exfalso; omega) | refine zA ?_ | refine zB ?_ | refine zC ?_ | refine zD ?_ | refine zE ?_ | refine zF ?_ | refine zG ?_ | refine zH ?_ | refine zI ?_ | refine zJ ?_ | refine zK rfl ?_ | refine zL ?_ | refine zM ?_ | refine zN ?_ | refine zO ?_ | refine zP rfl ?_ | refine zQ ?_ | ((first | refine zR ?_ | refine zS ?_ | refine zT ?_ | skip); intro K k; simp (disch := (first | (simp only [yD2, beq_self_eq_true, Nat.reduceLT, Nat.reduceAdd]; done) | ((fail_if_success (apply Bool.eq_iff_iff.2)); first | omega | (simp only [yD2, beq_self_eq_true, Nat.reduceLT, Nat.reduceAdd] <;> omega)) | fail)) only [↓yS, yT, ↓reduceIte, Nat.reduceEqDiff, Nat.reduceAdd, Nat.reduceMul, reduceCtorEq, Int.reduceToNat, g26, f5, f15, f16, f17]; refine yC (k _ _ ?_); clear k K) | ((first | refine zU ?_ | refine zV ?_ | refine zW ?_); intro A B C D a b c d; simp only [↓yG, Nat.reduceEqDiff, ↓reduceIte, g26, f5, f15, f16, f17]; (first | refine zX (a ?_) | refine zY (b ?_) | refine zZ (fun hc => c ?_) (fun hc => d ?_)) <;> clear a b c d A B C D <;> try simp only [yL] at hc) | (refine yA ?_; intro A a; simp only [↓yG, Nat.reduceEqDiff, ↓reduceIte, g26, f5, f15, f16, f17]; refine yB (a ?_); clear a A) | (refine yD ?_; simp only [gresults, ↓yG, Nat.reduceEqDiff, ↓reduceIte, Option.bind_some, gld_1, gld_n, g26, f5, f15, f16, f17]; refine ⟨_, rfl, ?_⟩; simp only [gone]))
    refine Gw_s fun K' hK' => G1_call (by simp only [gtarget, ↓GArg.ev, ↓evs, ↓Tr.get_set, Nat.reduceEqDiff, if_true, if_false, ↓reduceIte, Option.map_some, f5, f15, f16, f17]; rfl) (string_ok hB (by omega)) fun r9 H9 hq => hK' _ _ ?_
    obtain ⟨rfl, hS9⟩ := hq
    repeat' (first | (exfalso; omega) | refine zA ?_ | refine zB ?_ | refine zC ?_ | refine zD ?_ | refine zE ?_ | refine zF ?_ | refine zG ?_ | refine zH ?_ | refine zI ?_ | refine zJ ?_ | refine zK rfl ?_ | refine zL ?_ | refine zM ?_ | refine zN ?_ | refine zO ?_ | refine zP rfl ?_ | refine zQ ?_ | ((first | refine zR ?_ | refine zS ?_ | refine zT ?_ | skip); intro K k; simp (disch := (first | (simp only [yD2, beq_self_eq_true, Nat.reduceLT, Nat.reduceAdd]; done) | ((fail_if_success (apply Bool.eq_iff_iff.2)); first | omega | (simp only [yD2, beq_self_eq_true, Nat.reduceLT, Nat.reduceAdd] <;> omega)) | fail)) only [↓yS, yT, ↓reduceIte, Nat.reduceEqDiff, Nat.reduceAdd, Nat.reduceMul, reduceCtorEq, Int.reduceToNat, g26, f5, f15, f16, f17]; refine yC (k _ _ ?_); clear k K) | ((first | refine zU ?_ | refine zV ?_ | refine zW ?_); intro A B C D a b c d; simp only [↓yG, Nat.reduceEqDiff, ↓reduceIte, g26, f5, f15, f16, f17]; (first | refine zX (a ?_) | refine zY (b ?_) | refine zZ (fun hc => c ?_) (fun hc => d ?_)) <;> clear a b c d A B C D <;> try simp only [yL] at hc) | (refine yA ?_; intro A a; simp only [↓yG, Nat.reduceEqDiff, ↓reduceIte, g26, f5, f15, f16, f17]; refine yB (a ?_); clear a A) | (refine yD ?_; simp only [gresults, ↓yG, Nat.reduceEqDiff, ↓reduceIte, Option.bind_some, gld_1, gld_n, g26, f5, f15, f16, f17]; refine ⟨_, rfl, ?_⟩; simp only [gone]))
    exact hPost _ _ ⟨rfl, hS01.trans hS9⟩
  have e1 := (hwv.later hS01.wf hB.same).rowN hj1
  have hmem : l[j]! ∈ l := by rw [getElem!_pos l j hj1]; exact List.getElem_mem _
  obtain ⟨hvx, htx, hox, hyx⟩ := hall _ hmem
  have hcx := hc0 _ hmem
  have hrt := run_in_text hj1
  have hstep := textB_take hj1
  have hx0 : j = 0 → l[0]! = l[j]! := fun h => by rw [h]
  generalize hx : l[j]! = x at *
  have hrx : (if j = 0 then run0 l[0]! else runT x) = (if j = 0 then run0 x else runT x) := by
    split
    · rename_i h; rw [hx0 h]
    · rfl
  rw [hrx] at hrt hstep
  have hex := runX_len x j
  have h6 : x.s.c ≤ 6 := by simpa [okS] using hox
  have hey := len_le_esc x.y
  have hlb := letB_len x.s
  have hcl := colB_len (c := x.s.c)
  obtain ⟨H3, hH3⟩ : ∃ H3, H3 = (H2.add (some (.cells [.string ⟨#[]⟩, .int .u8 0, .bool false, .bool false, .string ⟨#[]⟩] 0 true))).put H2.len (.cells (runC x) 0 true) := ⟨_, rfl⟩
  have hS23 : Same H2 H3 := hH3 ▸ (Same.refl hw2).new _ _
  have b3 : H3.mine H2.len = some (runC x, 0) := by
    rw [hH3]; exact mine_put_same (by rw [lim_add]; exact hlim2)
  have x0 : H3.rd H2.len 0 = some (.string (strB x.t)) := by rw [mine_rd b3]; rfl
  have x1 : H3.rd H2.len 1 = some (.int .u8 x.s.c) := by rw [mine_rd b3]; rfl
  have x2 : H3.rd H2.len 2 = some (.bool x.s.i) := by rw [mine_rd b3]; rfl
  have x3 : H3.rd H2.len 3 = some (.bool x.s.u) := by rw [mine_rd b3]; rfl
  have x4 : H3.rd H2.len 4 = some (.string (strB x.y)) := by rw [mine_rd b3]; rfl
  have hB3 := hB.later hS23
  repeat' (first | (exfalso; omega) | refine zA ?_ | refine zB ?_ | refine zC ?_ | refine zD ?_ | refine zE ?_ | refine zF ?_ | refine zG ?_ | refine zH ?_ | refine zI ?_ | refine zJ ?_ | refine zK rfl ?_ | refine zL ?_ | refine zM ?_ | refine zN ?_ | refine zO ?_ | refine zP rfl ?_ | refine zQ ?_ | ((first | refine zR ?_ | refine zS ?_ | refine zT ?_ | skip); intro K k; simp (disch := (first | (simp only [yD2, beq_self_eq_true, Nat.reduceLT, Nat.reduceAdd]; done) | ((fail_if_success (apply Bool.eq_iff_iff.2)); first | omega | (simp only [yD2, beq_self_eq_true, Nat.reduceLT, Nat.reduceAdd] <;> omega)) | fail)) only [↓yS, yT, ↓reduceIte, Nat.reduceEqDiff, Nat.reduceAdd, Nat.reduceMul, reduceCtorEq, Int.reduceToNat, g26, f5, f15, f16, f17, hsl.ia]; refine yC (k _ _ ?_); clear k K) | ((first | refine zU ?_ | refine zV ?_ | refine zW ?_); intro A B C D a b c d; simp only [↓yG, Nat.reduceEqDiff, ↓reduceIte, g26, f5, f15, f16, f17, hsl.ia]; (first | refine zX (a ?_) | refine zY (b ?_) | refine zZ (fun hc => c ?_) (fun hc => d ?_)) <;> clear a b c d A B C D <;> try simp only [yL] at hc) | (refine yA ?_; intro A a; simp only [↓yG, Nat.reduceEqDiff, ↓reduceIte, g26, f5, f15, f16, f17, hsl.ia]; refine yB (a ?_); clear a A) | (refine yD ?_; simp only [gresults, ↓yG, Nat.reduceEqDiff, ↓reduceIte, Option.bind_some, gld_1, gld_n, g26, f5, f15, f16, f17, hsl.ia]; refine ⟨_, rfl, ?_⟩; simp only [gone]))
  repeat' (first | refine zB ?_ | refine zC ?_ | refine zD ?_ | refine zE ?_ | refine zF ?_ | refine zG ?_ | refine zH ?_ | refine zI ?_ | refine zJ ?_ | refine zK rfl ?_ | refine zL ?_ | refine zM ?_ | refine zN ?_ | refine zO ?_ | refine zP rfl ?_ | refine zQ ?_ | ((first | refine zR ?_ | refine zS ?_ | refine zT ?_ | skip); intro K k; simp (disch := (first | (simp only [yD2, beq_self_eq_true, Nat.reduceLT, Nat.reduceAdd]; done) | ((fail_if_success (apply Bool.eq_iff_iff.2)); first | omega | (simp only [yD2, beq_self_eq_true, Nat.reduceLT, Nat.reduceAdd] <;> omega)) | fail)) only [↓yS, yT, ↓reduceIte, Nat.reduceEqDiff, Nat.reduceAdd, Nat.reduceMul, reduceCtorEq, Int.reduceToNat, g26, f5, f15, f16, f17, RN, e1]; refine yC (k _ _ ?_); clear k K) | ((first | refine zU ?_ | refine zV ?_ | refine zW ?_); intro A B C D a b c d; simp only [↓yG, Nat.reduceEqDiff, ↓reduceIte, g26, f5, f15, f16, f17, RN, e1]; (first | refine zX (a ?_) | refine zY (b ?_) | refine zZ (fun hc => c ?_) (fun hc => d ?_)) <;> clear a b c d A B C D <;> try simp only [yL] at hc) | (refine yA ?_; intro A a; simp only [↓yG, Nat.reduceEqDiff, ↓reduceIte, g26, f5, f15, f16, f17, RN, e1]; refine yB (a ?_); clear a A) | (refine yD ?_; simp only [gresults, ↓yG, Nat.reduceEqDiff, ↓reduceIte, Option.bind_some, gld_1, gld_n, g26, f5, f15, f16, f17, RN, e1]; refine ⟨_, rfl, ?_⟩; simp only [gone]))
  rw [← hH3]
  refine zA ?_
  repeat' (first | refine zB ?_ | refine zC ?_ | refine zD ?_ | refine zE ?_ | refine zF ?_ | refine zG ?_ | refine zH ?_ | refine zI ?_ | refine zJ ?_ | refine zK rfl ?_ | refine zL ?_ | refine zM ?_ | refine zN ?_ | refine zO ?_ | refine zP rfl ?_ | refine zQ ?_ | ((first | refine zR ?_ | refine zS ?_ | refine zT ?_ | skip); intro K k; simp (disch := (first | (simp only [yD2, beq_self_eq_true, Nat.reduceLT, Nat.reduceAdd]; done) | ((fail_if_success (apply Bool.eq_iff_iff.2)); first | omega | (simp only [yD2, beq_self_eq_true, Nat.reduceLT, Nat.reduceAdd] <;> omega)) | fail)) only [↓yS, yT, ↓reduceIte, Nat.reduceEqDiff, Nat.reduceAdd, Nat.reduceMul, reduceCtorEq, Int.reduceToNat, g26]; refine yC (k _ _ ?_); clear k K) | ((first | refine zU ?_ | refine zV ?_ | refine zW ?_); intro A B C D a b c d; simp only [↓yG, Nat.reduceEqDiff, ↓reduceIte, g26]; (first | refine zX (a ?_) | refine zY (b ?_) | refine zZ (fun hc => c ?_) (fun hc => d ?_)) <;> clear a b c d A B C D <;> try simp only [yL] at hc) | (refine yA ?_; intro A a; simp only [↓yG, Nat.reduceEqDiff, ↓reduceIte, g26]; refine yB (a ?_); clear a A) | (refine yD ?_; simp only [gresults, ↓yG, Nat.reduceEqDiff, ↓reduceIte, Option.bind_some, gld_1, gld_n, g26]; refine ⟨_, rfl, ?_⟩; simp only [gone]))
  have hsl1 : 1 ≤ x.s.c → ∀ H, gslice .str H (.string ⟨#[103, 98, 99, 114, 121, 109]⟩) (some (.int .u8 (x.s.c - 1))) (some (.int .u8 x.s.c)) none = some (.string (strB (colB x.s.c))) := fun h1 H => by
    have := sl_mid (H := H) (l := colS) (k := .u8) (k' := .u8) (a := x.s.c - 1) (b := x.s.c) (by omega) (by omega) (by show x.s.c ≤ 6; omega)
    rw [colB, if_neg (by omega)]
    exact this
  refine GW_cut (fun fr H => fr.get 5 = some (self H1.len) ∧ fr.get 6 = some (.int .i64 j) ∧ fr.get 7 = some (.pointer (some ⟨H2.len, 0, none⟩)) ∧ fr.get 8 = some (.string (strB (colB x.s.c))) ∧ fr.get 15 = some (v) ∧ fr.get 16 = some (.int .i64 l.length) ∧ fr.get 17 = some (.int .i64 j) ∧ H = H3) ?_ ?_
  · intro J1 hJ1
    by_cases hc1 : x.s.c = 0
    · repeat' (first | (exfalso; omega) | refine zA ?_ | refine zB ?_ | refine zC ?_ | refine zD ?_ | refine zE ?_ | refine zF ?_ | refine zG ?_ | refine zH ?_ | refine zI ?_ | refine zJ ?_ | refine zK rfl ?_ | refine zL ?_ | refine zM ?_ | refine zN ?_ | refine zO ?_ | refine zP rfl ?_ | refine zQ ?_ | ((first | refine zR ?_ | refine zS ?_ | refine zT ?_ | skip); intro K k; simp (disch := (first | (simp only [yD2, beq_self_eq_true, Nat.reduceLT, Nat.reduceAdd]; done) | ((fail_if_success (apply Bool.eq_iff_iff.2)); first | omega | (simp only [yD2, beq_self_eq_true, Nat.reduceLT, Nat.reduceAdd] <;> omega)) | fail)) only [↓yS, yT, ↓reduceIte, Nat.reduceEqDiff, Nat.reduceAdd, Nat.reduceMul, reduceCtorEq, Int.reduceToNat, g26, x1]; refine yC (k _ _ ?_); clear k K) | ((first | refine zU ?_ | refine zV ?_ | refine zW ?_); intro A B C D a b c d; simp only [↓yG, Nat.reduceEqDiff, ↓reduceIte, g26, x1]; (first | refine zX (a ?_) | refine zY (b ?_) | refine zZ (fun hc => c ?_) (fun hc => d ?_)) <;> clear a b c d A B C D <;> try simp only [yL] at hc) | (refine yA ?_; intro A a; simp only [↓yG, Nat.reduceEqDiff, ↓reduceIte, g26, x1]; refine yB (a ?_); clear a A) | (refine yD ?_; simp only [gresults, ↓yG, Nat.reduceEqDiff, ↓reduceIte, Option.bind_some, gld_1, gld_n, g26, x1]; refine ⟨_, rfl, ?_⟩; simp only [gone]))
      refine hJ1 _ _ ?_
      have hz : colB x.s.c = [] := by rw [colB, if_pos hc1]
      rw [hz]
      simp only [↓yG, Nat.reduceEqDiff, ↓reduceIte, Int.natCast_add, Int.cast_ofNat_Int, Int.natCast_zero, true_and, and_true, Option.some.injEq, Value.int.injEq, f5, f15, f16, f17]
      rfl
    · have hs1 := hsl1 (by omega)
      repeat' (first | (exfalso; omega) | refine zA ?_ | refine zB ?_ | refine zC ?_ | refine zD ?_ | refine zE ?_ | refine zF ?_ | refine zG ?_ | refine zH ?_ | refine zI ?_ | refine zJ ?_ | refine zK rfl ?_ | refine zL ?_ | refine zM ?_ | refine zN ?_ | refine zO ?_ | refine zP rfl ?_ | refine zQ ?_ | ((first | refine zR ?_ | refine zS ?_ | refine zT ?_ | skip); intro K k; simp (disch := (first | (simp only [yD2, beq_self_eq_true, Nat.reduceLT, Nat.reduceAdd]; done) | ((fail_if_success (apply Bool.eq_iff_iff.2)); first | omega | (simp only [yD2, beq_self_eq_true, Nat.reduceLT, Nat.reduceAdd] <;> omega)) | fail)) only [↓yS, yT, ↓reduceIte, Nat.reduceEqDiff, Nat.reduceAdd, Nat.reduceMul, reduceCtorEq, Int.reduceToNat, g26, x1, hs1]; refine yC (k _ _ ?_); clear k K) | ((first | refine zU ?_ | refine zV ?_ | refine zW ?_); intro A B C D a b c d; simp only [↓yG, Nat.reduceEqDiff, ↓reduceIte, g26, x1, hs1]; (first | refine zX (a ?_) | refine zY (b ?_) | refine zZ (fun hc => c ?_) (fun hc => d ?_)) <;> clear a b c d A B C D <;> try simp only [yL] at hc) | (refine yA ?_; intro A a; simp only [↓yG, Nat.reduceEqDiff, ↓reduceIte, g26, x1, hs1]; refine yB (a ?_); clear a A) | (refine yD ?_; simp only [gresults, ↓yG, Nat.reduceEqDiff, ↓reduceIte, Option.bind_some, gld_1, gld_n, g26, x1, hs1]; refine ⟨_, rfl, ?_⟩; simp only [gone]))
      refine hJ1 _ _ ?_
      simp only [↓yG, Nat.reduceEqDiff, ↓reduceIte, Int.natCast_add, Int.cast_ofNat_Int, Int.natCast_zero, true_and, and_true, Option.some.injEq, Value.int.injEq, f5, f15, f16, f17]
  rintro fr2 H4 ⟨q5, q6, q7, q8, q15, q16, q17, rfl⟩
  refine GW_cut (fun fr H => fr.get 5 = some (self H1.len) ∧ fr.get 6 = some (.int .i64 j) ∧ fr.get 7 = some (.pointer (some ⟨H2.len, 0, none⟩)) ∧ fr.get 8 = some (.string (strB (colB x.s.c ++ iB x.s.i))) ∧ fr.get 15 = some (v) ∧ fr.get 16 = some (.int .i64 l.length) ∧ fr.get 17 = some (.int .i64 j) ∧ H = H4) ?_ ?_
  · intro J1 hJ1
    have ha := fun e => add_c (e := e) (a := colB x.s.c) (b := [105]) (B := ⟨#[105]⟩) rfl (by simp only [List.length_append, List.length_cons, List.length_nil]; omega)
    cases hi : x.s.i with
    | true =>
      rw [hi] at x2
      repeat' (first | (exfalso; omega) | refine zA ?_ | refine zB ?_ | refine zC ?_ | refine zD ?_ | refine zE ?_ | refine zF ?_ | refine zG ?_ | refine zH ?_ | refine zI ?_ | refine zJ ?_ | refine zK rfl ?_ | refine zL ?_ | refine zM ?_ | refine zN ?_ | refine zO ?_ | refine zP rfl ?_ | refine zQ ?_ | ((first | refine zR ?_ | refine zS ?_ | refine zT ?_ | skip); intro K k; simp (disch := (first | (simp only [yD2, beq_self_eq_true, Nat.reduceLT, Nat.reduceAdd]; done) | ((fail_if_success (apply Bool.eq_iff_iff.2)); first | omega | (simp only [yD2, beq_self_eq_true, Nat.reduceLT, Nat.reduceAdd] <;> omega)) | fail)) only [↓yS, yT, ↓reduceIte, Nat.reduceEqDiff, Nat.reduceAdd, Nat.reduceMul, reduceCtorEq, Int.reduceToNat, g26, q5, q6, q7, q8, q15, q16, q17, x2, ha]; refine yC (k _ _ ?_); clear k K) | ((first | refine zU ?_ | refine zV ?_ | refine zW ?_); intro A B C D a b c d; simp only [↓yG, Nat.reduceEqDiff, ↓reduceIte, g26, q5, q6, q7, q8, q15, q16, q17, x2, ha]; (first | refine zX (a ?_) | refine zY (b ?_) | refine zZ (fun hc => c ?_) (fun hc => d ?_)) <;> clear a b c d A B C D <;> try simp only [yL] at hc) | (refine yA ?_; intro A a; simp only [↓yG, Nat.reduceEqDiff, ↓reduceIte, g26, q5, q6, q7, q8, q15, q16, q17, x2, ha]; refine yB (a ?_); clear a A) | (refine yD ?_; simp only [gresults, ↓yG, Nat.reduceEqDiff, ↓reduceIte, Option.bind_some, gld_1, gld_n, g26, q5, q6, q7, q8, q15, q16, q17, x2, ha]; refine ⟨_, rfl, ?_⟩; simp only [gone]))
      refine hJ1 _ _ ?_
      have hz : colB x.s.c ++ iB true = colB x.s.c ++ [105] := by simp [iB, uB]
      first | rw [hi] | skip
      rw [hz]
      simp only [↓yG, Nat.reduceEqDiff, ↓reduceIte, Int.natCast_add, Int.cast_ofNat_Int, Int.natCast_zero, true_and, and_true, Option.some.injEq, Value.int.injEq, q5, q6, q7, q8, q15, q16, q17]
    | false =>
      rw [hi] at x2
      repeat' (first | (exfalso; omega) | refine zA ?_ | refine zB ?_ | refine zC ?_ | refine zD ?_ | refine zE ?_ | refine zF ?_ | refine zG ?_ | refine zH ?_ | refine zI ?_ | refine zJ ?_ | refine zK rfl ?_ | refine zL ?_ | refine zM ?_ | refine zN ?_ | refine zO ?_ | refine zP rfl ?_ | refine zQ ?_ | ((first | refine zR ?_ | refine zS ?_ | refine zT ?_ | skip); intro K k; simp (disch := (first | (simp only [yD2, beq_self_eq_true, Nat.reduceLT, Nat.reduceAdd]; done) | ((fail_if_success (apply Bool.eq_iff_iff.2)); first | omega | (simp only [yD2, beq_self_eq_true, Nat.reduceLT, Nat.reduceAdd] <;> omega)) | fail)) only [↓yS, yT, ↓reduceIte, Nat.reduceEqDiff, Nat.reduceAdd, Nat.reduceMul, reduceCtorEq, Int.reduceToNat, g26, q5, q6, q7, q8, q15, q16, q17, x2]; refine yC (k _ _ ?_); clear k K) | ((first | refine zU ?_ | refine zV ?_ | refine zW ?_); intro A B C D a b c d; simp only [↓yG, Nat.reduceEqDiff, ↓reduceIte, g26, q5, q6, q7, q8, q15, q16, q17, x2]; (first | refine zX (a ?_) | refine zY (b ?_) | refine zZ (fun hc => c ?_) (fun hc => d ?_)) <;> clear a b c d A B C D <;> try simp only [yL] at hc) | (refine yA ?_; intro A a; simp only [↓yG, Nat.reduceEqDiff, ↓reduceIte, g26, q5, q6, q7, q8, q15, q16, q17, x2]; refine yB (a ?_); clear a A) | (refine yD ?_; simp only [gresults, ↓yG, Nat.reduceEqDiff, ↓reduceIte, Option.bind_some, gld_1, gld_n, g26, q5, q6, q7, q8, q15, q16, q17, x2]; refine ⟨_, rfl, ?_⟩; simp only [gone]))
      refine hJ1 _ _ ?_
      have hz : colB x.s.c ++ iB false = colB x.s.c := by simp [iB, uB]
      first | rw [hi] | skip
      rw [hz]
      simp only [↓yG, Nat.reduceEqDiff, ↓reduceIte, Int.natCast_add, Int.cast_ofNat_Int, Int.natCast_zero, true_and, and_true, Option.some.injEq, Value.int.injEq, q5, q6, q7, q8, q15, q16, q17]
  rintro fr2 H5 ⟨q5, q6, q7, q8, q15, q16, q17, rfl⟩
  have hil : (iB x.s.i).length ≤ 1 := by unfold iB; split <;> simp
  refine GW_cut (fun fr H => fr.get 5 = some (self H1.len) ∧ fr.get 6 = some (.int .i64 j) ∧ fr.get 7 = some (.pointer (some ⟨H2.len, 0, none⟩)) ∧ fr.get 8 = some (.string (strB (colB x.s.c ++ iB x.s.i ++ uB x.s.u))) ∧ fr.get 15 = some (v) ∧ fr.get 16 = some (.int .i64 l.length) ∧ fr.get 17 = some (.int .i64 j) ∧ H = H5) ?_ ?_
  · intro J1 hJ1
    have ha := fun e => add_c (e := e) (a := colB x.s.c ++ iB x.s.i) (b := [117]) (B := ⟨#[117]⟩) rfl (by simp only [List.length_append, List.length_cons, List.length_nil]; omega)
    cases hi : x.s.u with
    | true =>
      rw [hi] at x3
      repeat' (first | (exfalso; omega) | refine zA ?_ | refine zB ?_ | refine zC ?_ | refine zD ?_ | refine zE ?_ | refine zF ?_ | refine zG ?_ | refine zH ?_ | refine zI ?_ | refine zJ ?_ | refine zK rfl ?_ | refine zL ?_ | refine zM ?_ | refine zN ?_ | refine zO ?_ | refine zP rfl ?_ | refine zQ ?_ | ((first | refine zR ?_ | refine zS ?_ | refine zT ?_ | skip); intro K k; simp (disch := (first | (simp only [yD2, beq_self_eq_true, Nat.reduceLT, Nat.reduceAdd]; done) | ((fail_if_success (apply Bool.eq_iff_iff.2)); first | omega | (simp only [yD2, beq_self_eq_true, Nat.reduceLT, Nat.reduceAdd] <;> omega)) | fail)) only [↓yS, yT, ↓reduceIte, Nat.reduceEqDiff, Nat.reduceAdd, Nat.reduceMul, reduceCtorEq, Int.reduceToNat, g26, q5, q6, q7, q8, q15, q16, q17, x3, ha]; refine yC (k _ _ ?_); clear k K) | ((first | refine zU ?_ | refine zV ?_ | refine zW ?_); intro A B C D a b c d; simp only [↓yG, Nat.reduceEqDiff, ↓reduceIte, g26, q5, q6, q7, q8, q15, q16, q17, x3, ha]; (first | refine zX (a ?_) | refine zY (b ?_) | refine zZ (fun hc => c ?_) (fun hc => d ?_)) <;> clear a b c d A B C D <;> try simp only [yL] at hc) | (refine yA ?_; intro A a; simp only [↓yG, Nat.reduceEqDiff, ↓reduceIte, g26, q5, q6, q7, q8, q15, q16, q17, x3, ha]; refine yB (a ?_); clear a A) | (refine yD ?_; simp only [gresults, ↓yG, Nat.reduceEqDiff, ↓reduceIte, Option.bind_some, gld_1, gld_n, g26, q5, q6, q7, q8, q15, q16, q17, x3, ha]; refine ⟨_, rfl, ?_⟩; simp only [gone]))
      refine hJ1 _ _ ?_
      have hz : colB x.s.c ++ iB x.s.i ++ uB true = colB x.s.c ++ iB x.s.i ++ [117] := by simp [iB, uB]
      first | rw [hi] | skip
      rw [hz]
      simp only [↓yG, Nat.reduceEqDiff, ↓reduceIte, Int.natCast_add, Int.cast_ofNat_Int, Int.natCast_zero, true_and, and_true, Option.some.injEq, Value.int.injEq, q5, q6, q7, q8, q15, q16, q17]
    | false =>
      rw [hi] at x3
      repeat' (first | (exfalso; omega) | refine zA ?_ | refine zB ?_ | refine zC ?_ | refine zD ?_ | refine zE ?_ | refine zF ?_ | refine zG ?_ | refine zH ?_ | refine zI ?_ | refine zJ ?_ | refine zK rfl ?_ | refine zL ?_ | refine zM ?_ | refine zN ?_ | refine zO ?_ | refine zP rfl ?_ | refine zQ ?_ | ((first | refine zR ?_ | refine zS ?_ | refine zT ?_ | skip); intro K k; simp (disch := (first | (simp only [yD2, beq_self_eq_true, Nat.reduceLT, Nat.reduceAdd]; done) | ((fail_if_success (apply Bool.eq_iff_iff.2)); first | omega | (simp only [yD2, beq_self_eq_true, Nat.reduceLT, Nat.reduceAdd] <;> omega)) | fail)) only [↓yS, yT, ↓reduceIte, Nat.reduceEqDiff, Nat.reduceAdd, Nat.reduceMul, reduceCtorEq, Int.reduceToNat, g26, q5, q6, q7, q8, q15, q16, q17, x3]; refine yC (k _ _ ?_); clear k K) | ((first | refine zU ?_ | refine zV ?_ | refine zW ?_); intro A B C D a b c d; simp only [↓yG, Nat.reduceEqDiff, ↓reduceIte, g26, q5, q6, q7, q8, q15, q16, q17, x3]; (first | refine zX (a ?_) | refine zY (b ?_) | refine zZ (fun hc => c ?_) (fun hc => d ?_)) <;> clear a b c d A B C D <;> try simp only [yL] at hc) | (refine yA ?_; intro A a; simp only [↓yG, Nat.reduceEqDiff, ↓reduceIte, g26, q5, q6, q7, q8, q15, q16, q17, x3]; refine yB (a ?_); clear a A) | (refine yD ?_; simp only [gresults, ↓yG, Nat.reduceEqDiff, ↓reduceIte, Option.bind_some, gld_1, gld_n, g26, q5, q6, q7, q8, q15, q16, q17, x3]; refine ⟨_, rfl, ?_⟩; simp only [gone]))
      refine hJ1 _ _ ?_
      have hz : colB x.s.c ++ iB x.s.i ++ uB false = colB x.s.c ++ iB x.s.i := by simp [iB, uB]
      first | rw [hi] | skip
      rw [hz]
      simp only [↓yG, Nat.reduceEqDiff, ↓reduceIte, Int.natCast_add, Int.cast_ofNat_Int, Int.natCast_zero, true_and, and_true, Option.some.injEq, Value.int.injEq, q5, q6, q7, q8, q15, q16, q17]
  rintro fr2 H6 ⟨q5, q6, q7, q8, q15, q16, q17, rfl⟩
  have hul : (uB x.s.u).length ≤ 1 := by unfold uB; split <;> simp
  have hlt : letB x.s = colB x.s.c ++ iB x.s.i ++ uB x.s.u := rfl
  rw [← hlt] at q8
  have htagl : x.y ≠ [] → (esc x.y).length + 3 ≤ (if j = 0 then run0 x else runT x).length := fun hy => by
    have h1 : tagB x = letB x.s ++ 58 :: esc x.y := by unfold tagB; rw [if_neg hy]
    have h2 : ¬ tagB x = [] := by rw [h1]; simp
    have h3 : (run0 x) = runT x := by unfold run0; rw [if_neg h2]
    have h4 := runT_len x
    have h5 : (tagB x).length = (letB x.s).length + 1 + (esc x.y).length := by rw [h1]; simp; omega
    rw [h3]
    split <;> omega
  refine GW_cut (fun fr H => fr.get 5 = some (self H1.len) ∧ fr.get 6 = some (.int .i64 j) ∧ fr.get 7 = some (.pointer (some ⟨H2.len, 0, none⟩)) ∧ fr.get 8 = some (.string (strB (tagB x))) ∧ fr.get 15 = some (v) ∧ fr.get 16 = some (.int .i64 l.length) ∧ fr.get 17 = some (.int .i64 j) ∧ H = H6) ?_ ?_
  · intro J1 hJ1
    by_cases hy : x.y = []
    · have hyt := eq_true hy
      repeat' (first | (exfalso; omega) | refine zA ?_ | refine zB ?_ | refine zC ?_ | refine zD ?_ | refine zE ?_ | refine zF ?_ | refine zG ?_ | refine zH ?_ | refine zI ?_ | refine zJ ?_ | refine zK rfl ?_ | refine zL ?_ | refine zM ?_ | refine zN ?_ | refine zO ?_ | refine zP rfl ?_ | refine zQ ?_ | ((first | refine zR ?_ | refine zS ?_ | refine zT ?_ | skip); intro K k; simp (disch := (first | (simp only [yD2, beq_self_eq_true, Nat.reduceLT, Nat.reduceAdd]; done) | ((fail_if_success (apply Bool.eq_iff_iff.2)); first | omega | (simp only [yD2, beq_self_eq_true, Nat.reduceLT, Nat.reduceAdd] <;> omega)) | fail)) only [↓yS, yT, ↓reduceIte, Nat.reduceEqDiff, Nat.reduceAdd, Nat.reduceMul, reduceCtorEq, Int.reduceToNat, g26, q5, q6, q7, q8, q15, q16, q17, x4, RN, hyt, not_false_eq_true, decide_true, not_true_eq_false, decide_false]; refine yC (k _ _ ?_); clear k K) | ((first | refine zU ?_ | refine zV ?_ | refine zW ?_); intro A B C D a b c d; simp only [↓yG, Nat.reduceEqDiff, ↓reduceIte, g26, q5, q6, q7, q8, q15, q16, q17, x4, RN, hyt, not_false_eq_true, decide_true, not_true_eq_false, decide_false]; (first | refine zX (a ?_) | refine zY (b ?_) | refine zZ (fun hc => c ?_) (fun hc => d ?_)) <;> clear a b c d A B C D <;> try simp only [yL] at hc) | (refine yA ?_; intro A a; simp only [↓yG, Nat.reduceEqDiff, ↓reduceIte, g26, q5, q6, q7, q8, q15, q16, q17, x4, RN, hyt, not_false_eq_true, decide_true, not_true_eq_false, decide_false]; refine yB (a ?_); clear a A) | (refine yD ?_; simp only [gresults, ↓yG, Nat.reduceEqDiff, ↓reduceIte, Option.bind_some, gld_1, gld_n, g26, q5, q6, q7, q8, q15, q16, q17, x4, RN, hyt, not_false_eq_true, decide_true, not_true_eq_false, decide_false]; refine ⟨_, rfl, ?_⟩; simp only [gone]))
      refine hJ1 _ _ ?_
      have hz : tagB x = letB x.s := by unfold tagB; rw [if_pos hy]; simp
      rw [hz]
      simp only [↓yG, Nat.reduceEqDiff, ↓reduceIte, Int.natCast_add, Int.cast_ofNat_Int, Int.natCast_zero, true_and, and_true, Option.some.injEq, Value.int.injEq, q5, q6, q7, q8, q15, q16, q17]
    · have htg := htagl hy
      have hey2 : (esc x.y).length < 140737488355328 := by omega
      have hyt := eq_false hy
      repeat' (first | (exfalso; omega) | refine zA ?_ | refine zB ?_ | refine zC ?_ | refine zD ?_ | refine zE ?_ | refine zF ?_ | refine zG ?_ | refine zH ?_ | refine zI ?_ | refine zJ ?_ | refine zK rfl ?_ | refine zL ?_ | refine zM ?_ | refine zN ?_ | refine zO ?_ | refine zP rfl ?_ | refine zQ ?_ | ((first | refine zR ?_ | refine zS ?_ | refine zT ?_ | skip); intro K k; simp (disch := (first | (simp only [yD2, beq_self_eq_true, Nat.reduceLT, Nat.reduceAdd]; done) | ((fail_if_success (apply Bool.eq_iff_iff.2)); first | omega | (simp only [yD2, beq_self_eq_true, Nat.reduceLT, Nat.reduceAdd] <;> omega)) | fail)) only [↓yS, yT, ↓reduceIte, Nat.reduceEqDiff, Nat.reduceAdd, Nat.reduceMul, reduceCtorEq, Int.reduceToNat, g26, q5, q6, q7, q8, q15, q16, q17, x4, RN, hyt, not_false_eq_true, decide_true, not_true_eq_false, decide_false]; refine yC (k _ _ ?_); clear k K) | ((first | refine zU ?_ | refine zV ?_ | refine zW ?_); intro A B C D a b c d; simp only [↓yG, Nat.reduceEqDiff, ↓reduceIte, g26, q5, q6, q7, q8, q15, q16, q17, x4, RN, hyt, not_false_eq_true, decide_true, not_true_eq_false, decide_false]; (first | refine zX (a ?_) | refine zY (b ?_) | refine zZ (fun hc => c ?_) (fun hc => d ?_)) <;> clear a b c d A B C D <;> try simp only [yL] at hc) | (refine yA ?_; intro A a; simp only [↓yG, Nat.reduceEqDiff, ↓reduceIte, g26, q5, q6, q7, q8, q15, q16, q17, x4, RN, hyt, not_false_eq_true, decide_true, not_true_eq_false, decide_false]; refine yB (a ?_); clear a A) | (refine yD ?_; simp only [gresults, ↓yG, Nat.reduceEqDiff, ↓reduceIte, Option.bind_some, gld_1, gld_n, g26, q5, q6, q7, q8, q15, q16, q17, x4, RN, hyt, not_false_eq_true, decide_true, not_true_eq_false, decide_false]; refine ⟨_, rfl, ?_⟩; simp only [gone]))
      refine Gw_s fun K' hK' => G1_call (by simp only [gtarget, ↓GArg.ev, ↓evs, ↓Tr.get_set, Nat.reduceEqDiff, if_true, if_false, ↓reduceIte, Option.map_some, q5, q6, q7, q8, q15, q16, q17]; rfl) (one_of (escape_ok hey2 _)) fun r7 H7 hq => hK' _ _ ?_
      obtain ⟨rfl, rfl⟩ := hq
      have ha1 := fun e => add_l (e := e) (a := [58]) (b := esc x.y) (A := ⟨#[58]⟩) rfl (by simp only [List.length_cons, List.length_nil]; omega)
      have ha2 := fun e => gb_addB (e := e) (a := letB x.s) (b := [58] ++ esc x.y) (by simp only [List.length_append, List.length_cons, List.length_nil]; omega)
      repeat' (first | (exfalso; omega) | refine zA ?_ | refine zB ?_ | refine zC ?_ | refine zD ?_ | refine zE ?_ | refine zF ?_ | refine zG ?_ | refine zH ?_ | refine zI ?_ | refine zJ ?_ | refine zK rfl ?_ | refine zL ?_ | refine zM ?_ | refine zN ?_ | refine zO ?_ | refine zP rfl ?_ | refine zQ ?_ | ((first | refine zR ?_ | refine zS ?_ | refine zT ?_ | skip); intro K k; simp (disch := (first | (simp only [yD2, beq_self_eq_true, Nat.reduceLT, Nat.reduceAdd]; done) | ((fail_if_success (apply Bool.eq_iff_iff.2)); first | omega | (simp only [yD2, beq_self_eq_true, Nat.reduceLT, Nat.reduceAdd] <;> omega)) | fail)) only [↓yS, yT, ↓reduceIte, Nat.reduceEqDiff, Nat.reduceAdd, Nat.reduceMul, reduceCtorEq, Int.reduceToNat, g26, q5, q6, q7, q8, q15, q16, q17, ha1, ha2]; refine yC (k _ _ ?_); clear k K) | ((first | refine zU ?_ | refine zV ?_ | refine zW ?_); intro A B C D a b c d; simp only [↓yG, Nat.reduceEqDiff, ↓reduceIte, g26, q5, q6, q7, q8, q15, q16, q17, ha1, ha2]; (first | refine zX (a ?_) | refine zY (b ?_) | refine zZ (fun hc => c ?_) (fun hc => d ?_)) <;> clear a b c d A B C D <;> try simp only [yL] at hc) | (refine yA ?_; intro A a; simp only [↓yG, Nat.reduceEqDiff, ↓reduceIte, g26, q5, q6, q7, q8, q15, q16, q17, ha1, ha2]; refine yB (a ?_); clear a A) | (refine yD ?_; simp only [gresults, ↓yG, Nat.reduceEqDiff, ↓reduceIte, Option.bind_some, gld_1, gld_n, g26, q5, q6, q7, q8, q15, q16, q17, ha1, ha2]; refine ⟨_, rfl, ?_⟩; simp only [gone]))
      refine hJ1 _ _ ?_
      have hz : tagB x = letB x.s ++ ([58] ++ esc x.y) := by unfold tagB; rw [if_neg hy]; rfl
      rw [hz]
      simp only [↓yG, Nat.reduceEqDiff, ↓reduceIte, Int.natCast_add, Int.cast_ofNat_Int, Int.natCast_zero, true_and, and_true, Option.some.injEq, Value.int.injEq, q5, q6, q7, q8, q15, q16, q17]
  rintro fr2 H7 ⟨q5, q6, q7, q8, q15, q16, q17, rfl⟩
  have hTl := runT_len x
  refine GW_cut (fun fr H => fr.get 5 = some (self H1.len) ∧ fr.get 7 = some (.pointer (some ⟨H2.len, 0, none⟩)) ∧ fr.get 15 = some (v) ∧ fr.get 16 = some (.int .i64 l.length) ∧ fr.get 17 = some (.int .i64 j) ∧ Bld H1 H H1.len (textB (l.take j) ++ (if j = 0 ∧ tagB x = [] then [] else 123 :: tagB x ++ [125])) ∧ H.mine H2.len = some (runC x, 0)) ?_ ?_
  · intro J1 hJ1
    by_cases hw5 : j = 0 ∧ tagB x = []
    · obtain ⟨hw1, hw2'⟩ := hw5
      have hz := fun e => gb_neqB (e := e) (a := tagB x) (b := [])
      have hyt := eq_true hw2'
      repeat' (first | (exfalso; omega) | refine zA ?_ | refine zB ?_ | refine zC ?_ | refine zD ?_ | refine zE ?_ | refine zF ?_ | refine zG ?_ | refine zH ?_ | refine zI ?_ | refine zJ ?_ | refine zK rfl ?_ | refine zL ?_ | refine zM ?_ | refine zN ?_ | refine zO ?_ | refine zP rfl ?_ | refine zQ ?_ | ((first | refine zR ?_ | refine zS ?_ | refine zT ?_ | skip); intro K k; simp (disch := (first | (simp only [yD2, beq_self_eq_true, Nat.reduceLT, Nat.reduceAdd]; done) | ((fail_if_success (apply Bool.eq_iff_iff.2)); first | omega | (simp only [yD2, beq_self_eq_true, Nat.reduceLT, Nat.reduceAdd] <;> omega)) | fail)) only [↓yS, yT, ↓reduceIte, Nat.reduceEqDiff, Nat.reduceAdd, Nat.reduceMul, reduceCtorEq, Int.reduceToNat, g26, q5, q6, q7, q8, q15, q16, q17, RN, hyt, not_false_eq_true, decide_true, not_true_eq_false, decide_false]; refine yC (k _ _ ?_); clear k K) | ((first | refine zU ?_ | refine zV ?_ | refine zW ?_); intro A B C D a b c d; simp only [↓yG, Nat.reduceEqDiff, ↓reduceIte, g26, q5, q6, q7, q8, q15, q16, q17, RN, hyt, not_false_eq_true, decide_true, not_true_eq_false, decide_false]; (first | refine zX (a ?_) | refine zY (b ?_) | refine zZ (fun hc => c ?_) (fun hc => d ?_)) <;> clear a b c d A B C D <;> try simp only [yL] at hc) | (refine yA ?_; intro A a; simp only [↓yG, Nat.reduceEqDiff, ↓reduceIte, g26, q5, q6, q7, q8, q15, q16, q17, RN, hyt, not_false_eq_true, decide_true, not_true_eq_false, decide_false]; refine yB (a ?_); clear a A) | (refine yD ?_; simp only [gresults, ↓yG, Nat.reduceEqDiff, ↓reduceIte, Option.bind_some, gld_1, gld_n, g26, q5, q6, q7, q8, q15, q16, q17, RN, hyt, not_false_eq_true, decide_true, not_true_eq_false, decide_false]; refine ⟨_, rfl, ?_⟩; simp only [gone]))
      refine hJ1 _ _ ?_
      rw [if_pos ⟨hw1, hw2'⟩, List.append_nil]
      simp only [↓yG, Nat.reduceEqDiff, ↓reduceIte, Int.natCast_add, Int.cast_ofNat_Int, Int.natCast_zero, true_and, and_true, Option.some.injEq, Value.int.injEq, q5, q6, q7, q8, q15, q16, q17]
      exact ⟨hB3, b3⟩
    · have hrun : (if j = 0 then run0 x else runT x) = runT x := by
        split
        · rename_i h; unfold run0; rw [if_neg fun h2 => hw5 ⟨h, h2⟩]
        · rfl
      rw [hrun] at hrt
      have ha1 := fun e => add_l (e := e) (a := [123]) (b := tagB x) (A := ⟨#[123]⟩) rfl (by simp only [List.length_cons, List.length_nil]; omega)
      have ha2 := fun e => add_c (e := e) (a := [123] ++ tagB x) (b := [125]) (B := ⟨#[125]⟩) rfl (by simp only [List.length_append, List.length_cons, List.length_nil]; omega)
      have hne : j = 0 → ¬ tagB x = [] := fun h h2 => hw5 ⟨h, h2⟩
      have split2 : (j = 0 ∧ ¬ tagB x = []) ∨ 0 < j := by
        rcases Nat.eq_zero_or_pos j with h | h
        · exact .inl ⟨h, hne h⟩
        · exact .inr h
      have hab : [123] ++ tagB x ++ [125] = 123 :: tagB x ++ [125] := rfl
      rcases split2 with ⟨h1, h2⟩ | h1
      case' inl => have hyt := eq_false h2
      case' inr => have hyt := True.intro
      all_goals
        repeat' (first | (exfalso; omega) | refine zA ?_ | refine zB ?_ | refine zC ?_ | refine zD ?_ | refine zE ?_ | refine zF ?_ | refine zG ?_ | refine zH ?_ | refine zI ?_ | refine zJ ?_ | refine zK rfl ?_ | refine zL ?_ | refine zM ?_ | refine zN ?_ | refine zO ?_ | refine zP rfl ?_ | refine zQ ?_ | ((first | refine zR ?_ | refine zS ?_ | refine zT ?_ | skip); intro K k; simp (disch := (first | (simp only [yD2, beq_self_eq_true, Nat.reduceLT, Nat.reduceAdd]; done) | ((fail_if_success (apply Bool.eq_iff_iff.2)); first | omega | (simp only [yD2, beq_self_eq_true, Nat.reduceLT, Nat.reduceAdd] <;> omega)) | fail)) only [↓yS, yT, ↓reduceIte, Nat.reduceEqDiff, Nat.reduceAdd, Nat.reduceMul, reduceCtorEq, Int.reduceToNat, g26, q5, q6, q7, q8, q15, q16, q17, RN, ha1, ha2, hyt, not_false_eq_true, decide_true, not_true_eq_false, decide_false]; refine yC (k _ _ ?_); clear k K) | ((first | refine zU ?_ | refine zV ?_ | refine zW ?_); intro A B C D a b c d; simp only [↓yG, Nat.reduceEqDiff, ↓reduceIte, g26, q5, q6, q7, q8, q15, q16, q17, RN, ha1, ha2, hyt, not_false_eq_true, decide_true, not_true_eq_false, decide_false]; (first | refine zX (a ?_) | refine zY (b ?_) | refine zZ (fun hc => c ?_) (fun hc => d ?_)) <;> clear a b c d A B C D <;> try simp only [yL] at hc) | (refine yA ?_; intro A a; simp only [↓yG, Nat.reduceEqDiff, ↓reduceIte, g26, q5, q6, q7, q8, q15, q16, q17, RN, ha1, ha2, hyt, not_false_eq_true, decide_true, not_true_eq_false, decide_false]; refine yB (a ?_); clear a A) | (refine yD ?_; simp only [gresults, ↓yG, Nat.reduceEqDiff, ↓reduceIte, Option.bind_some, gld_1, gld_n, g26, q5, q6, q7, q8, q15, q16, q17, RN, ha1, ha2, hyt, not_false_eq_true, decide_true, not_true_eq_false, decide_false]; refine ⟨_, rfl, ?_⟩; simp only [gone]))
        refine Gw_s fun K' hK' => G1_call (by simp only [gtarget, ↓GArg.ev, ↓evs, ↓Tr.get_set, Nat.reduceEqDiff, if_true, if_false, ↓reduceIte, Option.map_some, q5, q6, q7, q8, q15, q16, q17]; rfl) (writeK_ok hB3 ([123] ++ tagB x ++ [125]) (by simp only [List.length_append, List.length_cons, List.length_nil]; omega)) fun r8 H8 hq => hK' _ _ ?_
        obtain ⟨hB8, hk8⟩ := hq
        repeat' (first | (exfalso; omega) | refine zA ?_ | refine zB ?_ | refine zC ?_ | refine zD ?_ | refine zE ?_ | refine zF ?_ | refine zG ?_ | refine zH ?_ | refine zI ?_ | refine zJ ?_ | refine zK rfl ?_ | refine zL ?_ | refine zM ?_ | refine zN ?_ | refine zO ?_ | refine zP rfl ?_ | refine zQ ?_ | ((first | refine zR ?_ | refine zS ?_ | refine zT ?_ | skip); intro K k; simp (disch := (first | (simp only [yD2, beq_self_eq_true, Nat.reduceLT, Nat.reduceAdd]; done) | ((fail_if_success (apply Bool.eq_iff_iff.2)); first | omega | (simp only [yD2, beq_self_eq_true, Nat.reduceLT, Nat.reduceAdd] <;> omega)) | fail)) only [↓yS, yT, ↓reduceIte, Nat.reduceEqDiff, Nat.reduceAdd, Nat.reduceMul, reduceCtorEq, Int.reduceToNat, g26, q5, q6, q7, q8, q15, q16, q17]; refine yC (k _ _ ?_); clear k K) | ((first | refine zU ?_ | refine zV ?_ | refine zW ?_); intro A B C D a b c d; simp only [↓yG, Nat.reduceEqDiff, ↓reduceIte, g26, q5, q6, q7, q8, q15, q16, q17]; (first | refine zX (a ?_) | refine zY (b ?_) | refine zZ (fun hc => c ?_) (fun hc => d ?_)) <;> clear a b c d A B C D <;> try simp only [yL] at hc) | (refine yA ?_; intro A a; simp only [↓yG, Nat.reduceEqDiff, ↓reduceIte, g26, q5, q6, q7, q8, q15, q16, q17]; refine yB (a ?_); clear a A) | (refine yD ?_; simp only [gresults, ↓yG, Nat.reduceEqDiff, ↓reduceIte, Option.bind_some, gld_1, gld_n, g26, q5, q6, q7, q8, q15, q16, q17]; refine ⟨_, rfl, ?_⟩; simp only [gone]))
        refine hJ1 _ _ ?_
        rw [if_neg hw5]
        simp only [↓yG, Nat.reduceEqDiff, ↓reduceIte, Int.natCast_add, Int.cast_ofNat_Int, Int.natCast_zero, true_and, and_true, Option.some.injEq, Value.int.injEq, q5, q6, q7, q8, q15, q16, q17]
        exact ⟨hB8, hk8 _ _ (by omega) b3⟩
  rintro fr2 H8 ⟨q5, q7, q15, q16, q17, hB8, b8⟩
  have x08 : H8.rd H2.len 0 = some (.string (strB x.t)) := by rw [mine_rd b8]; rfl
  have hfin : (textB (l.take j) ++ (if j = 0 ∧ tagB x = [] then [] else 123 :: tagB x ++ [125])) ++ esc x.t = textB (l.take (j + 1)) := by
    rw [hstep, List.append_assoc]
    congr 1
    by_cases h0 : j = 0
    · by_cases h1 : tagB x = []
      · rw [if_pos ⟨h0, h1⟩, if_pos h0]; unfold run0; rw [if_pos h1]; rfl
      · rw [if_neg (fun h => h1 h.2), if_pos h0]; unfold run0 runT; rw [if_neg h1]
    · rw [if_neg (fun h => h0 h.1), if_neg h0]; rfl
  have hfl := congrArg List.length hfin
  have hle9 := textB_le l (j + 1)
  rw [List.length_append] at hfl
  repeat' (first | (exfalso; omega) | refine zA ?_ | refine zB ?_ | refine zC ?_ | refine zD ?_ | refine zE ?_ | refine zF ?_ | refine zG ?_ | refine zH ?_ | refine zI ?_ | refine zJ ?_ | refine zK rfl ?_ | refine zL ?_ | refine zM ?_ | refine zN ?_ | refine zO ?_ | refine zP rfl ?_ | refine zQ ?_ | ((first | refine zR ?_ | refine zS ?_ | refine zT ?_ | skip); intro K k; simp (disch := (first | (simp only [yD2, beq_self_eq_true, Nat.reduceLT, Nat.reduceAdd]; done) | ((fail_if_success (apply Bool.eq_iff_iff.2)); first | omega | (simp only [yD2, beq_self_eq_true, Nat.reduceLT, Nat.reduceAdd] <;> omega)) | fail)) only [↓yS, yT, ↓reduceIte, Nat.reduceEqDiff, Nat.reduceAdd, Nat.reduceMul, reduceCtorEq, Int.reduceToNat, g26, q5, q7, q15, q16, q17, x08]; refine yC (k _ _ ?_); clear k K) | ((first | refine zU ?_ | refine zV ?_ | refine zW ?_); intro A B C D a b c d; simp only [↓yG, Nat.reduceEqDiff, ↓reduceIte, g26, q5, q7, q15, q16, q17, x08]; (first | refine zX (a ?_) | refine zY (b ?_) | refine zZ (fun hc => c ?_) (fun hc => d ?_)) <;> clear a b c d A B C D <;> try simp only [yL] at hc) | (refine yA ?_; intro A a; simp only [↓yG, Nat.reduceEqDiff, ↓reduceIte, g26, q5, q7, q15, q16, q17, x08]; refine yB (a ?_); clear a A) | (refine yD ?_; simp only [gresults, ↓yG, Nat.reduceEqDiff, ↓reduceIte, Option.bind_some, gld_1, gld_n, g26, q5, q7, q15, q16, q17, x08]; refine ⟨_, rfl, ?_⟩; simp only [gone]))
  refine Gw_s fun K' hK' => G1_call (by simp only [gtarget, ↓GArg.ev, ↓evs, ↓Tr.get_set, Nat.reduceEqDiff, if_true, if_false, ↓reduceIte, Option.map_some, q5, q7, q15, q16, q17]; rfl) (one_of (escape_ok (l := x.t) (by omega) _)) fun r9 H9 hq => hK' _ _ ?_
  obtain ⟨rfl, rfl⟩ := hq
  repeat' (first | (exfalso; omega) | refine zA ?_ | refine zB ?_ | refine zC ?_ | refine zD ?_ | refine zE ?_ | refine zF ?_ | refine zG ?_ | refine zH ?_ | refine zI ?_ | refine zJ ?_ | refine zK rfl ?_ | refine zL ?_ | refine zM ?_ | refine zN ?_ | refine zO ?_ | refine zP rfl ?_ | refine zQ ?_ | ((first | refine zR ?_ | refine zS ?_ | refine zT ?_ | skip); intro K k; simp (disch := (first | (simp only [yD2, beq_self_eq_true, Nat.reduceLT, Nat.reduceAdd]; done) | ((fail_if_success (apply Bool.eq_iff_iff.2)); first | omega | (simp only [yD2, beq_self_eq_true, Nat.reduceLT, Nat.reduceAdd] <;> omega)) | fail)) only [↓yS, yT, ↓reduceIte, Nat.reduceEqDiff, Nat.reduceAdd, Nat.reduceMul, reduceCtorEq, Int.reduceToNat, g26, q5, q7, q15, q16, q17]; refine yC (k _ _ ?_); clear k K) | ((first | refine zU ?_ | refine zV ?_ | refine zW ?_); intro A B C D a b c d; simp only [↓yG, Nat.reduceEqDiff, ↓reduceIte, g26, q5, q7, q15, q16, q17]; (first | refine zX (a ?_) | refine zY (b ?_) | refine zZ (fun hc => c ?_) (fun hc => d ?_)) <;> clear a b c d A B C D <;> try simp only [yL] at hc) | (refine yA ?_; intro A a; simp only [↓yG, Nat.reduceEqDiff, ↓reduceIte, g26, q5, q7, q15, q16, q17]; refine yB (a ?_); clear a A) | (refine yD ?_; simp only [gresults, ↓yG, Nat.reduceEqDiff, ↓reduceIte, Option.bind_some, gld_1, gld_n, g26, q5, q7, q15, q16, q17]; refine ⟨_, rfl, ?_⟩; simp only [gone]))
  refine Gw_s fun K' hK' => G1_call (by simp only [gtarget, ↓GArg.ev, ↓evs, ↓Tr.get_set, Nat.reduceEqDiff, if_true, if_false, ↓reduceIte, Option.map_some, q5, q7, q15, q16, q17]; rfl) (writeK_ok hB8 (esc x.t) (by omega)) fun r10 H10 hq => hK' _ _ ?_
  obtain ⟨hB10, hk10⟩ := hq
  repeat' (first | (exfalso; omega) | refine zA ?_ | refine zB ?_ | refine zC ?_ | refine zD ?_ | refine zE ?_ | refine zF ?_ | refine zG ?_ | refine zH ?_ | refine zI ?_ | refine zJ ?_ | refine zK rfl ?_ | refine zL ?_ | refine zM ?_ | refine zN ?_ | refine zO ?_ | refine zP rfl ?_ | refine zQ ?_ | ((first | refine zR ?_ | refine zS ?_ | refine zT ?_ | skip); intro K k; simp (disch := (first | (simp only [yD2, beq_self_eq_true, Nat.reduceLT, Nat.reduceAdd]; done) | ((fail_if_success (apply Bool.eq_iff_iff.2)); first | omega | (simp only [yD2, beq_self_eq_true, Nat.reduceLT, Nat.reduceAdd] <;> omega)) | fail)) only [↓yS, yT, ↓reduceIte, Nat.reduceEqDiff, Nat.reduceAdd, Nat.reduceMul, reduceCtorEq, Int.reduceToNat, g26, q5, q7, q15, q16, q17]; refine yC (k _ _ ?_); clear k K) | ((first | refine zU ?_ | refine zV ?_ | refine zW ?_); intro A B C D a b c d; simp only [↓yG, Nat.reduceEqDiff, ↓reduceIte, g26, q5, q7, q15, q16, q17]; (first | refine zX (a ?_) | refine zY (b ?_) | refine zZ (fun hc => c ?_) (fun hc => d ?_)) <;> clear a b c d A B C D <;> try simp only [yL] at hc) | (refine yA ?_; intro A a; simp only [↓yG, Nat.reduceEqDiff, ↓reduceIte, g26, q5, q7, q15, q16, q17]; refine yB (a ?_); clear a A) | (refine yD ?_; simp only [gresults, ↓yG, Nat.reduceEqDiff, ↓reduceIte, Option.bind_some, gld_1, gld_n, g26, q5, q7, q15, q16, q17]; refine ⟨_, rfl, ?_⟩; simp only [gone]))
  refine hJ _ _ ⟨l.length - (j + 1), by omega, j + 1, rfl, by omega, ?_⟩
  simp only [↓yG, Nat.reduceEqDiff, ↓reduceIte, Int.natCast_add, Int.cast_ofNat_Int, Int.natCast_zero, true_and, and_true, Option.some.injEq, Value.int.injEq, q5, q15, q16]
  rw [hfin] at hB10
  exact hB10
end Go.Gh
