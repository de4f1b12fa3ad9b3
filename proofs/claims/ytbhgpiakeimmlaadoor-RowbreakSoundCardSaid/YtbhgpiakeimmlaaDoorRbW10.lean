/-
  rowbreak, walked: slices.Min, Accept.
-/
import Derived.Test.YtbhgpiakeimmlaaDoorRbW9
namespace Go.Gh
set_option linter.unusedSimpArgs false
set_option linter.unusedVariables false
open Go.RowKit
set_option maxRecDepth 4000

theorem min_ok {H : GHeap} {v : Value} {E : List Int} (hv : IR H v E) (hE : E ≠ []) (hEl : E.length ≤ 4611686018427387904) :
    ∃ r H', gev G 44 [v] H = some (r, H') ∧ (∃ m, r = .int .i64 m ∧ m ∈ E ∧ (∀ x ∈ E, m ≤ x) ∧ H' = H) := by
  refine gev_GW (f := 44) rfl fun Post hPost => ?_
  have hsl := hv.isSl
  have hl0 : 0 < E.length := List.length_pos_iff.2 hE
  have e0 := hv.at_ hl0
  rw [Nat.add_zero] at e0
  simp only [frameOf, Nat.reduceAdd]
  repeat' (first | (exfalso; omega) | refine zA ?_ | refine zB ?_ | refine zC ?_ | refine zD ?_ | refine zE ?_ | refine zF ?_ | refine zG ?_ | refine zH ?_ | refine zI ?_ | refine zJ ?_ | refine zK rfl ?_ | refine zL ?_ | refine zM ?_ | refine zN ?_ | refine zO ?_ | refine zP rfl ?_ | refine zQ ?_ | ((first | refine zR ?_ | refine zS ?_ | refine zT ?_ | skip); intro K k; simp (disch := (first | (simp only [yD2, beq_self_eq_true, Nat.reduceLT, Nat.reduceAdd]; done) | ((fail_if_success (apply Bool.eq_iff_iff.2)); first | omega | (simp only [yD2, beq_self_eq_true, Nat.reduceLT, Nat.reduceAdd] <;> omega)) | fail)) only [↓yS, yT, ↓reduceIte, Nat.reduceEqDiff, Nat.reduceAdd, Nat.reduceMul, reduceCtorEq, Int.reduceToNat, g44, hsl.len, hsl.ia, e0, Int.toNat_zero, Nat.zero_mul, Nat.add_zero]; refine yC (k _ _ ?_); clear k K) | ((first | refine zU ?_ | refine zV ?_ | refine zW ?_); intro A B C D a b c d; simp only [↓yG, Nat.reduceEqDiff, ↓reduceIte, g44, hsl.len, hsl.ia, e0, Int.toNat_zero, Nat.zero_mul, Nat.add_zero]; (first | refine zX (a ?_) | refine zY (b ?_) | refine zZ (fun hc => c ?_) (fun hc => d ?_)) <;> clear a b c d A B C D <;> try simp only [yL] at hc) | (refine yA ?_; intro A a; simp only [↓yG, Nat.reduceEqDiff, ↓reduceIte, g44, hsl.len, hsl.ia, e0, Int.toNat_zero, Nat.zero_mul, Nat.add_zero]; refine yB (a ?_); clear a A) | (refine yD ?_; simp only [gresults, ↓yG, Nat.reduceEqDiff, ↓reduceIte, Option.bind_some, gld_1, gld_n, g44, hsl.len, hsl.ia, e0, Int.toNat_zero, Nat.zero_mul, Nat.add_zero]; refine ⟨_, rfl, ?_⟩; simp only [gone]))
  refine GW_loop (fun k fr H1 => ∃ (j : Nat) (m : Int), k = E.length - j ∧ j ≤ E.length ∧ fr.get 0 = some (v) ∧ fr.get 3 = some (.int .i64 m) ∧ fr.get 4 = some (.int .i64 j) ∧ H1 = H ∧ m ∈ E ∧ ∀ x ∈ E.take j, m ≤ x) ?_ (E.length - 1) ?_
  rotate_left
  · refine ⟨1, E[0]!, by omega, by omega, ?_⟩
    simp only [↓yG, Nat.reduceEqDiff, ↓reduceIte, Int.natCast_add, Int.cast_ofNat_Int, Int.natCast_zero, true_and, and_true, Option.some.injEq, Value.int.injEq]
    have hm : E[0]! ∈ E := by rw [getElem!_pos E 0 hl0]; exact List.getElem_mem _
    have ht : ∀ x ∈ E.take 1, E[0]! ≤ x := by
      cases E with
      | nil => cases hl0
      | cons a E => intro x hx; simp at hx; simp [hx]
    first | exact ⟨rfl, hm, ht⟩ | exact ⟨hm, ht⟩
  rintro k fr H1 ⟨j, m, rfl, hj, f0, f3, f4, rfl, hm, hall⟩ J hJ
  by_cases h1 : j < E.length
  · have e1 := hv.at_ h1
    have hmem : E[j]! ∈ E := by rw [getElem!_pos E j h1]; exact List.getElem_mem _
    repeat' (first | (exfalso; omega) | refine zA ?_ | refine zB ?_ | refine zC ?_ | refine zD ?_ | refine zE ?_ | refine zF ?_ | refine zG ?_ | refine zH ?_ | refine zI ?_ | refine zJ ?_ | refine zK rfl ?_ | refine zL ?_ | refine zM ?_ | refine zN ?_ | refine zO ?_ | refine zP rfl ?_ | refine zQ ?_ | ((first | refine zR ?_ | refine zS ?_ | refine zT ?_ | skip); intro K k; simp (disch := (first | (simp only [yD2, beq_self_eq_true, Nat.reduceLT, Nat.reduceAdd]; done) | ((fail_if_success (apply Bool.eq_iff_iff.2)); first | omega | (simp only [yD2, beq_self_eq_true, Nat.reduceLT, Nat.reduceAdd] <;> omega)) | fail)) only [↓yS, yT, ↓reduceIte, Nat.reduceEqDiff, Nat.reduceAdd, Nat.reduceMul, reduceCtorEq, Int.reduceToNat, g44, f0, f3, f4, hsl.len, hsl.ia, e1]; refine yC (k _ _ ?_); clear k K) | ((first | refine zU ?_ | refine zV ?_ | refine zW ?_); intro A B C D a b c d; simp only [↓yG, Nat.reduceEqDiff, ↓reduceIte, g44, f0, f3, f4, hsl.len, hsl.ia, e1]; (first | refine zX (a ?_) | refine zY (b ?_) | refine zZ (fun hc => c ?_) (fun hc => d ?_)) <;> clear a b c d A B C D <;> try simp only [yL] at hc) | (refine yA ?_; intro A a; simp only [↓yG, Nat.reduceEqDiff, ↓reduceIte, g44, f0, f3, f4, hsl.len, hsl.ia, e1]; refine yB (a ?_); clear a A) | (refine yD ?_; simp only [gresults, ↓yG, Nat.reduceEqDiff, ↓reduceIte, Option.bind_some, gld_1, gld_n, g44, f0, f3, f4, hsl.len, hsl.ia, e1]; refine ⟨_, rfl, ?_⟩; simp only [gone]))
    refine hJ _ _ ⟨E.length - (j + 1), by omega, j + 1, min m E[j]!, rfl, by omega, ?_⟩
    simp only [↓yG, Nat.reduceEqDiff, ↓reduceIte, Int.natCast_add, Int.cast_ofNat_Int, Int.natCast_zero, true_and, and_true, Option.some.injEq, Value.int.injEq, f0]
    have hin : min m E[j]! ∈ E := by
      rcases Int.le_total m E[j]! with h | h
      · rw [Int.min_eq_left h]; exact hm
      · rw [Int.min_eq_right h]; exact hmem
    have ht : ∀ x ∈ E.take (j + 1), min m E[j]! ≤ x := by
      rw [List.take_succ_eq_append_getElem h1]
      intro x hx
      rcases List.mem_append.1 hx with hx | hx
      · have := hall x hx; omega
      · simp at hx
        rw [hx, ← getElem!_pos E j h1]; omega
    first | exact ⟨rfl, hin, ht⟩ | exact ⟨hin, ht⟩
  · obtain rfl : j = E.length := by omega
    rw [List.take_length] at hall
    repeat' (first | (exfalso; omega) | refine zA ?_ | refine zB ?_ | refine zC ?_ | refine zD ?_ | refine zE ?_ | refine zF ?_ | refine zG ?_ | refine zH ?_ | refine zI ?_ | refine zJ ?_ | refine zK rfl ?_ | refine zL ?_ | refine zM ?_ | refine zN ?_ | refine zO ?_ | refine zP rfl ?_ | refine zQ ?_ | ((first | refine zR ?_ | refine zS ?_ | refine zT ?_ | skip); intro K k; simp (disch := (first | (simp only [yD2, beq_self_eq_true, Nat.reduceLT, Nat.reduceAdd]; done) | ((fail_if_success (apply Bool.eq_iff_iff.2)); first | omega | (simp only [yD2, beq_self_eq_true, Nat.reduceLT, Nat.reduceAdd] <;> omega)) | fail)) only [↓yS, yT, ↓reduceIte, Nat.reduceEqDiff, Nat.reduceAdd, Nat.reduceMul, reduceCtorEq, Int.reduceToNat, g44, f0, f3, f4, hsl.len]; refine yC (k _ _ ?_); clear k K) | ((first | refine zU ?_ | refine zV ?_ | refine zW ?_); intro A B C D a b c d; simp only [↓yG, Nat.reduceEqDiff, ↓reduceIte, g44, f0, f3, f4, hsl.len]; (first | refine zX (a ?_) | refine zY (b ?_) | refine zZ (fun hc => c ?_) (fun hc => d ?_)) <;> clear a b c d A B C D <;> try simp only [yL] at hc) | (refine yA ?_; intro A a; simp only [↓yG, Nat.reduceEqDiff, ↓reduceIte, g44, f0, f3, f4, hsl.len]; refine yB (a ?_); clear a A) | (refine yD ?_; simp only [gresults, ↓yG, Nat.reduceEqDiff, ↓reduceIte, Option.bind_some, gld_1, gld_n, g44, f0, f3, f4, hsl.len]; refine ⟨_, rfl, ?_⟩; simp only [gone]))
    exact hPost _ _ ⟨m, rfl, hm, hall, rfl⟩
/-- what Accept accepts -/
structure AccOk (p : Par) (E : List Int) (c : Int) (pot : List Int) : Prop where
  ok : parF p = 0
  tot : totF p.D p.r E = (c, 0)
  len : pot.length = (p.r.toNat + 1) * (p.l.length + 1)
  ge : ∀ x ∈ pot, -1 ≤ x
  last : ∀ k, k ≤ p.r.toNat → pot[k * (p.l.length + 1) + p.l.length]! = 0
  step : ∀ k i j, k < p.r.toNat → p.D.ok i j → pot[(k + 1) * (p.l.length + 1) + j]! ≠ -1 → pot[k * (p.l.length + 1) + i]! ≠ -1 ∧ pot[k * (p.l.length + 1) + i]! - p.row i j ≤ pot[(k + 1) * (p.l.length + 1) + j]!
  le : c ≤ pot[0]!
def bkV (ev : Value) (c : Int) (pv : Value) : Value := .agg (bkC ev c pv).toArray
theorem bkC_flat {ev pv : Value} {c : Int} (h1 : flatV ev = true) (h2 : flatV pv = true) : (bkC ev c pv).all flatV = true := by
  simp only [bkC, List.all_cons, List.all_nil, h1, h2]; rfl
theorem idx_lt {R n k i : Nat} (hk : k ≤ R) (hi : i ≤ n) : k * (n + 1) + i < (R + 1) * (n + 1) := by
  have h1 : (k + 1) * (n + 1) ≤ (R + 1) * (n + 1) := Nat.mul_le_mul_right _ (by omega)
  rw [Nat.add_mul, Nat.one_mul] at h1
  omega
set_option maxHeartbeats 4000000 in
theorem Accept_ok {H : GHeap} (hw : H.wf) {ev pv : Value} {p : Par} {E pot : List Int} {c : Int} (hp : PR H p) (hE : IR H ev E) (hEl : E.length ≤ 4611686018427387904) (hV : IR H pv pot) (hVl : pot.length ≤ 4611686018427387904)
    (hVw : ∀ x ∈ pot, -9223372036854775808 ≤ x ∧ x ≤ 9223372036854775807) :
    ∃ r H', gev G 26 [parV p, bkV ev c pv] H = some (r, H') ∧ (∃ e, r = .int .i64 e ∧ (e = 0 ↔ AccOk p E c pot) ∧ Same H H') := by
  refine gev_GW (f := 26) rfl fun Post hPost => ?_
  have hno : ∀ e H', e ≠ 0 → ¬ AccOk p E c pot → Same H H' → Post (.int .i64 e) H' := fun e H' h1 h2 h3 => hPost _ _ ⟨e, rfl, ⟨fun h => absurd h h1, fun h => absurd h h2⟩, h3⟩
  have hyes : ∀ H', AccOk p E c pot → Same H H' → Post (.int .i64 0) H' := fun H' h1 h2 => hPost _ _ ⟨0, rfl, ⟨fun _ => h1, fun _ => rfl⟩, h2⟩
  clear hPost
  have hf := hp.kr.flat
  have hlim := hw.1
  have hb := par_cflat hf
  have hl := par_cells p
  have hfb := bkC_flat (c := c) (BrkR.flat hE) (BrkR.flat hV)
  have hS0 := (Same.refl hw).add (.cells (parC p) 0 true)
  have hS1 := hS0.add (.cells (bkC ev c pv) 0 true)
  have hSa : Same (H.add (some (.cells (parC p) 0 true))) ((H.add (some (.cells (parC p) 0 true))).add (some (.cells (bkC ev c pv) 0 true))) := (Same.refl hS0.wf).add _
  have e0 := rdn_par (p := p) hSa
  have hbv : bkV ev c pv = .agg (bkC ev c pv).toArray := rfl
  simp only [frameOf, Nat.reduceAdd]
  repeat' (first | refine zA ?_ | refine zB ?_ | refine zC ?_ | refine zD ?_ | refine zE ?_ | refine zF ?_ | refine zG ?_ | refine zH ?_ | refine zI ?_ | refine zJ ?_ | refine zK rfl ?_ | refine zL ?_ | refine zM ?_ | refine zN ?_ | refine zO ?_ | refine zP rfl ?_ | refine zQ ?_ | ((first | refine zR ?_ | refine zS ?_ | refine zT ?_ | skip); intro K k; simp (disch := (first | (simp only [yD2, beq_self_eq_true, Nat.reduceLT, Nat.reduceAdd]; done) | ((fail_if_success (apply Bool.eq_iff_iff.2)); first | omega | (simp only [yD2, beq_self_eq_true, Nat.reduceLT, Nat.reduceAdd] <;> omega)) | fail)) only [↓yS, yT, ↓reduceIte, Nat.reduceEqDiff, Nat.reduceAdd, Nat.reduceMul, reduceCtorEq, Int.reduceToNat, g26, hb, hl, hbv, agg_all, agg_list, hfb, e0]; refine yC (k _ _ ?_); clear k K) | ((first | refine zU ?_ | refine zV ?_ | refine zW ?_); intro A B C D a b c d; simp only [↓yG, Nat.reduceEqDiff, ↓reduceIte, g26, hb, hl, hbv, agg_all, agg_list, hfb, e0]; (first | refine zX (a ?_) | refine zY (b ?_) | refine zZ (fun hc => c ?_) (fun hc => d ?_)) <;> clear a b c d A B C D <;> try simp only [yL] at hc) | (refine yA ?_; intro A a; simp only [↓yG, Nat.reduceEqDiff, ↓reduceIte, g26, hb, hl, hbv, agg_all, agg_list, hfb, e0]; refine yB (a ?_); clear a A) | (refine yD ?_; simp only [gresults, ↓yG, Nat.reduceEqDiff, ↓reduceIte, Option.bind_some, gld_1, gld_n, g26, hb, hl, hbv, agg_all, agg_list, hfb, e0]; refine ⟨_, rfl, ?_⟩; simp only [gone]))
  have er : ∀ H', Same ((H.add (some (.cells (parC p) 0 true))).add (some (.cells (bkC ev c pv) 0 true))) H' → ∀ o, H'.rd (H.len + 1) o = (bkC ev c pv)[o]? := fun H' h o => by
    rw [h.rd (by simp only [len_add]; omega)]; exact rd_add_eq (by rw [len_add])
  have ep : ∀ H', Same ((H.add (some (.cells (parC p) 0 true))).add (some (.cells (bkC ev c pv) 0 true))) H' → ∀ o, H'.rd H.len o = (parC p)[o]? := fun H' h => rd_par (hSa.trans h)
  have epn : ∀ H', Same ((H.add (some (.cells (parC p) 0 true))).add (some (.cells (bkC ev c pv) 0 true))) H' → H'.rdn H.len 0 15 = some (parV p) := fun H' h => rdn_par (hSa.trans h)
  generalize (H.add (some (.cells (parC p) 0 true))).add (some (.cells (bkC ev c pv) 0 true)) = H1 at *
  clear hSa e0 hS0
  refine Gw_s fun K' hK' => G1_call (by simp only [gtarget, ↓GArg.ev, ↓evs, ↓Tr.get_set, Nat.reduceEqDiff, if_true, if_false, ↓reduceIte, Option.map_some]; rfl) (check_ok hS1.wf (hp.later hw hS1)) fun r1 H2 hq => hK' _ _ ?_
  obtain ⟨rfl, hS2⟩ := hq
  by_cases h0 : parF p = 0
  case neg =>
    have h0' : (parF p = 0) = False := eq_false h0
    repeat' (first | (exfalso; omega) | refine zA ?_ | refine zB ?_ | refine zC ?_ | refine zD ?_ | refine zE ?_ | refine zF ?_ | refine zG ?_ | refine zH ?_ | refine zI ?_ | refine zJ ?_ | refine zK rfl ?_ | refine zL ?_ | refine zM ?_ | refine zN ?_ | refine zO ?_ | refine zP rfl ?_ | refine zQ ?_ | ((first | refine zR ?_ | refine zS ?_ | refine zT ?_ | skip); intro K k; simp (disch := (first | (simp only [yD2, beq_self_eq_true, Nat.reduceLT, Nat.reduceAdd]; done) | ((fail_if_success (apply Bool.eq_iff_iff.2)); first | omega | (simp only [yD2, beq_self_eq_true, Nat.reduceLT, Nat.reduceAdd] <;> omega)) | fail)) only [↓yS, yT, ↓reduceIte, Nat.reduceEqDiff, Nat.reduceAdd, Nat.reduceMul, reduceCtorEq, Int.reduceToNat, g26, h0']; refine yC (k _ _ ?_); clear k K) | ((first | refine zU ?_ | refine zV ?_ | refine zW ?_); intro A B C D a b c d; simp only [↓yG, Nat.reduceEqDiff, ↓reduceIte, g26, h0']; (first | refine zX (a ?_) | refine zY (b ?_) | refine zZ (fun hc => c ?_) (fun hc => d ?_)) <;> clear a b c d A B C D <;> try simp only [yL] at hc) | (refine yA ?_; intro A a; simp only [↓yG, Nat.reduceEqDiff, ↓reduceIte, g26, h0']; refine yB (a ?_); clear a A) | (refine yD ?_; simp only [gresults, ↓yG, Nat.reduceEqDiff, ↓reduceIte, Option.bind_some, gld_1, gld_n, g26, h0']; refine ⟨_, rfl, ?_⟩; simp only [gone]))
    exact hno _ _ h0 (fun h => h0 h.ok) (hS1.trans hS2)
  rw [h0]
  have e1 := epn _ hS2
  repeat' (first | (exfalso; omega) | refine zA ?_ | refine zB ?_ | refine zC ?_ | refine zD ?_ | refine zE ?_ | refine zF ?_ | refine zG ?_ | refine zH ?_ | refine zI ?_ | refine zJ ?_ | refine zK rfl ?_ | refine zL ?_ | refine zM ?_ | refine zN ?_ | refine zO ?_ | refine zP rfl ?_ | refine zQ ?_ | ((first | refine zR ?_ | refine zS ?_ | refine zT ?_ | skip); intro K k; simp (disch := (first | (simp only [yD2, beq_self_eq_true, Nat.reduceLT, Nat.reduceAdd]; done) | ((fail_if_success (apply Bool.eq_iff_iff.2)); first | omega | (simp only [yD2, beq_self_eq_true, Nat.reduceLT, Nat.reduceAdd] <;> omega)) | fail)) only [↓yS, yT, ↓reduceIte, Nat.reduceEqDiff, Nat.reduceAdd, Nat.reduceMul, reduceCtorEq, Int.reduceToNat, g26, e1]; refine yC (k _ _ ?_); clear k K) | ((first | refine zU ?_ | refine zV ?_ | refine zW ?_); intro A B C D a b c d; simp only [↓yG, Nat.reduceEqDiff, ↓reduceIte, g26, e1]; (first | refine zX (a ?_) | refine zY (b ?_) | refine zZ (fun hc => c ?_) (fun hc => d ?_)) <;> clear a b c d A B C D <;> try simp only [yL] at hc) | (refine yA ?_; intro A a; simp only [↓yG, Nat.reduceEqDiff, ↓reduceIte, g26, e1]; refine yB (a ?_); clear a A) | (refine yD ?_; simp only [gresults, ↓yG, Nat.reduceEqDiff, ↓reduceIte, Option.bind_some, gld_1, gld_n, g26, e1]; refine ⟨_, rfl, ?_⟩; simp only [gone]))
  have hk : PK H p := ⟨hp, h0⟩
  refine Gw_s fun K' hK' => G1_call (by simp only [gtarget, ↓GArg.ev, ↓evs, ↓Tr.get_set, Nat.reduceEqDiff, if_true, if_false, ↓reduceIte, Option.map_some]; rfl) (open_ok hS2.wf (hk.later hw (hS1.trans hS2))) fun sv H3 hq => hK' _ _ ?_
  obtain ⟨hsh, hS3⟩ := hq
  have hS13 := hS2.trans hS3
  have er3 := er _ hS13
  repeat' (first | (exfalso; omega) | refine zA ?_ | refine zB ?_ | refine zC ?_ | refine zD ?_ | refine zE ?_ | refine zF ?_ | refine zG ?_ | refine zH ?_ | refine zI ?_ | refine zJ ?_ | refine zK rfl ?_ | refine zL ?_ | refine zM ?_ | refine zN ?_ | refine zO ?_ | refine zP rfl ?_ | refine zQ ?_ | ((first | refine zR ?_ | refine zS ?_ | refine zT ?_ | skip); intro K k; simp (disch := (first | (simp only [yD2, beq_self_eq_true, Nat.reduceLT, Nat.reduceAdd]; done) | ((fail_if_success (apply Bool.eq_iff_iff.2)); first | omega | (simp only [yD2, beq_self_eq_true, Nat.reduceLT, Nat.reduceAdd] <;> omega)) | fail)) only [↓yS, yT, ↓reduceIte, Nat.reduceEqDiff, Nat.reduceAdd, Nat.reduceMul, reduceCtorEq, Int.reduceToNat, g26, er3, bkC_0]; refine yC (k _ _ ?_); clear k K) | ((first | refine zU ?_ | refine zV ?_ | refine zW ?_); intro A B C D a b c d; simp only [↓yG, Nat.reduceEqDiff, ↓reduceIte, g26, er3, bkC_0]; (first | refine zX (a ?_) | refine zY (b ?_) | refine zZ (fun hc => c ?_) (fun hc => d ?_)) <;> clear a b c d A B C D <;> try simp only [yL] at hc) | (refine yA ?_; intro A a; simp only [↓yG, Nat.reduceEqDiff, ↓reduceIte, g26, er3, bkC_0]; refine yB (a ?_); clear a A) | (refine yD ?_; simp only [gresults, ↓yG, Nat.reduceEqDiff, ↓reduceIte, Option.bind_some, gld_1, gld_n, g26, er3, bkC_0]; refine ⟨_, rfl, ?_⟩; simp only [gone]))
  refine Gw_s fun K' hK' => G1_call (by simp only [gtarget, ↓GArg.ev, ↓evs, ↓Tr.get_set, Nat.reduceEqDiff, if_true, if_false, ↓reduceIte, Option.map_some]; rfl) (total_ok hS3.wf hsh (hk.later hw (hS1.trans hS13)) (GArg1.same hE hw (hS1.trans hS13)) hEl) fun r4 H4 hq => hK' _ _ ?_
  obtain ⟨rfl, hS4⟩ := hq
  have hS14 := hS13.trans hS4
  have er4 := er _ hS14
  have ep4 := ep _ hS14
  have hsh4 := hsh.later hS4
  have hSH4 := hS1.trans hS14
  have hk4 := hk.later hw hSH4
  have htt : tv2 (totF p.D p.r E) = .tuple #[.int .i64 (totF p.D p.r E).1, .int .i64 (totF p.D p.r E).2] := rfl
  have htot : totF p.D p.r E = ((totF p.D p.r E).1, (totF p.D p.r E).2) := rfl
  generalize ht1 : (totF p.D p.r E).1 = t1 at *
  generalize ht2 : (totF p.D p.r E).2 = t2 at *
  have hpar := parF_ok h0
  have hn := hk.n
  have hG := Par.good h0
  have hD : p.D.n = p.l.length := rfl
  obtain ⟨R, hR⟩ : ∃ R : Nat, p.r = R := ⟨p.r.toNat, by omega⟩
  have hRt : p.r.toNat = R := by omega
  have hP2 : (parC p)[2]? = some (.int .i64 (R : Nat)) := by rw [parC_2, hR]
  by_cases he : t2 = 0
  case neg =>
    have he' : (t2 = 0) = False := eq_false he
    repeat' (first | (exfalso; omega) | refine zA ?_ | refine zB ?_ | refine zC ?_ | refine zD ?_ | refine zE ?_ | refine zF ?_ | refine zG ?_ | refine zH ?_ | refine zI ?_ | refine zJ ?_ | refine zK rfl ?_ | refine zL ?_ | refine zM ?_ | refine zN ?_ | refine zO ?_ | refine zP rfl ?_ | refine zQ ?_ | ((first | refine zR ?_ | refine zS ?_ | refine zT ?_ | skip); intro K k; simp (disch := (first | (simp only [yD2, beq_self_eq_true, Nat.reduceLT, Nat.reduceAdd]; done) | ((fail_if_success (apply Bool.eq_iff_iff.2)); first | omega | (simp only [yD2, beq_self_eq_true, Nat.reduceLT, Nat.reduceAdd] <;> omega)) | fail)) only [↓yS, yT, ↓reduceIte, Nat.reduceEqDiff, Nat.reduceAdd, Nat.reduceMul, reduceCtorEq, Int.reduceToNat, g26, htt, he']; refine yC (k _ _ ?_); clear k K) | ((first | refine zU ?_ | refine zV ?_ | refine zW ?_); intro A B C D a b c d; simp only [↓yG, Nat.reduceEqDiff, ↓reduceIte, g26, htt, he']; (first | refine zX (a ?_) | refine zY (b ?_) | refine zZ (fun hc => c ?_) (fun hc => d ?_)) <;> clear a b c d A B C D <;> try simp only [yL] at hc) | (refine yA ?_; intro A a; simp only [↓yG, Nat.reduceEqDiff, ↓reduceIte, g26, htt, he']; refine yB (a ?_); clear a A) | (refine yD ?_; simp only [gresults, ↓yG, Nat.reduceEqDiff, ↓reduceIte, Option.bind_some, gld_1, gld_n, g26, htt, he']; refine ⟨_, rfl, ?_⟩; simp only [gone]))
    exact hno _ _ he (fun h => he (by have := h.tot; rw [htot] at this; exact (Prod.mk.inj this).2)) hSH4
  subst he
  by_cases hcc : c = t1
  case neg =>
    have hcc' : (c = t1) = False := eq_false hcc
    repeat' (first | (exfalso; omega) | refine zA ?_ | refine zB ?_ | refine zC ?_ | refine zD ?_ | refine zE ?_ | refine zF ?_ | refine zG ?_ | refine zH ?_ | refine zI ?_ | refine zJ ?_ | refine zK rfl ?_ | refine zL ?_ | refine zM ?_ | refine zN ?_ | refine zO ?_ | refine zP rfl ?_ | refine zQ ?_ | ((first | refine zR ?_ | refine zS ?_ | refine zT ?_ | skip); intro K k; simp (disch := (first | (simp only [yD2, beq_self_eq_true, Nat.reduceLT, Nat.reduceAdd]; done) | ((fail_if_success (apply Bool.eq_iff_iff.2)); first | omega | (simp only [yD2, beq_self_eq_true, Nat.reduceLT, Nat.reduceAdd] <;> omega)) | fail)) only [↓yS, yT, ↓reduceIte, Nat.reduceEqDiff, Nat.reduceAdd, Nat.reduceMul, reduceCtorEq, Int.reduceToNat, g26, htt, er4, bkC_1, hcc']; refine yC (k _ _ ?_); clear k K) | ((first | refine zU ?_ | refine zV ?_ | refine zW ?_); intro A B C D a b c d; simp only [↓yG, Nat.reduceEqDiff, ↓reduceIte, g26, htt, er4, bkC_1, hcc']; (first | refine zX (a ?_) | refine zY (b ?_) | refine zZ (fun hc => c ?_) (fun hc => d ?_)) <;> clear a b c d A B C D <;> try simp only [yL] at hc) | (refine yA ?_; intro A a; simp only [↓yG, Nat.reduceEqDiff, ↓reduceIte, g26, htt, er4, bkC_1, hcc']; refine yB (a ?_); clear a A) | (refine yD ?_; simp only [gresults, ↓yG, Nat.reduceEqDiff, ↓reduceIte, Option.bind_some, gld_1, gld_n, g26, htt, er4, bkC_1, hcc']; refine ⟨_, rfl, ?_⟩; simp only [gone]))
    exact hno _ _ (by decide) (fun h => hcc (by have := h.tot; rw [htot] at this; exact (Prod.mk.inj this).1.symm)) hSH4
  subst hcc
  have hslV := hV.isSl
  have hm1 : ((R : Int) + 1) * ((p.l.length : Int) + 1) = (((R + 1) * (p.l.length + 1) : Nat) : Int) := by simp
  have hm2 : (R + 1) * (p.l.length + 1) ≤ 5 * (p.l.length + 1) := Nat.mul_le_mul_right _ (by omega)
  have hm3 : 0 < (R + 1) * (p.l.length + 1) := Nat.mul_pos (by omega) (by omega)
  have hix : ∀ k i, k ≤ R → i ≤ p.l.length → k * (p.l.length + 1) + i < (R + 1) * (p.l.length + 1) := fun k i h1 h2 => idx_lt h1 h2
  have hmI : ∀ k : Nat, (k : Int) * ((p.l.length : Int) + 1) = ((k * (p.l.length + 1) : Nat) : Int) := fun k => by simp
  have hmI1 : ∀ k : Nat, ((k : Int) + 1) * ((p.l.length : Int) + 1) = (((k + 1) * (p.l.length + 1) : Nat) : Int) := fun k => by simp
  repeat' (first | (exfalso; omega) | refine zA ?_ | refine zB ?_ | refine zC ?_ | refine zD ?_ | refine zE ?_ | refine zF ?_ | refine zG ?_ | refine zH ?_ | refine zI ?_ | refine zJ ?_ | refine zK rfl ?_ | refine zL ?_ | refine zM ?_ | refine zN ?_ | refine zO ?_ | refine zP rfl ?_ | refine zQ ?_ | ((first | refine zR ?_ | refine zS ?_ | refine zT ?_ | skip); intro K k; simp (disch := (first | (simp only [yD2, beq_self_eq_true, Nat.reduceLT, Nat.reduceAdd]; done) | ((fail_if_success (apply Bool.eq_iff_iff.2)); first | omega | (simp only [yD2, beq_self_eq_true, Nat.reduceLT, Nat.reduceAdd] <;> omega)) | fail)) only [↓yS, yT, ↓reduceIte, Nat.reduceEqDiff, Nat.reduceAdd, Nat.reduceMul, reduceCtorEq, Int.reduceToNat, g26, htt, er4, bkC_1]; refine yC (k _ _ ?_); clear k K) | ((first | refine zU ?_ | refine zV ?_ | refine zW ?_); intro A B C D a b c d; simp only [↓yG, Nat.reduceEqDiff, ↓reduceIte, g26, htt, er4, bkC_1]; (first | refine zX (a ?_) | refine zY (b ?_) | refine zZ (fun hc => c ?_) (fun hc => d ?_)) <;> clear a b c d A B C D <;> try simp only [yL] at hc) | (refine yA ?_; intro A a; simp only [↓yG, Nat.reduceEqDiff, ↓reduceIte, g26, htt, er4, bkC_1]; refine yB (a ?_); clear a A) | (refine yD ?_; simp only [gresults, ↓yG, Nat.reduceEqDiff, ↓reduceIte, Option.bind_some, gld_1, gld_n, g26, htt, er4, bkC_1]; refine ⟨_, rfl, ?_⟩; simp only [gone]))
  refine Gw_s fun K' hK' => G1_call (by simp only [gtarget, ↓GArg.ev, ↓evs, ↓Tr.get_set, Nat.reduceEqDiff, if_true, if_false, ↓reduceIte, Option.map_some]; rfl) (sn_ok hsh4 hk4.pr) fun r5 H5 hq => hK' _ _ ?_
  obtain ⟨rfl, rfl⟩ := hq
  by_cases hlen : pot.length = (R + 1) * (p.l.length + 1)
  case neg =>
    have hb1 : 0 ≤ ((R : Int) + 1) * ((p.l.length : Int) + 1) ∧ ((R : Int) + 1) * ((p.l.length : Int) + 1) ≤ 100000 := by rw [hm1]; omega
    have hlen' : ((pot.length : Int) = (((R + 1) * (p.l.length + 1) : Nat) : Int)) = False := eq_false fun h => hlen (by omega)
    repeat' (first | (exfalso; omega) | refine zA ?_ | refine zB ?_ | refine zC ?_ | refine zD ?_ | refine zE ?_ | refine zF ?_ | refine zG ?_ | refine zH ?_ | refine zI ?_ | refine zJ ?_ | refine zK rfl ?_ | refine zL ?_ | refine zM ?_ | refine zN ?_ | refine zO ?_ | refine zP rfl ?_ | refine zQ ?_ | ((first | refine zR ?_ | refine zS ?_ | refine zT ?_ | skip); intro K k; simp (disch := (first | (simp only [yD2, beq_self_eq_true, Nat.reduceLT, Nat.reduceAdd]; done) | ((fail_if_success (apply Bool.eq_iff_iff.2)); first | omega | (simp only [yD2, beq_self_eq_true, Nat.reduceLT, Nat.reduceAdd] <;> omega)) | fail)) only [↓yS, yT, ↓reduceIte, Nat.reduceEqDiff, Nat.reduceAdd, Nat.reduceMul, reduceCtorEq, Int.reduceToNat, g26, er4, bkC_2, hslV.len, ep4, hP2, hm1, hlen']; refine yC (k _ _ ?_); clear k K) | ((first | refine zU ?_ | refine zV ?_ | refine zW ?_); intro A B C D a b c d; simp only [↓yG, Nat.reduceEqDiff, ↓reduceIte, g26, er4, bkC_2, hslV.len, ep4, hP2, hm1, hlen']; (first | refine zX (a ?_) | refine zY (b ?_) | refine zZ (fun hc => c ?_) (fun hc => d ?_)) <;> clear a b c d A B C D <;> try simp only [yL] at hc) | (refine yA ?_; intro A a; simp only [↓yG, Nat.reduceEqDiff, ↓reduceIte, g26, er4, bkC_2, hslV.len, ep4, hP2, hm1, hlen']; refine yB (a ?_); clear a A) | (refine yD ?_; simp only [gresults, ↓yG, Nat.reduceEqDiff, ↓reduceIte, Option.bind_some, gld_1, gld_n, g26, er4, bkC_2, hslV.len, ep4, hP2, hm1, hlen']; refine ⟨_, rfl, ?_⟩; simp only [gone]))
    exact hno _ _ (by decide) (fun h => hlen (by rw [h.len, hRt])) hSH4
  have hb1 : 0 ≤ ((R : Int) + 1) * ((p.l.length : Int) + 1) ∧ ((R : Int) + 1) * ((p.l.length : Int) + 1) ≤ 100000 := by rw [hm1]; omega
  have hlen' : ((pot.length : Int) = (((R + 1) * (p.l.length + 1) : Nat) : Int)) = True := eq_true (by omega)
  repeat' (first | (exfalso; omega) | refine zA ?_ | refine zB ?_ | refine zC ?_ | refine zD ?_ | refine zE ?_ | refine zF ?_ | refine zG ?_ | refine zH ?_ | refine zI ?_ | refine zJ ?_ | refine zK rfl ?_ | refine zL ?_ | refine zM ?_ | refine zN ?_ | refine zO ?_ | refine zP rfl ?_ | refine zQ ?_ | ((first | refine zR ?_ | refine zS ?_ | refine zT ?_ | skip); intro K k; simp (disch := (first | (simp only [yD2, beq_self_eq_true, Nat.reduceLT, Nat.reduceAdd]; done) | ((fail_if_success (apply Bool.eq_iff_iff.2)); first | omega | (simp only [yD2, beq_self_eq_true, Nat.reduceLT, Nat.reduceAdd] <;> omega)) | fail)) only [↓yS, yT, ↓reduceIte, Nat.reduceEqDiff, Nat.reduceAdd, Nat.reduceMul, reduceCtorEq, Int.reduceToNat, g26, er4, bkC_2, hslV.len, ep4, hP2, hm1, hlen']; refine yC (k _ _ ?_); clear k K) | ((first | refine zU ?_ | refine zV ?_ | refine zW ?_); intro A B C D a b c d; simp only [↓yG, Nat.reduceEqDiff, ↓reduceIte, g26, er4, bkC_2, hslV.len, ep4, hP2, hm1, hlen']; (first | refine zX (a ?_) | refine zY (b ?_) | refine zZ (fun hc => c ?_) (fun hc => d ?_)) <;> clear a b c d A B C D <;> try simp only [yL] at hc) | (refine yA ?_; intro A a; simp only [↓yG, Nat.reduceEqDiff, ↓reduceIte, g26, er4, bkC_2, hslV.len, ep4, hP2, hm1, hlen']; refine yB (a ?_); clear a A) | (refine yD ?_; simp only [gresults, ↓yG, Nat.reduceEqDiff, ↓reduceIte, Option.bind_some, gld_1, gld_n, g26, er4, bkC_2, hslV.len, ep4, hP2, hm1, hlen']; refine ⟨_, rfl, ?_⟩; simp only [gone]))
  have hV4 := GArg1.same hV hw hSH4
  have hne : pot ≠ [] := fun e => by rw [e] at hlen; simp at hlen
  intro K' hK'; refine G1_call (by simp only [gtarget, ↓GArg.ev, ↓evs, ↓Tr.get_set, Nat.reduceEqDiff, if_true, if_false, ↓reduceIte, Option.map_some]; rfl) (min_ok hV4 hne hVl) fun r6 H6 hq => hK' _ _ ?_
  obtain ⟨m, rfl, hmm, hmin, rfl⟩ := hq
  by_cases hge : m < -1
  · repeat' (first | (exfalso; omega) | refine zA ?_ | refine zB ?_ | refine zC ?_ | refine zD ?_ | refine zE ?_ | refine zF ?_ | refine zG ?_ | refine zH ?_ | refine zI ?_ | refine zJ ?_ | refine zK rfl ?_ | refine zL ?_ | refine zM ?_ | refine zN ?_ | refine zO ?_ | refine zP rfl ?_ | refine zQ ?_ | ((first | refine zR ?_ | refine zS ?_ | refine zT ?_ | skip); intro K k; simp (disch := (first | (simp only [yD2, beq_self_eq_true, Nat.reduceLT, Nat.reduceAdd]; done) | ((fail_if_success (apply Bool.eq_iff_iff.2)); first | omega | (simp only [yD2, beq_self_eq_true, Nat.reduceLT, Nat.reduceAdd] <;> omega)) | fail)) only [↓yS, yT, ↓reduceIte, Nat.reduceEqDiff, Nat.reduceAdd, Nat.reduceMul, reduceCtorEq, Int.reduceToNat, g26]; refine yC (k _ _ ?_); clear k K) | ((first | refine zU ?_ | refine zV ?_ | refine zW ?_); intro A B C D a b c d; simp only [↓yG, Nat.reduceEqDiff, ↓reduceIte, g26]; (first | refine zX (a ?_) | refine zY (b ?_) | refine zZ (fun hc => c ?_) (fun hc => d ?_)) <;> clear a b c d A B C D <;> try simp only [yL] at hc) | (refine yA ?_; intro A a; simp only [↓yG, Nat.reduceEqDiff, ↓reduceIte, g26]; refine yB (a ?_); clear a A) | (refine yD ?_; simp only [gresults, ↓yG, Nat.reduceEqDiff, ↓reduceIte, Option.bind_some, gld_1, gld_n, g26]; refine ⟨_, rfl, ?_⟩; simp only [gone]))
    exact hno _ _ (by decide) (fun h => by have := h.ge m hmm; omega) hSH4
  have hge' : ∀ x ∈ pot, -1 ≤ x := fun x hx => by have := hmin x hx; omega
  repeat' (first | (exfalso; omega) | refine zA ?_ | refine zB ?_ | refine zC ?_ | refine zD ?_ | refine zE ?_ | refine zF ?_ | refine zG ?_ | refine zH ?_ | refine zI ?_ | refine zJ ?_ | refine zK rfl ?_ | refine zL ?_ | refine zM ?_ | refine zN ?_ | refine zO ?_ | refine zP rfl ?_ | refine zQ ?_ | ((first | refine zR ?_ | refine zS ?_ | refine zT ?_ | skip); intro K k; simp (disch := (first | (simp only [yD2, beq_self_eq_true, Nat.reduceLT, Nat.reduceAdd]; done) | ((fail_if_success (apply Bool.eq_iff_iff.2)); first | omega | (simp only [yD2, beq_self_eq_true, Nat.reduceLT, Nat.reduceAdd] <;> omega)) | fail)) only [↓yS, yT, ↓reduceIte, Nat.reduceEqDiff, Nat.reduceAdd, Nat.reduceMul, reduceCtorEq, Int.reduceToNat, g26, ep4, hP2]; refine yC (k _ _ ?_); clear k K) | ((first | refine zU ?_ | refine zV ?_ | refine zW ?_); intro A B C D a b c d; simp only [↓yG, Nat.reduceEqDiff, ↓reduceIte, g26, ep4, hP2]; (first | refine zX (a ?_) | refine zY (b ?_) | refine zZ (fun hc => c ?_) (fun hc => d ?_)) <;> clear a b c d A B C D <;> try simp only [yL] at hc) | (refine yA ?_; intro A a; simp only [↓yG, Nat.reduceEqDiff, ↓reduceIte, g26, ep4, hP2]; refine yB (a ?_); clear a A) | (refine yD ?_; simp only [gresults, ↓yG, Nat.reduceEqDiff, ↓reduceIte, Option.bind_some, gld_1, gld_n, g26, ep4, hP2]; refine ⟨_, rfl, ?_⟩; simp only [gone]))
  have hat : ∀ H', Same H6 H' → ∀ k i, k ≤ R → i ≤ p.l.length → H'.rd (blk pv) (ofs pv + (k * (p.l.length + 1) + i)) = some (.int .i64 pot[k * (p.l.length + 1) + i]!) := fun H' hS k i h1 h2 => by
    have := hix k i h1 h2
    exact IR.at_ (GArg1.same hV4 hSH4.wf hS) (by omega)
  have hbig : ∀ k i, k ≤ R → i ≤ p.l.length → k * (p.l.length + 1) + i < 100000 := fun k i h1 h2 => by have := hix k i h1 h2; omega
  have hpot : ∀ k i, k ≤ R → i ≤ p.l.length → -1 ≤ pot[k * (p.l.length + 1) + i]! ∧ pot[k * (p.l.length + 1) + i]! ≤ 9223372036854775807 := fun k i h1 h2 => by
    have h3 : k * (p.l.length + 1) + i < pot.length := by rw [hlen]; exact hix k i h1 h2
    have h4 : pot[k * (p.l.length + 1) + i]! ∈ pot := by rw [getElem!_pos pot _ h3]; exact List.getElem_mem h3
    exact ⟨hge' _ h4, (hVw _ h4).2⟩
  refine GW_loop (fun q fr H7 => ∃ (k : Nat), q = R + 1 - k ∧ k ≤ R + 1 ∧ fr.get 2 = some (.pointer (some ⟨H.len, 0, none⟩)) ∧ fr.get 3 = some (.pointer (some ⟨H.len + 1, 0, none⟩)) ∧ fr.get 6 = some (sv) ∧ fr.get 9 = some (.int .i64 p.l.length) ∧ fr.get 10 = some (pv) ∧ fr.get 60 = some (.int .i64 (R + 1 : Nat)) ∧ fr.get 61 = some (.int .i64 k) ∧ H7 = H6 ∧ ∀ k', k' < k → pot[k' * (p.l.length + 1) + p.l.length]! = 0) ?_ (R + 1) ?_
  rotate_left
  · refine ⟨0, by omega, by omega, ?_⟩
    simp only [↓yG, Nat.reduceEqDiff, ↓reduceIte, Int.natCast_add, Int.cast_ofNat_Int, Int.natCast_zero, true_and, and_true, Option.some.injEq, Value.int.injEq]
    first | exact ⟨rfl, fun k' h => absurd h (Nat.not_lt_zero _)⟩ | exact fun k' h => absurd h (Nat.not_lt_zero _)
  rintro q fr H7 ⟨k, rfl, hk1, f2, f3, f6, f9, f10, f60, f61, rfl, hlast⟩ J hJ
  by_cases hk2 : k < R + 1
  · have hel := hat _ (Same.refl hSH4.wf) k p.l.length (by omega) (Nat.le_refl _)
    have hbg := hbig k p.l.length (by omega) (Nat.le_refl _)
    have hmk := hmI k
    have hxi : ((k * (p.l.length + 1) : Nat) : Int) + (p.l.length : Int) = ((k * (p.l.length + 1) + p.l.length : Nat) : Int) := by simp
    have hbk : 0 ≤ (k : Int) * ((p.l.length : Int) + 1) ∧ (k : Int) * ((p.l.length : Int) + 1) ≤ 100000 := by rw [hmk]; omega
    have hlt := hix k p.l.length (by omega) (Nat.le_refl _)
    generalize hxx : k * (p.l.length + 1) + p.l.length = x at *
    by_cases hz : pot[x]! = 0
    · have hz' := eq_true hz
      repeat' (first | (exfalso; omega) | refine zA ?_ | refine zB ?_ | refine zC ?_ | refine zD ?_ | refine zE ?_ | refine zF ?_ | refine zG ?_ | refine zH ?_ | refine zI ?_ | refine zJ ?_ | refine zK rfl ?_ | refine zL ?_ | refine zM ?_ | refine zN ?_ | refine zO ?_ | refine zP rfl ?_ | refine zQ ?_ | ((first | refine zR ?_ | refine zS ?_ | refine zT ?_ | skip); intro K k; simp (disch := (first | (simp only [yD2, beq_self_eq_true, Nat.reduceLT, Nat.reduceAdd]; done) | ((fail_if_success (apply Bool.eq_iff_iff.2)); first | omega | (simp only [yD2, beq_self_eq_true, Nat.reduceLT, Nat.reduceAdd] <;> omega)) | fail)) only [↓yS, yT, ↓reduceIte, Nat.reduceEqDiff, Nat.reduceAdd, Nat.reduceMul, reduceCtorEq, Int.reduceToNat, g26, f2, f3, f6, f9, f10, f60, f61, hmk, hxi, hslV.ia, hel, hz']; refine yC (k _ _ ?_); clear k K) | ((first | refine zU ?_ | refine zV ?_ | refine zW ?_); intro A B C D a b c d; simp only [↓yG, Nat.reduceEqDiff, ↓reduceIte, g26, f2, f3, f6, f9, f10, f60, f61, hmk, hxi, hslV.ia, hel, hz']; (first | refine zX (a ?_) | refine zY (b ?_) | refine zZ (fun hc => c ?_) (fun hc => d ?_)) <;> clear a b c d A B C D <;> try simp only [yL] at hc) | (refine yA ?_; intro A a; simp only [↓yG, Nat.reduceEqDiff, ↓reduceIte, g26, f2, f3, f6, f9, f10, f60, f61, hmk, hxi, hslV.ia, hel, hz']; refine yB (a ?_); clear a A) | (refine yD ?_; simp only [gresults, ↓yG, Nat.reduceEqDiff, ↓reduceIte, Option.bind_some, gld_1, gld_n, g26, f2, f3, f6, f9, f10, f60, f61, hmk, hxi, hslV.ia, hel, hz']; refine ⟨_, rfl, ?_⟩; simp only [gone]))
      refine hJ _ _ ⟨R + 1 - (k + 1), by omega, k + 1, rfl, by omega, ?_⟩
      simp only [↓yG, Nat.reduceEqDiff, ↓reduceIte, Int.natCast_add, Int.cast_ofNat_Int, Int.natCast_zero, true_and, and_true, Option.some.injEq, Value.int.injEq, f2, f3, f6, f9, f10, f60]
      have hnx : ∀ k', k' < k + 1 → pot[k' * (p.l.length + 1) + p.l.length]! = 0 := fun k' h => by
        rcases Nat.lt_or_eq_of_le (Nat.le_of_lt_succ h) with h | rfl
        · exact hlast k' h
        · rw [hxx]; exact hz
      first | exact ⟨rfl, hnx⟩ | exact hnx
    · have hz' := eq_false hz
      repeat' (first | (exfalso; omega) | refine zA ?_ | refine zB ?_ | refine zC ?_ | refine zD ?_ | refine zE ?_ | refine zF ?_ | refine zG ?_ | refine zH ?_ | refine zI ?_ | refine zJ ?_ | refine zK rfl ?_ | refine zL ?_ | refine zM ?_ | refine zN ?_ | refine zO ?_ | refine zP rfl ?_ | refine zQ ?_ | ((first | refine zR ?_ | refine zS ?_ | refine zT ?_ | skip); intro K k; simp (disch := (first | (simp only [yD2, beq_self_eq_true, Nat.reduceLT, Nat.reduceAdd]; done) | ((fail_if_success (apply Bool.eq_iff_iff.2)); first | omega | (simp only [yD2, beq_self_eq_true, Nat.reduceLT, Nat.reduceAdd] <;> omega)) | fail)) only [↓yS, yT, ↓reduceIte, Nat.reduceEqDiff, Nat.reduceAdd, Nat.reduceMul, reduceCtorEq, Int.reduceToNat, g26, f2, f3, f6, f9, f10, f60, f61, hmk, hxi, hslV.ia, hel, hz']; refine yC (k _ _ ?_); clear k K) | ((first | refine zU ?_ | refine zV ?_ | refine zW ?_); intro A B C D a b c d; simp only [↓yG, Nat.reduceEqDiff, ↓reduceIte, g26, f2, f3, f6, f9, f10, f60, f61, hmk, hxi, hslV.ia, hel, hz']; (first | refine zX (a ?_) | refine zY (b ?_) | refine zZ (fun hc => c ?_) (fun hc => d ?_)) <;> clear a b c d A B C D <;> try simp only [yL] at hc) | (refine yA ?_; intro A a; simp only [↓yG, Nat.reduceEqDiff, ↓reduceIte, g26, f2, f3, f6, f9, f10, f60, f61, hmk, hxi, hslV.ia, hel, hz']; refine yB (a ?_); clear a A) | (refine yD ?_; simp only [gresults, ↓yG, Nat.reduceEqDiff, ↓reduceIte, Option.bind_some, gld_1, gld_n, g26, f2, f3, f6, f9, f10, f60, f61, hmk, hxi, hslV.ia, hel, hz']; refine ⟨_, rfl, ?_⟩; simp only [gone]))
      exact hno _ _ (by decide) (fun h => hz (by rw [← hxx]; exact h.last k (by omega))) hSH4
  obtain rfl : k = R + 1 := by omega
  clear hJ
  repeat' (first | (exfalso; omega) | refine zA ?_ | refine zB ?_ | refine zC ?_ | refine zD ?_ | refine zE ?_ | refine zF ?_ | refine zG ?_ | refine zH ?_ | refine zI ?_ | refine zJ ?_ | refine zK rfl ?_ | refine zL ?_ | refine zM ?_ | refine zN ?_ | refine zO ?_ | refine zP rfl ?_ | refine zQ ?_ | ((first | refine zR ?_ | refine zS ?_ | refine zT ?_ | skip); intro K k; simp (disch := (first | (simp only [yD2, beq_self_eq_true, Nat.reduceLT, Nat.reduceAdd]; done) | ((fail_if_success (apply Bool.eq_iff_iff.2)); first | omega | (simp only [yD2, beq_self_eq_true, Nat.reduceLT, Nat.reduceAdd] <;> omega)) | fail)) only [↓yS, yT, ↓reduceIte, Nat.reduceEqDiff, Nat.reduceAdd, Nat.reduceMul, reduceCtorEq, Int.reduceToNat, g26, f2, f3, f6, f9, f10, f60, f61, ep4, hP2]; refine yC (k _ _ ?_); clear k K) | ((first | refine zU ?_ | refine zV ?_ | refine zW ?_); intro A B C D a b c d; simp only [↓yG, Nat.reduceEqDiff, ↓reduceIte, g26, f2, f3, f6, f9, f10, f60, f61, ep4, hP2]; (first | refine zX (a ?_) | refine zY (b ?_) | refine zZ (fun hc => c ?_) (fun hc => d ?_)) <;> clear a b c d A B C D <;> try simp only [yL] at hc) | (refine yA ?_; intro A a; simp only [↓yG, Nat.reduceEqDiff, ↓reduceIte, g26, f2, f3, f6, f9, f10, f60, f61, ep4, hP2]; refine yB (a ?_); clear a A) | (refine yD ?_; simp only [gresults, ↓yG, Nat.reduceEqDiff, ↓reduceIte, Option.bind_some, gld_1, gld_n, g26, f2, f3, f6, f9, f10, f60, f61, ep4, hP2]; refine ⟨_, rfl, ?_⟩; simp only [gone]))
  refine GW_loop (fun q fr H8 => ∃ (k : Nat), q = R - k ∧ k ≤ R ∧ fr.get 3 = some (.pointer (some ⟨H.len + 1, 0, none⟩)) ∧ fr.get 6 = some (sv) ∧ fr.get 9 = some (.int .i64 p.l.length) ∧ fr.get 10 = some (pv) ∧ fr.get 76 = some (.int .i64 R) ∧ fr.get 77 = some (.int .i64 k) ∧ Same H7 H8 ∧ ∀ k' i j, k' < k → p.D.ok i j → pot[(k' + 1) * (p.l.length + 1) + j]! ≠ -1 → pot[k' * (p.l.length + 1) + i]! ≠ -1 ∧ pot[k' * (p.l.length + 1) + i]! - p.row i j ≤ pot[(k' + 1) * (p.l.length + 1) + j]!) ?_ R ?_
  rotate_left
  · refine ⟨0, by omega, by omega, ?_⟩
    simp only [↓yG, Nat.reduceEqDiff, ↓reduceIte, Int.natCast_add, Int.cast_ofNat_Int, Int.natCast_zero, true_and, and_true, Option.some.injEq, Value.int.injEq, f2, f3, f6, f9, f10, f60, f61]
    exact ⟨Same.refl hSH4.wf, fun k' i j h => absurd h (Nat.not_lt_zero _)⟩
  clear f2 f3 f6 f9 f10 f60 f61
  rintro q fr2 H8 ⟨k, rfl, hk1, f3, f6, f9, f10, f76, f77, hS8, hst⟩ J hJ
  by_cases hk2 : k < R
  case neg =>
    obtain rfl : k = R := by omega
    have er8 := er _ (hS14.trans hS8)
    have hel := hat _ hS8 0 0 (by omega) (by omega)
    have hlt := hix 0 0 (by omega) (by omega)
    simp only [Nat.zero_mul, Nat.add_zero] at hel
    repeat' (first | (exfalso; omega) | refine zA ?_ | refine zB ?_ | refine zC ?_ | refine zD ?_ | refine zE ?_ | refine zF ?_ | refine zG ?_ | refine zH ?_ | refine zI ?_ | refine zJ ?_ | refine zK rfl ?_ | refine zL ?_ | refine zM ?_ | refine zN ?_ | refine zO ?_ | refine zP rfl ?_ | refine zQ ?_ | ((first | refine zR ?_ | refine zS ?_ | refine zT ?_ | skip); intro K k; simp (disch := (first | (simp only [yD2, beq_self_eq_true, Nat.reduceLT, Nat.reduceAdd]; done) | ((fail_if_success (apply Bool.eq_iff_iff.2)); first | omega | (simp only [yD2, beq_self_eq_true, Nat.reduceLT, Nat.reduceAdd] <;> omega)) | fail)) only [↓yS, yT, ↓reduceIte, Nat.reduceEqDiff, Nat.reduceAdd, Nat.reduceMul, reduceCtorEq, Int.reduceToNat, g26, f3, f6, f9, f10, f76, f77, er8, bkC_1, hslV.ia, hel, Int.toNat_zero, Nat.zero_mul, Nat.add_zero]; refine yC (k _ _ ?_); clear k K) | ((first | refine zU ?_ | refine zV ?_ | refine zW ?_); intro A B C D a b c d; simp only [↓yG, Nat.reduceEqDiff, ↓reduceIte, g26, f3, f6, f9, f10, f76, f77, er8, bkC_1, hslV.ia, hel, Int.toNat_zero, Nat.zero_mul, Nat.add_zero]; (first | refine zX (a ?_) | refine zY (b ?_) | refine zZ (fun hc => c ?_) (fun hc => d ?_)) <;> clear a b c d A B C D <;> try simp only [yL] at hc) | (refine yA ?_; intro A a; simp only [↓yG, Nat.reduceEqDiff, ↓reduceIte, g26, f3, f6, f9, f10, f76, f77, er8, bkC_1, hslV.ia, hel, Int.toNat_zero, Nat.zero_mul, Nat.add_zero]; refine yB (a ?_); clear a A) | (refine yD ?_; simp only [gresults, ↓yG, Nat.reduceEqDiff, ↓reduceIte, Option.bind_some, gld_1, gld_n, g26, f3, f6, f9, f10, f76, f77, er8, bkC_1, hslV.ia, hel, Int.toNat_zero, Nat.zero_mul, Nat.add_zero]; refine ⟨_, rfl, ?_⟩; simp only [gone]))
    case refine_1 => exact hno _ _ (by decide) (fun h => by have := h.le; omega) (hSH4.trans hS8)
    case refine_2 =>
      refine hyes _ ⟨h0, htot, by rw [hlen, hRt], hge', fun k' h => hlast k' (by rw [hRt] at h; omega), fun k' i j h => hst k' i j (by rw [hRt] at h; exact h), by omega⟩ (hSH4.trans hS8)
  repeat' (first | (exfalso; omega) | refine zA ?_ | refine zB ?_ | refine zC ?_ | refine zD ?_ | refine zE ?_ | refine zF ?_ | refine zG ?_ | refine zH ?_ | refine zI ?_ | refine zJ ?_ | refine zK rfl ?_ | refine zL ?_ | refine zM ?_ | refine zN ?_ | refine zO ?_ | refine zP rfl ?_ | refine zQ ?_ | ((first | refine zR ?_ | refine zS ?_ | refine zT ?_ | skip); intro K k; simp (disch := (first | (simp only [yD2, beq_self_eq_true, Nat.reduceLT, Nat.reduceAdd]; done) | ((fail_if_success (apply Bool.eq_iff_iff.2)); first | omega | (simp only [yD2, beq_self_eq_true, Nat.reduceLT, Nat.reduceAdd] <;> omega)) | fail)) only [↓yS, yT, ↓reduceIte, Nat.reduceEqDiff, Nat.reduceAdd, Nat.reduceMul, reduceCtorEq, Int.reduceToNat, g26, f3, f6, f9, f10, f76, f77]; refine yC (k _ _ ?_); clear k K) | ((first | refine zU ?_ | refine zV ?_ | refine zW ?_); intro A B C D a b c d; simp only [↓yG, Nat.reduceEqDiff, ↓reduceIte, g26, f3, f6, f9, f10, f76, f77]; (first | refine zX (a ?_) | refine zY (b ?_) | refine zZ (fun hc => c ?_) (fun hc => d ?_)) <;> clear a b c d A B C D <;> try simp only [yL] at hc) | (refine yA ?_; intro A a; simp only [↓yG, Nat.reduceEqDiff, ↓reduceIte, g26, f3, f6, f9, f10, f76, f77]; refine yB (a ?_); clear a A) | (refine yD ?_; simp only [gresults, ↓yG, Nat.reduceEqDiff, ↓reduceIte, Option.bind_some, gld_1, gld_n, g26, f3, f6, f9, f10, f76, f77]; refine ⟨_, rfl, ?_⟩; simp only [gone]))
  refine GW_loop (fun q fr H9 => ∃ (i : Nat), q = p.l.length - i ∧ i ≤ p.l.length ∧ fr.get 3 = some (.pointer (some ⟨H.len + 1, 0, none⟩)) ∧ fr.get 6 = some (sv) ∧ fr.get 9 = some (.int .i64 p.l.length) ∧ fr.get 10 = some (pv) ∧ fr.get 12 = some (.int .i64 k) ∧ fr.get 76 = some (.int .i64 R) ∧ fr.get 77 = some (.int .i64 k) ∧ fr.get 80 = some (.int .i64 p.l.length) ∧ fr.get 81 = some (.int .i64 i) ∧ Same H7 H9 ∧ ∀ i' j, i' < i → p.D.ok i' j → pot[(k + 1) * (p.l.length + 1) + j]! ≠ -1 → pot[k * (p.l.length + 1) + i']! ≠ -1 ∧ pot[k * (p.l.length + 1) + i']! - p.row i' j ≤ pot[(k + 1) * (p.l.length + 1) + j]!) ?_ p.l.length ?_
  rotate_left
  · refine ⟨0, by omega, by omega, ?_⟩
    simp only [↓yG, Nat.reduceEqDiff, ↓reduceIte, Int.natCast_add, Int.cast_ofNat_Int, Int.natCast_zero, true_and, and_true, Option.some.injEq, Value.int.injEq, f3, f6, f9, f10, f76, f77]
    exact ⟨hS8, fun i' j h => absurd h (Nat.not_lt_zero _)⟩
  clear hS8 f3 f6 f9 f10 f76 f77
  rintro q fr3 H9 ⟨i, rfl, hi1, f3, f6, f9, f10, f12, f76, f77, f80, f81, hS9, hsi⟩ J2 hJ2
  by_cases hi2 : i < p.l.length
  case neg =>
    obtain rfl : i = p.l.length := by omega
    repeat' (first | (exfalso; omega) | refine zA ?_ | refine zB ?_ | refine zC ?_ | refine zD ?_ | refine zE ?_ | refine zF ?_ | refine zG ?_ | refine zH ?_ | refine zI ?_ | refine zJ ?_ | refine zK rfl ?_ | refine zL ?_ | refine zM ?_ | refine zN ?_ | refine zO ?_ | refine zP rfl ?_ | refine zQ ?_ | ((first | refine zR ?_ | refine zS ?_ | refine zT ?_ | skip); intro K k; simp (disch := (first | (simp only [yD2, beq_self_eq_true, Nat.reduceLT, Nat.reduceAdd]; done) | ((fail_if_success (apply Bool.eq_iff_iff.2)); first | omega | (simp only [yD2, beq_self_eq_true, Nat.reduceLT, Nat.reduceAdd] <;> omega)) | fail)) only [↓yS, yT, ↓reduceIte, Nat.reduceEqDiff, Nat.reduceAdd, Nat.reduceMul, reduceCtorEq, Int.reduceToNat, g26, f3, f6, f9, f10, f12, f76, f77, f80, f81]; refine yC (k _ _ ?_); clear k K) | ((first | refine zU ?_ | refine zV ?_ | refine zW ?_); intro A B C D a b c d; simp only [↓yG, Nat.reduceEqDiff, ↓reduceIte, g26, f3, f6, f9, f10, f12, f76, f77, f80, f81]; (first | refine zX (a ?_) | refine zY (b ?_) | refine zZ (fun hc => c ?_) (fun hc => d ?_)) <;> clear a b c d A B C D <;> try simp only [yL] at hc) | (refine yA ?_; intro A a; simp only [↓yG, Nat.reduceEqDiff, ↓reduceIte, g26, f3, f6, f9, f10, f12, f76, f77, f80, f81]; refine yB (a ?_); clear a A) | (refine yD ?_; simp only [gresults, ↓yG, Nat.reduceEqDiff, ↓reduceIte, Option.bind_some, gld_1, gld_n, g26, f3, f6, f9, f10, f12, f76, f77, f80, f81]; refine ⟨_, rfl, ?_⟩; simp only [gone]))
    refine hJ _ _ ⟨R - (k + 1), by omega, k + 1, rfl, by omega, ?_⟩
    simp only [↓yG, Nat.reduceEqDiff, ↓reduceIte, Int.natCast_add, Int.cast_ofNat_Int, Int.natCast_zero, true_and, and_true, Option.some.injEq, Value.int.injEq, f3, f6, f9, f10, f76]
    refine ⟨hS9, fun k' i j h => ?_⟩
    rcases Nat.lt_or_eq_of_le (Nat.le_of_lt_succ h) with h | rfl
    · exact hst k' i j h
    · intro hok
      exact hsi i j (by have := hok.1; have := hok.2.1; omega) hok
  have hmk := hmI k
  have hmk1 := hmI1 k
  have hh := hpot k i (by omega) (by omega)
  have hel := hat _ hS9 k i (by omega) (by omega)
  have hbg := hbig k i (by omega) (by omega)
  have hlt := hix k i (by omega) (by omega)
  have hxi : ((k * (p.l.length + 1) : Nat) : Int) + (i : Int) = ((k * (p.l.length + 1) + i : Nat) : Int) := by simp
  have hbk : 0 ≤ (k : Int) * ((p.l.length : Int) + 1) ∧ (k : Int) * ((p.l.length : Int) + 1) ≤ 100000 := by rw [hmk]; omega
  generalize hxx : k * (p.l.length + 1) + i = x at *
  repeat' (first | (exfalso; omega) | refine zA ?_ | refine zB ?_ | refine zC ?_ | refine zD ?_ | refine zE ?_ | refine zF ?_ | refine zG ?_ | refine zH ?_ | refine zI ?_ | refine zJ ?_ | refine zK rfl ?_ | refine zL ?_ | refine zM ?_ | refine zN ?_ | refine zO ?_ | refine zP rfl ?_ | refine zQ ?_ | ((first | refine zR ?_ | refine zS ?_ | refine zT ?_ | skip); intro K k; simp (disch := (first | (simp only [yD2, beq_self_eq_true, Nat.reduceLT, Nat.reduceAdd]; done) | ((fail_if_success (apply Bool.eq_iff_iff.2)); first | omega | (simp only [yD2, beq_self_eq_true, Nat.reduceLT, Nat.reduceAdd] <;> omega)) | fail)) only [↓yS, yT, ↓reduceIte, Nat.reduceEqDiff, Nat.reduceAdd, Nat.reduceMul, reduceCtorEq, Int.reduceToNat, g26, f3, f6, f9, f10, f12, f76, f77, f80, f81, hmk, hxi, hslV.ia, hel]; refine yC (k _ _ ?_); clear k K) | ((first | refine zU ?_ | refine zV ?_ | refine zW ?_); intro A B C D a b c d; simp only [↓yG, Nat.reduceEqDiff, ↓reduceIte, g26, f3, f6, f9, f10, f12, f76, f77, f80, f81, hmk, hxi, hslV.ia, hel]; (first | refine zX (a ?_) | refine zY (b ?_) | refine zZ (fun hc => c ?_) (fun hc => d ?_)) <;> clear a b c d A B C D <;> try simp only [yL] at hc) | (refine yA ?_; intro A a; simp only [↓yG, Nat.reduceEqDiff, ↓reduceIte, g26, f3, f6, f9, f10, f12, f76, f77, f80, f81, hmk, hxi, hslV.ia, hel]; refine yB (a ?_); clear a A) | (refine yD ?_; simp only [gresults, ↓yG, Nat.reduceEqDiff, ↓reduceIte, Option.bind_some, gld_1, gld_n, g26, f3, f6, f9, f10, f12, f76, f77, f80, f81, hmk, hxi, hslV.ia, hel]; refine ⟨_, rfl, ?_⟩; simp only [gone]))
  generalize hhv : pot[x]! = here at *
  refine GW_loop (fun q fr HA => ∃ (j : Nat), q = p.l.length + 1 - j ∧ i < j ∧ j ≤ p.l.length + 1 ∧ fr.get 3 = some (.pointer (some ⟨H.len + 1, 0, none⟩)) ∧ fr.get 6 = some (sv) ∧ fr.get 9 = some (.int .i64 p.l.length) ∧ fr.get 10 = some (pv) ∧ fr.get 12 = some (.int .i64 k) ∧ fr.get 13 = some (.int .i64 i) ∧ fr.get 14 = some (.int .i64 here) ∧ fr.get 15 = some (.int .i64 j) ∧ fr.get 76 = some (.int .i64 R) ∧ fr.get 77 = some (.int .i64 k) ∧ fr.get 80 = some (.int .i64 p.l.length) ∧ fr.get 81 = some (.int .i64 i) ∧ Same H7 HA ∧ ∀ j', j' < j → p.D.ok i j' → pot[(k + 1) * (p.l.length + 1) + j']! ≠ -1 → here ≠ -1 ∧ here - p.row i j' ≤ pot[(k + 1) * (p.l.length + 1) + j']!) ?_ (p.l.length - i) ?_
  rotate_left
  · refine ⟨i + 1, by omega, by omega, by omega, ?_⟩
    simp only [↓yG, Nat.reduceEqDiff, ↓reduceIte, Int.natCast_add, Int.cast_ofNat_Int, Int.natCast_zero, true_and, and_true, Option.some.injEq, Value.int.injEq, f3, f6, f9, f10, f12, f76, f77, f80, f81]
    exact ⟨hS9, fun j' h hok => by have := hok.1; omega⟩
  clear hS9 f3 f6 f9 f10 f12 f76 f77 f80 f81 hel
  rintro q fr4 HA ⟨j, rfl, hij, hj1, f3, f6, f9, f10, f12, f13, f14, f15, f76, f77, f80, f81, hSA, hsj⟩ J3 hJ3
  have hnext : (∀ j', j ≤ j' → ¬ p.D.ok i j') → ∀ i' j, i' < i + 1 → p.D.ok i' j → pot[(k + 1) * (p.l.length + 1) + j]! ≠ -1 → pot[k * (p.l.length + 1) + i']! ≠ -1 ∧ pot[k * (p.l.length + 1) + i']! - p.row i' j ≤ pot[(k + 1) * (p.l.length + 1) + j]! := fun hn i' j' h hok => by
    rcases Nat.lt_or_eq_of_le (Nat.le_of_lt_succ h) with h | rfl
    · exact hsi i' j' h hok
    · rw [hxx, hhv]
      rcases Nat.lt_or_ge j' j with h2 | h2
      · exact hsj j' h2 hok
      · exact absurd hok (hn j' h2)
  by_cases hj2 : j ≤ p.l.length
  case neg =>
    repeat' (first | (exfalso; omega) | refine zA ?_ | refine zB ?_ | refine zC ?_ | refine zD ?_ | refine zE ?_ | refine zF ?_ | refine zG ?_ | refine zH ?_ | refine zI ?_ | refine zJ ?_ | refine zK rfl ?_ | refine zL ?_ | refine zM ?_ | refine zN ?_ | refine zO ?_ | refine zP rfl ?_ | refine zQ ?_ | ((first | refine zR ?_ | refine zS ?_ | refine zT ?_ | skip); intro K k; simp (disch := (first | (simp only [yD2, beq_self_eq_true, Nat.reduceLT, Nat.reduceAdd]; done) | ((fail_if_success (apply Bool.eq_iff_iff.2)); first | omega | (simp only [yD2, beq_self_eq_true, Nat.reduceLT, Nat.reduceAdd] <;> omega)) | fail)) only [↓yS, yT, ↓reduceIte, Nat.reduceEqDiff, Nat.reduceAdd, Nat.reduceMul, reduceCtorEq, Int.reduceToNat, g26, f3, f6, f9, f10, f12, f13, f14, f15, f76, f77, f80, f81]; refine yC (k _ _ ?_); clear k K) | ((first | refine zU ?_ | refine zV ?_ | refine zW ?_); intro A B C D a b c d; simp only [↓yG, Nat.reduceEqDiff, ↓reduceIte, g26, f3, f6, f9, f10, f12, f13, f14, f15, f76, f77, f80, f81]; (first | refine zX (a ?_) | refine zY (b ?_) | refine zZ (fun hc => c ?_) (fun hc => d ?_)) <;> clear a b c d A B C D <;> try simp only [yL] at hc) | (refine yA ?_; intro A a; simp only [↓yG, Nat.reduceEqDiff, ↓reduceIte, g26, f3, f6, f9, f10, f12, f13, f14, f15, f76, f77, f80, f81]; refine yB (a ?_); clear a A) | (refine yD ?_; simp only [gresults, ↓yG, Nat.reduceEqDiff, ↓reduceIte, Option.bind_some, gld_1, gld_n, g26, f3, f6, f9, f10, f12, f13, f14, f15, f76, f77, f80, f81]; refine ⟨_, rfl, ?_⟩; simp only [gone]))
    refine hJ2 _ _ ⟨p.l.length - (i + 1), by omega, i + 1, rfl, by omega, ?_⟩
    simp only [↓yG, Nat.reduceEqDiff, ↓reduceIte, Int.natCast_add, Int.cast_ofNat_Int, Int.natCast_zero, true_and, and_true, Option.some.injEq, Value.int.injEq, f3, f6, f9, f10, f12, f76, f77, f80]
    exact ⟨hSA, hnext fun j' h1 hok => by have := hok.2.1; rw [hD] at this; omega⟩
  have hSHA := hSH4.trans hSA
  have hkA := hk.later hw hSHA
  have hshA := hsh4.later hSA
  repeat' (first | (exfalso; omega) | refine zA ?_ | refine zB ?_ | refine zC ?_ | refine zD ?_ | refine zE ?_ | refine zF ?_ | refine zG ?_ | refine zH ?_ | refine zI ?_ | refine zJ ?_ | refine zK rfl ?_ | refine zL ?_ | refine zM ?_ | refine zN ?_ | refine zO ?_ | refine zP rfl ?_ | refine zQ ?_ | ((first | refine zR ?_ | refine zS ?_ | refine zT ?_ | skip); intro K k; simp (disch := (first | (simp only [yD2, beq_self_eq_true, Nat.reduceLT, Nat.reduceAdd]; done) | ((fail_if_success (apply Bool.eq_iff_iff.2)); first | omega | (simp only [yD2, beq_self_eq_true, Nat.reduceLT, Nat.reduceAdd] <;> omega)) | fail)) only [↓yS, yT, ↓reduceIte, Nat.reduceEqDiff, Nat.reduceAdd, Nat.reduceMul, reduceCtorEq, Int.reduceToNat, g26, f3, f6, f9, f10, f12, f13, f14, f15, f76, f77, f80, f81]; refine yC (k _ _ ?_); clear k K) | ((first | refine zU ?_ | refine zV ?_ | refine zW ?_); intro A B C D a b c d; simp only [↓yG, Nat.reduceEqDiff, ↓reduceIte, g26, f3, f6, f9, f10, f12, f13, f14, f15, f76, f77, f80, f81]; (first | refine zX (a ?_) | refine zY (b ?_) | refine zZ (fun hc => c ?_) (fun hc => d ?_)) <;> clear a b c d A B C D <;> try simp only [yL] at hc) | (refine yA ?_; intro A a; simp only [↓yG, Nat.reduceEqDiff, ↓reduceIte, g26, f3, f6, f9, f10, f12, f13, f14, f15, f76, f77, f80, f81]; refine yB (a ?_); clear a A) | (refine yD ?_; simp only [gresults, ↓yG, Nat.reduceEqDiff, ↓reduceIte, Option.bind_some, gld_1, gld_n, g26, f3, f6, f9, f10, f12, f13, f14, f15, f76, f77, f80, f81]; refine ⟨_, rfl, ?_⟩; simp only [gone]))
  intro K' hK'; refine G1_call (by simp only [gtarget, ↓GArg.ev, ↓evs, ↓Tr.get_set, Nat.reduceEqDiff, if_true, if_false, ↓reduceIte, Option.map_some, f3, f6, f9, f10, f12, f13, f14, f15, f76, f77, f80, f81]; rfl) (fits_ok (i := i) (j := j) hshA hkA (by omega) (by omega)) fun r7 HB hq => hK' _ _ ?_
  obtain ⟨rfl, rfl⟩ := hq
  cases hfit : p.fit i j with
  | false =>
    repeat' (first | (exfalso; omega) | refine zA ?_ | refine zB ?_ | refine zC ?_ | refine zD ?_ | refine zE ?_ | refine zF ?_ | refine zG ?_ | refine zH ?_ | refine zI ?_ | refine zJ ?_ | refine zK rfl ?_ | refine zL ?_ | refine zM ?_ | refine zN ?_ | refine zO ?_ | refine zP rfl ?_ | refine zQ ?_ | ((first | refine zR ?_ | refine zS ?_ | refine zT ?_ | skip); intro K k; simp (disch := (first | (simp only [yD2, beq_self_eq_true, Nat.reduceLT, Nat.reduceAdd]; done) | ((fail_if_success (apply Bool.eq_iff_iff.2)); first | omega | (simp only [yD2, beq_self_eq_true, Nat.reduceLT, Nat.reduceAdd] <;> omega)) | fail)) only [↓yS, yT, ↓reduceIte, Nat.reduceEqDiff, Nat.reduceAdd, Nat.reduceMul, reduceCtorEq, Int.reduceToNat, g26, f3, f6, f9, f10, f12, f13, f14, f15, f76, f77, f80, f81]; refine yC (k _ _ ?_); clear k K) | ((first | refine zU ?_ | refine zV ?_ | refine zW ?_); intro A B C D a b c d; simp only [↓yG, Nat.reduceEqDiff, ↓reduceIte, g26, f3, f6, f9, f10, f12, f13, f14, f15, f76, f77, f80, f81]; (first | refine zX (a ?_) | refine zY (b ?_) | refine zZ (fun hc => c ?_) (fun hc => d ?_)) <;> clear a b c d A B C D <;> try simp only [yL] at hc) | (refine yA ?_; intro A a; simp only [↓yG, Nat.reduceEqDiff, ↓reduceIte, g26, f3, f6, f9, f10, f12, f13, f14, f15, f76, f77, f80, f81]; refine yB (a ?_); clear a A) | (refine yD ?_; simp only [gresults, ↓yG, Nat.reduceEqDiff, ↓reduceIte, Option.bind_some, gld_1, gld_n, g26, f3, f6, f9, f10, f12, f13, f14, f15, f76, f77, f80, f81]; refine ⟨_, rfl, ?_⟩; simp only [gone]))
    refine hJ2 _ _ ⟨p.l.length - (i + 1), by omega, i + 1, rfl, by omega, ?_⟩
    simp only [↓yG, Nat.reduceEqDiff, ↓reduceIte, Int.natCast_add, Int.cast_ofNat_Int, Int.natCast_zero, true_and, and_true, Option.some.injEq, Value.int.injEq, f3, f6, f9, f10, f12, f76, f77, f80]
    refine ⟨hSA, hnext fun j' h1 hok => ?_⟩
    have := hG.down (i := i) (j := j) (j' - j) hij (by rw [show j + (j' - j) = j' by omega]; exact hok.2.2)
    rw [show p.D.fit i j = p.fit i j from rfl, hfit] at this; cases this
  | true =>
    have hok : p.D.ok i j := ⟨hij, hj2, hfit⟩
    have hc1 : 0 ≤ p.row i j := hG.pos _ _ hok
    have hc2 : p.row i j ≤ 40000000 := hG.ub _ _ hok
    have hh2 := hpot (k + 1) j (by omega) (by omega)
    have hel := hat _ hSA (k + 1) j (by omega) (by omega)
    have hbg2 := hbig (k + 1) j (by omega) (by omega)
    have hlt2 := hix (k + 1) j (by omega) (by omega)
    have hyi : (((k + 1) * (p.l.length + 1) : Nat) : Int) + (j : Int) = (((k + 1) * (p.l.length + 1) + j : Nat) : Int) := by simp
    have hbk2 : 0 ≤ ((k : Int) + 1) * ((p.l.length : Int) + 1) ∧ ((k : Int) + 1) * ((p.l.length : Int) + 1) ≤ 100000 := by rw [hmk1]; omega
    have hno2 : ¬ (pot[(k + 1) * (p.l.length + 1) + j]! ≠ -1 → here ≠ -1 ∧ here - p.row i j ≤ pot[(k + 1) * (p.l.length + 1) + j]!) → ¬ AccOk p E c pot := fun h ha => h fun h1 => by
      have := ha.step k i j (by rw [hRt]; exact hk2) hok h1
      rw [hxx, hhv] at this; exact this
    have hgo : (pot[(k + 1) * (p.l.length + 1) + j]! ≠ -1 → here ≠ -1 ∧ here - p.row i j ≤ pot[(k + 1) * (p.l.length + 1) + j]!) → ∀ j', j' < j + 1 → p.D.ok i j' → pot[(k + 1) * (p.l.length + 1) + j']! ≠ -1 → here ≠ -1 ∧ here - p.row i j' ≤ pot[(k + 1) * (p.l.length + 1) + j']! := fun h j' h1 => by
      rcases Nat.lt_or_eq_of_le (Nat.le_of_lt_succ h1) with h2 | rfl
      · exact hsj j' h2
      · exact fun _ => h
    generalize hyy : (k + 1) * (p.l.length + 1) + j = y at *
    generalize hrv : pot[y]! = rest at *
    by_cases hr1 : rest = -1
    · have hr1' := eq_true hr1
      repeat' (first | (exfalso; omega) | refine zA ?_ | refine zB ?_ | refine zC ?_ | refine zD ?_ | refine zE ?_ | refine zF ?_ | refine zG ?_ | refine zH ?_ | refine zI ?_ | refine zJ ?_ | refine zK rfl ?_ | refine zL ?_ | refine zM ?_ | refine zN ?_ | refine zO ?_ | refine zP rfl ?_ | refine zQ ?_ | ((first | refine zR ?_ | refine zS ?_ | refine zT ?_ | skip); intro K k; simp (disch := (first | (simp only [yD2, beq_self_eq_true, Nat.reduceLT, Nat.reduceAdd]; done) | ((fail_if_success (apply Bool.eq_iff_iff.2)); first | omega | (simp only [yD2, beq_self_eq_true, Nat.reduceLT, Nat.reduceAdd] <;> omega)) | fail)) only [↓yS, yT, ↓reduceIte, Nat.reduceEqDiff, Nat.reduceAdd, Nat.reduceMul, reduceCtorEq, Int.reduceToNat, g26, f3, f6, f9, f10, f12, f13, f14, f15, f76, f77, f80, f81, hmk1, hyi, hslV.ia, hel, hr1']; refine yC (k _ _ ?_); clear k K) | ((first | refine zU ?_ | refine zV ?_ | refine zW ?_); intro A B C D a b c d; simp only [↓yG, Nat.reduceEqDiff, ↓reduceIte, g26, f3, f6, f9, f10, f12, f13, f14, f15, f76, f77, f80, f81, hmk1, hyi, hslV.ia, hel, hr1']; (first | refine zX (a ?_) | refine zY (b ?_) | refine zZ (fun hc => c ?_) (fun hc => d ?_)) <;> clear a b c d A B C D <;> try simp only [yL] at hc) | (refine yA ?_; intro A a; simp only [↓yG, Nat.reduceEqDiff, ↓reduceIte, g26, f3, f6, f9, f10, f12, f13, f14, f15, f76, f77, f80, f81, hmk1, hyi, hslV.ia, hel, hr1']; refine yB (a ?_); clear a A) | (refine yD ?_; simp only [gresults, ↓yG, Nat.reduceEqDiff, ↓reduceIte, Option.bind_some, gld_1, gld_n, g26, f3, f6, f9, f10, f12, f13, f14, f15, f76, f77, f80, f81, hmk1, hyi, hslV.ia, hel, hr1']; refine ⟨_, rfl, ?_⟩; simp only [gone]))
      refine hJ3 _ _ ⟨p.l.length + 1 - (j + 1), by omega, j + 1, rfl, by omega, by omega, ?_⟩
      simp only [↓yG, Nat.reduceEqDiff, ↓reduceIte, Int.natCast_add, Int.cast_ofNat_Int, Int.natCast_zero, true_and, and_true, Option.some.injEq, Value.int.injEq, f3, f6, f9, f10, f12, f13, f14, f76, f77, f80, f81]
      exact ⟨hSA, hgo fun h => absurd hr1 h⟩
    have hr1' := eq_false hr1
    by_cases hh1 : here = -1
    · have hh1' := eq_true hh1
      repeat' (first | (exfalso; omega) | refine zA ?_ | refine zB ?_ | refine zC ?_ | refine zD ?_ | refine zE ?_ | refine zF ?_ | refine zG ?_ | refine zH ?_ | refine zI ?_ | refine zJ ?_ | refine zK rfl ?_ | refine zL ?_ | refine zM ?_ | refine zN ?_ | refine zO ?_ | refine zP rfl ?_ | refine zQ ?_ | ((first | refine zR ?_ | refine zS ?_ | refine zT ?_ | skip); intro K k; simp (disch := (first | (simp only [yD2, beq_self_eq_true, Nat.reduceLT, Nat.reduceAdd]; done) | ((fail_if_success (apply Bool.eq_iff_iff.2)); first | omega | (simp only [yD2, beq_self_eq_true, Nat.reduceLT, Nat.reduceAdd] <;> omega)) | fail)) only [↓yS, yT, ↓reduceIte, Nat.reduceEqDiff, Nat.reduceAdd, Nat.reduceMul, reduceCtorEq, Int.reduceToNat, g26, f3, f6, f9, f10, f12, f13, f14, f15, f76, f77, f80, f81, hmk1, hyi, hslV.ia, hel, hr1', hh1']; refine yC (k _ _ ?_); clear k K) | ((first | refine zU ?_ | refine zV ?_ | refine zW ?_); intro A B C D a b c d; simp only [↓yG, Nat.reduceEqDiff, ↓reduceIte, g26, f3, f6, f9, f10, f12, f13, f14, f15, f76, f77, f80, f81, hmk1, hyi, hslV.ia, hel, hr1', hh1']; (first | refine zX (a ?_) | refine zY (b ?_) | refine zZ (fun hc => c ?_) (fun hc => d ?_)) <;> clear a b c d A B C D <;> try simp only [yL] at hc) | (refine yA ?_; intro A a; simp only [↓yG, Nat.reduceEqDiff, ↓reduceIte, g26, f3, f6, f9, f10, f12, f13, f14, f15, f76, f77, f80, f81, hmk1, hyi, hslV.ia, hel, hr1', hh1']; refine yB (a ?_); clear a A) | (refine yD ?_; simp only [gresults, ↓yG, Nat.reduceEqDiff, ↓reduceIte, Option.bind_some, gld_1, gld_n, g26, f3, f6, f9, f10, f12, f13, f14, f15, f76, f77, f80, f81, hmk1, hyi, hslV.ia, hel, hr1', hh1']; refine ⟨_, rfl, ?_⟩; simp only [gone]))
      exact hno _ _ (by decide) (hno2 fun h => (h hr1).1 hh1) hSHA
    have hh1' := eq_false hh1
    repeat' (first | (exfalso; omega) | refine zA ?_ | refine zB ?_ | refine zC ?_ | refine zD ?_ | refine zE ?_ | refine zF ?_ | refine zG ?_ | refine zH ?_ | refine zI ?_ | refine zJ ?_ | refine zK rfl ?_ | refine zL ?_ | refine zM ?_ | refine zN ?_ | refine zO ?_ | refine zP rfl ?_ | refine zQ ?_ | ((first | refine zR ?_ | refine zS ?_ | refine zT ?_ | skip); intro K k; simp (disch := (first | (simp only [yD2, beq_self_eq_true, Nat.reduceLT, Nat.reduceAdd]; done) | ((fail_if_success (apply Bool.eq_iff_iff.2)); first | omega | (simp only [yD2, beq_self_eq_true, Nat.reduceLT, Nat.reduceAdd] <;> omega)) | fail)) only [↓yS, yT, ↓reduceIte, Nat.reduceEqDiff, Nat.reduceAdd, Nat.reduceMul, reduceCtorEq, Int.reduceToNat, g26, f3, f6, f9, f10, f12, f13, f14, f15, f76, f77, f80, f81, hmk1, hyi, hslV.ia, hel, hr1', hh1']; refine yC (k _ _ ?_); clear k K) | ((first | refine zU ?_ | refine zV ?_ | refine zW ?_); intro A B C D a b c d; simp only [↓yG, Nat.reduceEqDiff, ↓reduceIte, g26, f3, f6, f9, f10, f12, f13, f14, f15, f76, f77, f80, f81, hmk1, hyi, hslV.ia, hel, hr1', hh1']; (first | refine zX (a ?_) | refine zY (b ?_) | refine zZ (fun hc => c ?_) (fun hc => d ?_)) <;> clear a b c d A B C D <;> try simp only [yL] at hc) | (refine yA ?_; intro A a; simp only [↓yG, Nat.reduceEqDiff, ↓reduceIte, g26, f3, f6, f9, f10, f12, f13, f14, f15, f76, f77, f80, f81, hmk1, hyi, hslV.ia, hel, hr1', hh1']; refine yB (a ?_); clear a A) | (refine yD ?_; simp only [gresults, ↓yG, Nat.reduceEqDiff, ↓reduceIte, Option.bind_some, gld_1, gld_n, g26, f3, f6, f9, f10, f12, f13, f14, f15, f76, f77, f80, f81, hmk1, hyi, hslV.ia, hel, hr1', hh1']; refine ⟨_, rfl, ?_⟩; simp only [gone]))
    intro K' hK'; refine G1_call (by simp only [gtarget, ↓GArg.ev, ↓evs, ↓Tr.get_set, Nat.reduceEqDiff, if_true, if_false, ↓reduceIte, Option.map_some, f3, f6, f9, f10, f12, f13, f14, f15, f76, f77, f80, f81]; rfl) (cost_ok (i := i) (j := j) hSA.wf hshA hkA (by omega) (by omega) (by omega)) fun r8 HC hq => hK' _ _ ?_
    obtain ⟨rfl, hSC⟩ := hq
    have hSAC := hSA.trans hSC
    by_cases hlt3 : rest < here - p.row i j
    · repeat' (first | (exfalso; omega) | refine zA ?_ | refine zB ?_ | refine zC ?_ | refine zD ?_ | refine zE ?_ | refine zF ?_ | refine zG ?_ | refine zH ?_ | refine zI ?_ | refine zJ ?_ | refine zK rfl ?_ | refine zL ?_ | refine zM ?_ | refine zN ?_ | refine zO ?_ | refine zP rfl ?_ | refine zQ ?_ | ((first | refine zR ?_ | refine zS ?_ | refine zT ?_ | skip); intro K k; simp (disch := (first | (simp only [yD2, beq_self_eq_true, Nat.reduceLT, Nat.reduceAdd]; done) | ((fail_if_success (apply Bool.eq_iff_iff.2)); first | omega | (simp only [yD2, beq_self_eq_true, Nat.reduceLT, Nat.reduceAdd] <;> omega)) | fail)) only [↓yS, yT, ↓reduceIte, Nat.reduceEqDiff, Nat.reduceAdd, Nat.reduceMul, reduceCtorEq, Int.reduceToNat, g26, f3, f6, f9, f10, f12, f13, f14, f15, f76, f77, f80, f81]; refine yC (k _ _ ?_); clear k K) | ((first | refine zU ?_ | refine zV ?_ | refine zW ?_); intro A B C D a b c d; simp only [↓yG, Nat.reduceEqDiff, ↓reduceIte, g26, f3, f6, f9, f10, f12, f13, f14, f15, f76, f77, f80, f81]; (first | refine zX (a ?_) | refine zY (b ?_) | refine zZ (fun hc => c ?_) (fun hc => d ?_)) <;> clear a b c d A B C D <;> try simp only [yL] at hc) | (refine yA ?_; intro A a; simp only [↓yG, Nat.reduceEqDiff, ↓reduceIte, g26, f3, f6, f9, f10, f12, f13, f14, f15, f76, f77, f80, f81]; refine yB (a ?_); clear a A) | (refine yD ?_; simp only [gresults, ↓yG, Nat.reduceEqDiff, ↓reduceIte, Option.bind_some, gld_1, gld_n, g26, f3, f6, f9, f10, f12, f13, f14, f15, f76, f77, f80, f81]; refine ⟨_, rfl, ?_⟩; simp only [gone]))
      exact hno _ _ (by decide) (hno2 fun h => by have := (h hr1).2; omega) (hSHA.trans hSC)
    · repeat' (first | (exfalso; omega) | refine zA ?_ | refine zB ?_ | refine zC ?_ | refine zD ?_ | refine zE ?_ | refine zF ?_ | refine zG ?_ | refine zH ?_ | refine zI ?_ | refine zJ ?_ | refine zK rfl ?_ | refine zL ?_ | refine zM ?_ | refine zN ?_ | refine zO ?_ | refine zP rfl ?_ | refine zQ ?_ | ((first | refine zR ?_ | refine zS ?_ | refine zT ?_ | skip); intro K k; simp (disch := (first | (simp only [yD2, beq_self_eq_true, Nat.reduceLT, Nat.reduceAdd]; done) | ((fail_if_success (apply Bool.eq_iff_iff.2)); first | omega | (simp only [yD2, beq_self_eq_true, Nat.reduceLT, Nat.reduceAdd] <;> omega)) | fail)) only [↓yS, yT, ↓reduceIte, Nat.reduceEqDiff, Nat.reduceAdd, Nat.reduceMul, reduceCtorEq, Int.reduceToNat, g26, f3, f6, f9, f10, f12, f13, f14, f15, f76, f77, f80, f81]; refine yC (k _ _ ?_); clear k K) | ((first | refine zU ?_ | refine zV ?_ | refine zW ?_); intro A B C D a b c d; simp only [↓yG, Nat.reduceEqDiff, ↓reduceIte, g26, f3, f6, f9, f10, f12, f13, f14, f15, f76, f77, f80, f81]; (first | refine zX (a ?_) | refine zY (b ?_) | refine zZ (fun hc => c ?_) (fun hc => d ?_)) <;> clear a b c d A B C D <;> try simp only [yL] at hc) | (refine yA ?_; intro A a; simp only [↓yG, Nat.reduceEqDiff, ↓reduceIte, g26, f3, f6, f9, f10, f12, f13, f14, f15, f76, f77, f80, f81]; refine yB (a ?_); clear a A) | (refine yD ?_; simp only [gresults, ↓yG, Nat.reduceEqDiff, ↓reduceIte, Option.bind_some, gld_1, gld_n, g26, f3, f6, f9, f10, f12, f13, f14, f15, f76, f77, f80, f81]; refine ⟨_, rfl, ?_⟩; simp only [gone]))
      refine hJ3 _ _ ⟨p.l.length + 1 - (j + 1), by omega, j + 1, rfl, by omega, by omega, ?_⟩
      simp only [↓yG, Nat.reduceEqDiff, ↓reduceIte, Int.natCast_add, Int.cast_ofNat_Int, Int.natCast_zero, true_and, and_true, Option.some.injEq, Value.int.injEq, f3, f6, f9, f10, f12, f13, f14, f76, f77, f80, f81]
      exact ⟨hSAC, hgo fun h => ⟨hh1, by omega⟩⟩
end Go.Gh
