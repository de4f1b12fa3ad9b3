/-
  style's reference, walked: Parse.
-/
import Derived.Test.YtgbibkkcnkaelaaDoorSyT9
namespace Go.Gh
set_option linter.unusedSimpArgs false
set_option linter.unusedVariables false
open Go.RowKit
set_option maxRecDepth 4000

theorem until_suf {e : UInt8 → Bool} {l : List UInt8} {i : Nat} (hi : i ≤ l.length) : l.drop (l.length - (untP e (l.drop i)).2.length) = (untP e (l.drop i)).2 ∧ (untP e (l.drop i)).1.length + (untP e (l.drop i)).2.length ≤ l.length - i := by
  have h1 := untP_len (e := e) _ (l.drop i) (Nat.le_refl _)
  have h2 := untP_suf (e := e) _ (l.drop i) (Nat.le_refl _)
  rw [List.length_drop] at h1 h2
  refine ⟨?_, h1⟩
  rw [List.drop_drop] at h2
  rw [h2, List.length_drop]
  congr 1
  rw [h2, List.length_drop] at h1
  omega
theorem untP_lt {e : UInt8 → Bool} {b : UInt8} {r : List UInt8} (h : e b = false) : (untP e (b :: r)).2.length < (b :: r).length := by
  cases r with
  | nil => simp [untP, h]
  | cons c r =>
    have h1 := untP_len (e := e) _ r (Nat.le_refl _)
    have h2 := untP_len (e := e) _ (c :: r) (Nat.le_refl _)
    simp only [List.length_cons] at h2 ⊢
    rw [untP]
    split
    · simp only; omega
    · rw [h]
      simp only [Bool.false_eq_true, if_false]; omega
theorem hasP_drop {p : UInt8} {l : List UInt8} {j : Nat} : hasP p (l.drop j) = decide (j < l.length ∧ l[j]! = p) := by
  by_cases hj : j < l.length
  · rw [untP_drop (e := eB) hj]
    rw [Bool.eq_iff_iff]
    simp [hasP, hj]
  · rw [List.drop_of_length_le (by omega)]
    simp [hasP, hj]
theorem finR_le {x y : SR} {l z : List UInt8} (h : finR x l = some (y, z)) : z = (untP eB l).2 ∧ y = {x with t := (untP eB l).1} ∧ hasP 125 z = false := by
  unfold finR at h
  split at h
  · cases h
  · rename_i h1
    simp only [Option.some.injEq, Prod.mk.injEq] at h
    refine ⟨h.2.symm, h.1.symm, ?_⟩
    rw [← h.2]
    simpa using h1
theorem tagR_lt {l : List UInt8} {a : Sy} {y r : List UInt8} (h : tagR l = some (a, y, r)) : r.length < l.length := by
  have h1 := untP_len (e := eC) _ l (Nat.le_refl _)
  unfold tagR at h
  simp only at h
  split at h
  · cases h
  · rename_i b r' h2
    simp only [Option.some.injEq, Prod.mk.injEq] at h
    obtain ⟨_, _, rfl⟩ := h
    split at h2
    · have h3 := untP_len (e := eD) _ (untP eC l).2.tail (Nat.le_refl _)
      rw [h2, List.length_tail] at h3
      simp only [List.length_cons] at h3
      omega
    · simp only at h2
      rw [h2] at h1
      simp only [List.length_cons] at h1
      omega
theorem stepR_lt {l z : List UInt8} {x : SR} (hl : l ≠ []) (h : stepR l = some (x, z)) : z.length < l.length := by
  unfold stepR at h
  split at h
  · cases ht : tagR l.tail with
    | none => rw [ht] at h; cases h
    | some w =>
      obtain ⟨a, y, r⟩ := w
      rw [ht] at h
      have h1 := tagR_lt ht
      have h2 := finR_le h
      have h3 := untP_len (e := eB) _ r (Nat.le_refl _)
      rw [h2.1]
      rw [List.length_tail] at h1
      simp only
      omega
  · rename_i h0
    have h2 := finR_le h
    cases l with
    | nil => exact absurd rfl hl
    | cons b r =>
      cases hb : eB b with
      | false => rw [h2.1]; exact untP_lt hb
      | true =>
        have hb92 : b ≠ 92 := fun e => by rw [e] at hb; cases hb
        have h3 := untP_stop hb hb92 r
        have h4 := h2.2.2
        rw [h2.1, h3] at h4
        simp only [hasP, beq_iff_eq, Bool.not_eq_true, beq_eq_false_iff_ne] at h0 h4
        simp [eB, h0, h4] at hb
theorem parL_c (s : List UInt8) : 0 ≤ (parL s).c := by
  have : ∀ x ∈ all28, 0 ≤ x.c := by decide
  unfold parL
  split
  · rename_i x h
    exact this x (List.mem_of_find?_eq_some h)
  · simp
theorem eC_mem (b : UInt8) : eC b = true ↔ b ∈ [58, 125] := by simp [eC]
theorem eD_mem (b : UInt8) : eD b = true ↔ b ∈ [125] := by simp [eD]
theorem eB_mem (b : UInt8) : eB b = true ↔ b ∈ [123, 125] := by simp [eB]
theorem gsetn_st (st st' : Sy) (y t : List UInt8) : gsetn (runC ⟨t, st', y⟩) 1 3 (syV st) = some (runC ⟨t, st, y⟩) := by
  simp [gsetn, runC, syV, flatV]
/-- one run of the reference's, from the place where its text begins -/
theorem stepR_tag {s : List UInt8} {j : Nat} (hj : j < s.length) (h : s[j]! = 123) : stepR (s.drop j) = match tagR (s.drop (j + 1)) with
    | none => none
    | some z => finR ⟨[], z.1, z.2.1⟩ z.2.2 := by
  have h1 : hasP 123 (s.drop j) = true := by rw [hasP_drop, decide_eq_true_eq]; exact ⟨hj, h⟩
  unfold stepR
  rw [if_pos h1, List.tail_drop]; rfl
theorem stepR_no {s : List UInt8} {j : Nat} (hj : j < s.length) (h : s[j]! ≠ 123) : stepR (s.drop j) = finR ⟨[], ⟨0, false, false⟩, []⟩ (s.drop j) := by
  have h1 : hasP 123 (s.drop j) = false := by rw [hasP_drop, decide_eq_false_iff_not]; exact fun e => h e.2
  unfold stepR
  rw [if_neg (by rw [h1]; decide)]
set_option maxHeartbeats 2000000 in
theorem rParse_ok {H : GHeap} (hw : H.wf) {s : List UInt8} (hs : s.length ≤ 134217728) :
    ∃ r H', gev G 25 [.string (strB s)] H = some (r, H') ∧ ∃ w, r = .tuple #[rowV w, .int .i64 (if (resF (loopR s.length [] s) s).isSome then 0 else 4)] ∧ OR H H' w ((resF (loopR s.length [] s) s).getD []) := by
  refine gev_GW (f := 25) rfl fun Post hPost => ?_
  have hP0 : ∀ w H', resF (loopR s.length [] s) s = none → OR H H' w [] → Post (.tuple #[rowV w, .int .i64 4]) H' := fun w H' e h => by
    refine hPost _ _ ⟨w, ?_, ?_⟩ <;> rw [e]
    · rfl
    · exact h
  have hP1 : ∀ w H' l, resF (loopR s.length [] s) s = some l → OR H H' w l → Post (.tuple #[rowV w, .int .i64 0]) H' := fun w H' l e h => by
    refine hPost _ _ ⟨w, ?_, ?_⟩ <;> rw [e]
    · rfl
    · exact h
  clear hPost
  generalize hR : loopR s.length [] s = R at *
  have hlim := hw.1
  have hzr : rowV (.slice none 0 0) = .agg #[.slice none 0 0] := rfl
  have hbadS : ∀ H1, Same H H1 → H1.mine H.len = some ([.slice none 0 0], 0) → ∃ H2, gst (some 1) H1 (.pointer (some ⟨H.len, 0, none⟩)) (.agg #[.slice none 0 0]) = some H2 ∧ OR H H2 (.slice none 0 0) [] ∧ H2.rdn H.len 0 1 = some (.agg #[.slice none 0 0]) := fun H1 h1 h2 => by
    have h3 : OR H H1 (.slice none 0 0) [] := OS.nil h1
    obtain ⟨b1, b2, b3⟩ := OR.res h3 h2 rfl (Nat.le_refl _)
    rw [hzr] at b1 b3
    exact ⟨_, b1, b2, b3⟩
  simp only [frameOf, Nat.reduceAdd]
  repeat' (first | refine zA ?_ | refine zB ?_ | refine zC ?_ | refine zD ?_ | refine zE ?_ | refine zF ?_ | refine zG ?_ | refine zH ?_ | refine zI ?_ | refine zJ ?_ | refine zK rfl ?_ | refine zL ?_ | refine zM ?_ | refine zN ?_ | refine zO ?_ | refine zP rfl ?_ | refine zQ ?_ | ((first | refine zR ?_ | refine zS ?_ | refine zT ?_ | skip); intro K k; simp (disch := (first | (simp only [yD2, beq_self_eq_true, Nat.reduceLT, Nat.reduceAdd]; done) | ((fail_if_success (apply Bool.eq_iff_iff.2)); first | omega | (simp only [yD2, beq_self_eq_true, Nat.reduceLT, Nat.reduceAdd] <;> omega)) | fail)) only [↓yS, yT, ↓reduceIte, Nat.reduceEqDiff, Nat.reduceAdd, Nat.reduceMul, reduceCtorEq, Int.reduceToNat, g25]; refine yC (k _ _ ?_); clear k K) | ((first | refine zU ?_ | refine zV ?_ | refine zW ?_); intro A B C D a b c d; simp only [↓yG, Nat.reduceEqDiff, ↓reduceIte, g25]; (first | refine zX (a ?_) | refine zY (b ?_) | refine zZ (fun hc => c ?_) (fun hc => d ?_)) <;> clear a b c d A B C D <;> try simp only [yL] at hc) | (refine yA ?_; intro A a; simp only [↓yG, Nat.reduceEqDiff, ↓reduceIte, g25]; refine yB (a ?_); clear a A) | (refine yD ?_; simp only [gresults, ↓yG, Nat.reduceEqDiff, ↓reduceIte, Option.bind_some, gld_1, gld_n, g25]; refine ⟨_, rfl, ?_⟩; simp only [gone]))
  have hSb : Same H (H.add (some (.cells [.slice none 0 0] 0 true))) := (Same.refl hw).add _
  have n0 : (H.add (some (.cells [.slice none 0 0] 0 true))).mine H.len = some ([.slice none 0 0], 0) := mine_add_eq rfl hlim
  generalize H.add (some (.cells [.slice none 0 0] 0 true)) = Hb at *
  refine GW_loop (fun k fr H1 => ∃ (j : Nat) (w : Value) (out : List SR), s.length - j ≤ k ∧ j ≤ s.length ∧ fr.get 0 = some (.string (strB s)) ∧ fr.get 2 = some (.pointer (some ⟨H.len, 0, none⟩)) ∧ fr.get 4 = some (w) ∧ fr.get 5 = some (.int .i64 j) ∧ H1.mine H.len = some ([.slice none 0 0], 0) ∧ OR H H1 w out ∧ loopR k out (s.drop j) = R ∧ out.length ≤ j ∧ ∀ x ∈ out, goodX x) ?_ s.length ?_
  case refine_2 =>
    refine ⟨0, .slice none 0 0, [], by omega, by omega, ?_⟩
    simp only [↓yG, Nat.reduceEqDiff, ↓reduceIte, Int.natCast_add, Int.cast_ofNat_Int, Int.natCast_zero, true_and, and_true, Option.some.injEq, Value.int.injEq]
    exact ⟨n0, OS.nil hSb, hR, by simp, by simp⟩
  clear n0
  rintro k fr H1 ⟨j, w, out, hjk, hjs, f0, f2, f4, f5, m0, hO, hL, ho, hg⟩ J hJ
  have hS := hO.same
  have hw1 := hS.wf
  have hlim1 := hw1.1
  have hl0 := mine_lt hw1 m0
  by_cases hj : j < s.length
  rotate_left
  · obtain rfl : j = s.length := by omega
    have hL' : R = some out := by rw [← hL, List.drop_length]; cases k <;> rfl
    have hb1 : fillL [.slice none 0 0] [(0, 1, w)] = some [w] := fillL_1 rfl hO.flat
    have hwr : Value.agg [w].toArray = rowV w := rfl
    have hS1a : Same H1 ((H1.add (some (.cells [.slice none 0 0] 0 true))).put H1.len (.cells [w] 0 true)) := (Same.refl hw1).new _ _
    have hst := gst_add hw1 (n := 1) (z := [.slice none 0 0]) (u := 0) (vs := #[w]) rfl rfl (by simpa using hO.flat)
    have hrd : ((H1.add (some (.cells [.slice none 0 0] 0 true))).put H1.len (.cells [w] 0 true)).rdn H1.len 0 1 = some (rowV w) := rdn_put_all rfl
    have hrl : H1.len < ((H1.add (some (.cells [.slice none 0 0] 0 true))).put H1.len (.cells [w] 0 true)).len := by rw [len_put, len_add]; omega
    repeat' (first | (exfalso; omega) | refine zA ?_ | refine zB ?_ | refine zC ?_ | refine zD ?_ | refine zE ?_ | refine zF ?_ | refine zG ?_ | refine zH ?_ | refine zI ?_ | refine zJ ?_ | refine zK rfl ?_ | refine zL ?_ | refine zM ?_ | refine zN ?_ | refine zO ?_ | refine zP rfl ?_ | refine zQ ?_ | ((first | refine zR ?_ | refine zS ?_ | refine zT ?_ | skip); intro K k; simp (disch := (first | (simp only [yD2, beq_self_eq_true, Nat.reduceLT, Nat.reduceAdd]; done) | ((fail_if_success (apply Bool.eq_iff_iff.2)); first | omega | (simp only [yD2, beq_self_eq_true, Nat.reduceLT, Nat.reduceAdd] <;> omega)) | fail)) only [↓yS, yT, ↓reduceIte, Nat.reduceEqDiff, Nat.reduceAdd, Nat.reduceMul, reduceCtorEq, Int.reduceToNat, g25, f0, f2, f4, f5, strB_size, hb1, hst, hrd]; refine yC (k _ _ ?_); clear k K) | ((first | refine zU ?_ | refine zV ?_ | refine zW ?_); intro A B C D a b c d; simp only [↓yG, Nat.reduceEqDiff, ↓reduceIte, g25, f0, f2, f4, f5, strB_size, hb1, hst, hrd]; (first | refine zX (a ?_) | refine zY (b ?_) | refine zZ (fun hc => c ?_) (fun hc => d ?_)) <;> clear a b c d A B C D <;> try simp only [yL] at hc) | (refine yA ?_; intro A a; simp only [↓yG, Nat.reduceEqDiff, ↓reduceIte, g25, f0, f2, f4, f5, strB_size, hb1, hst, hrd]; refine yB (a ?_); clear a A) | (refine yD ?_; simp only [gresults, ↓yG, Nat.reduceEqDiff, ↓reduceIte, Option.bind_some, gld_1, gld_n, g25, f0, f2, f4, f5, strB_size, hb1, hst, hrd]; refine ⟨_, rfl, ?_⟩; simp only [gone]))
    generalize (H1.add (some (.cells [.slice none 0 0] 0 true))).put H1.len (.cells [w] 0 true) = H1a at *
    have hO1 := hO.later hS1a
    repeat' (first | (exfalso; omega) | refine zA ?_ | refine zB ?_ | refine zC ?_ | refine zD ?_ | refine zE ?_ | refine zF ?_ | refine zG ?_ | refine zH ?_ | refine zI ?_ | refine zJ ?_ | refine zK rfl ?_ | refine zL ?_ | refine zM ?_ | refine zN ?_ | refine zO ?_ | refine zP rfl ?_ | refine zQ ?_ | ((first | refine zR ?_ | refine zS ?_ | refine zT ?_ | skip); intro K k; simp (disch := (first | (simp only [yD2, beq_self_eq_true, Nat.reduceLT, Nat.reduceAdd]; done) | ((fail_if_success (apply Bool.eq_iff_iff.2)); first | omega | (simp only [yD2, beq_self_eq_true, Nat.reduceLT, Nat.reduceAdd] <;> omega)) | fail)) only [↓yS, yT, ↓reduceIte, Nat.reduceEqDiff, Nat.reduceAdd, Nat.reduceMul, reduceCtorEq, Int.reduceToNat, g25, f0, f2, f4, f5, strB_size, hb1, hst, hrd]; refine yC (k _ _ ?_); clear k K) | ((first | refine zU ?_ | refine zV ?_ | refine zW ?_); intro A B C D a b c d; simp only [↓yG, Nat.reduceEqDiff, ↓reduceIte, g25, f0, f2, f4, f5, strB_size, hb1, hst, hrd]; (first | refine zX (a ?_) | refine zY (b ?_) | refine zZ (fun hc => c ?_) (fun hc => d ?_)) <;> clear a b c d A B C D <;> try simp only [yL] at hc) | (refine yA ?_; intro A a; simp only [↓yG, Nat.reduceEqDiff, ↓reduceIte, g25, f0, f2, f4, f5, strB_size, hb1, hst, hrd]; refine yB (a ?_); clear a A) | (refine yD ?_; simp only [gresults, ↓yG, Nat.reduceEqDiff, ↓reduceIte, Option.bind_some, gld_1, gld_n, g25, f0, f2, f4, f5, strB_size, hb1, hst, hrd]; refine ⟨_, rfl, ?_⟩; simp only [gone]))
    refine Gw_s fun K' hK' => G1_call (by simp only [gtarget, ↓GArg.ev, ↓evs, ↓Tr.get_set, Nat.reduceEqDiff, if_true, if_false, ↓reduceIte, Option.map_some, f0, f2, f4, f5]; rfl) (rtext_ok hS1a.wf (OR.rr hO1) (by omega) (good_sh hg) (fun x hx => (hg x hx).2.2) (good_text hg)) fun r2 H2 hq2 => hK' _ _ ?_
    obtain ⟨rfl, hS2⟩ := hq2
    have hO2 := hO1.later hS2
    have m02 : H2.mine H.len = some ([.slice none 0 0], 0) := by rw [(hS1a.trans hS2).mine hl0]; exact m0
    have hrd2 : H2.rdn H1.len 0 1 = some (rowV w) := by rw [hS2.rdn hrl]; exact hrd
    have hneq := fun e a b => gb_neqB (e := e) (a := a) (b := b)
    obtain ⟨Ha, a1, a2, a3⟩ : ∃ Ha, gst (some 1) H2 (.pointer (some ⟨H.len, 0, none⟩)) (rowV w) = some Ha ∧ OR H Ha w out ∧ Ha.rdn H.len 0 1 = some (rowV w) := ⟨_, OR.res hO2 m02 rfl (Nat.le_refl _)⟩
    obtain ⟨Hz, b1, b2, b3⟩ := hbadS H2 hO2.same m02
    have hbad : ¬ (checkF out = 0 ∧ textB out = s) → resF R s = none := fun h => by rw [hL']; exact if_neg h
    by_cases hc : checkF out = 0
    · rw [if_pos hc, hc]
      by_cases ht : textB out = s
      · have hgood : resF R s = some out := by rw [hL']; exact if_pos ⟨hc, ht⟩
        have hyt2 : (¬ textB out = s) = False := by simp [ht]
        repeat' (first | (exfalso; omega) | refine zA ?_ | refine zB ?_ | refine zC ?_ | refine zD ?_ | refine zE ?_ | refine zF ?_ | refine zG ?_ | refine zH ?_ | refine zI ?_ | refine zJ ?_ | refine zK rfl ?_ | refine zL ?_ | refine zM ?_ | refine zN ?_ | refine zO ?_ | refine zP rfl ?_ | refine zQ ?_ | ((first | refine zR ?_ | refine zS ?_ | refine zT ?_ | skip); intro K k; simp (disch := (first | (simp only [yD2, beq_self_eq_true, Nat.reduceLT, Nat.reduceAdd]; done) | ((fail_if_success (apply Bool.eq_iff_iff.2)); first | omega | (simp only [yD2, beq_self_eq_true, Nat.reduceLT, Nat.reduceAdd] <;> omega)) | fail)) only [↓yS, yT, ↓reduceIte, Nat.reduceEqDiff, Nat.reduceAdd, Nat.reduceMul, reduceCtorEq, Int.reduceToNat, g25, f0, f2, f4, f5, hneq, hyt2, decide_false, hrd2, a1, a3]; refine yC (k _ _ ?_); clear k K) | ((first | refine zU ?_ | refine zV ?_ | refine zW ?_); intro A B C D a b c d; simp only [↓yG, Nat.reduceEqDiff, ↓reduceIte, g25, f0, f2, f4, f5, hneq, hyt2, decide_false, hrd2, a1, a3]; (first | refine zX (a ?_) | refine zY (b ?_) | refine zZ (fun hc => c ?_) (fun hc => d ?_)) <;> clear a b c d A B C D <;> try simp only [yL] at hc) | (refine yA ?_; intro A a; simp only [↓yG, Nat.reduceEqDiff, ↓reduceIte, g25, f0, f2, f4, f5, hneq, hyt2, decide_false, hrd2, a1, a3]; refine yB (a ?_); clear a A) | (refine yD ?_; simp only [gresults, ↓yG, Nat.reduceEqDiff, ↓reduceIte, Option.bind_some, gld_1, gld_n, g25, f0, f2, f4, f5, hneq, hyt2, decide_false, hrd2, a1, a3]; refine ⟨_, rfl, ?_⟩; simp only [gone]))
        exact hP1 _ _ _ hgood a2
      · have hyt2 : (¬ textB out = s) = True := by simp [ht]
        repeat' (first | (exfalso; omega) | refine zA ?_ | refine zB ?_ | refine zC ?_ | refine zD ?_ | refine zE ?_ | refine zF ?_ | refine zG ?_ | refine zH ?_ | refine zI ?_ | refine zJ ?_ | refine zK rfl ?_ | refine zL ?_ | refine zM ?_ | refine zN ?_ | refine zO ?_ | refine zP rfl ?_ | refine zQ ?_ | ((first | refine zR ?_ | refine zS ?_ | refine zT ?_ | skip); intro K k; simp (disch := (first | (simp only [yD2, beq_self_eq_true, Nat.reduceLT, Nat.reduceAdd]; done) | ((fail_if_success (apply Bool.eq_iff_iff.2)); first | omega | (simp only [yD2, beq_self_eq_true, Nat.reduceLT, Nat.reduceAdd] <;> omega)) | fail)) only [↓yS, yT, ↓reduceIte, Nat.reduceEqDiff, Nat.reduceAdd, Nat.reduceMul, reduceCtorEq, Int.reduceToNat, g25, f0, f2, f4, f5, hneq, hyt2, decide_true, b1, b3]; refine yC (k _ _ ?_); clear k K) | ((first | refine zU ?_ | refine zV ?_ | refine zW ?_); intro A B C D a b c d; simp only [↓yG, Nat.reduceEqDiff, ↓reduceIte, g25, f0, f2, f4, f5, hneq, hyt2, decide_true, b1, b3]; (first | refine zX (a ?_) | refine zY (b ?_) | refine zZ (fun hc => c ?_) (fun hc => d ?_)) <;> clear a b c d A B C D <;> try simp only [yL] at hc) | (refine yA ?_; intro A a; simp only [↓yG, Nat.reduceEqDiff, ↓reduceIte, g25, f0, f2, f4, f5, hneq, hyt2, decide_true, b1, b3]; refine yB (a ?_); clear a A) | (refine yD ?_; simp only [gresults, ↓yG, Nat.reduceEqDiff, ↓reduceIte, Option.bind_some, gld_1, gld_n, g25, f0, f2, f4, f5, hneq, hyt2, decide_true, b1, b3]; refine ⟨_, rfl, ?_⟩; simp only [gone]))
        exact hP0 _ _ (hbad fun h => ht h.2) b2
    · repeat' (first | (exfalso; omega) | refine zA ?_ | refine zB ?_ | refine zC ?_ | refine zD ?_ | refine zE ?_ | refine zF ?_ | refine zG ?_ | refine zH ?_ | refine zI ?_ | refine zJ ?_ | refine zK rfl ?_ | refine zL ?_ | refine zM ?_ | refine zN ?_ | refine zO ?_ | refine zP rfl ?_ | refine zQ ?_ | ((first | refine zR ?_ | refine zS ?_ | refine zT ?_ | skip); intro K k; simp (disch := (first | (simp only [yD2, beq_self_eq_true, Nat.reduceLT, Nat.reduceAdd]; done) | ((fail_if_success (apply Bool.eq_iff_iff.2)); first | omega | (simp only [yD2, beq_self_eq_true, Nat.reduceLT, Nat.reduceAdd] <;> omega)) | fail)) only [↓yS, yT, ↓reduceIte, Nat.reduceEqDiff, Nat.reduceAdd, Nat.reduceMul, reduceCtorEq, Int.reduceToNat, g25, f0, f2, f4, f5, b1, b3]; refine yC (k _ _ ?_); clear k K) | ((first | refine zU ?_ | refine zV ?_ | refine zW ?_); intro A B C D a b c d; simp only [↓yG, Nat.reduceEqDiff, ↓reduceIte, g25, f0, f2, f4, f5, b1, b3]; (first | refine zX (a ?_) | refine zY (b ?_) | refine zZ (fun hc => c ?_) (fun hc => d ?_)) <;> clear a b c d A B C D <;> try simp only [yL] at hc) | (refine yA ?_; intro A a; simp only [↓yG, Nat.reduceEqDiff, ↓reduceIte, g25, f0, f2, f4, f5, b1, b3]; refine yB (a ?_); clear a A) | (refine yD ?_; simp only [gresults, ↓yG, Nat.reduceEqDiff, ↓reduceIte, Option.bind_some, gld_1, gld_n, g25, f0, f2, f4, f5, b1, b3]; refine ⟨_, rfl, ?_⟩; simp only [gone]))
      exact hP0 _ _ (hbad fun h => hc h.1) b2
  obtain ⟨k, rfl⟩ : ∃ m, k = m + 1 := ⟨k - 1, by omega⟩
  have hL2 : R = match stepR (s.drop j) with
    | none => none
    | some z => loopR k (out ++ [z.1]) z.2 := by
    rw [← hL, untP_drop (e := eB) hj]; rfl
  have hne : s.drop j ≠ [] := fun e => by have := congrArg List.length e; rw [List.length_drop] at this; simp at this; omega
  have hat : ∀ (i : Nat) k, i < s.length → gix none (.string (strB s)) (.int k i) = some (.int .u8 (s[i]!.toNat : Nat)) := fun i k h => strB_at (l := s) (k := k) h
  have hat0 := fun k => hat j k hj
  have hb123 : (s[j]!.toNat : Int) = 123 ↔ s[j]! = 123 := u8_eq (c := 123) (by decide)
  obtain ⟨hb1, hb1S, hb1m⟩ : ∃ Hb1, Hb1 = H1.add (some (.cells [.string ⟨#[]⟩, .int .u8 0, .bool false, .bool false, .string ⟨#[]⟩] 0 true)) ∧ Same H1 Hb1 := ⟨_, rfl, (Same.refl hw1).add _⟩
  have mb : hb1.mine H1.len = some (runC ⟨[], ⟨0, false, false⟩, []⟩, 0) := by rw [hb1S, mine_add_eq rfl hlim1]; rfl
  refine zA ?_
  refine zA ?_
  repeat' (first | refine zB ?_ | refine zC ?_ | refine zD ?_ | refine zE ?_ | refine zF ?_ | refine zG ?_ | refine zH ?_ | refine zI ?_ | refine zJ ?_ | refine zK rfl ?_ | refine zL ?_ | refine zM ?_ | refine zN ?_ | refine zO ?_ | refine zP rfl ?_ | refine zQ ?_ | ((first | refine zR ?_ | refine zS ?_ | refine zT ?_ | skip); intro K k; simp (disch := (first | (simp only [yD2, beq_self_eq_true, Nat.reduceLT, Nat.reduceAdd]; done) | ((fail_if_success (apply Bool.eq_iff_iff.2)); first | omega | (simp only [yD2, beq_self_eq_true, Nat.reduceLT, Nat.reduceAdd] <;> omega)) | fail)) only [↓yS, yT, ↓reduceIte, Nat.reduceEqDiff, Nat.reduceAdd, Nat.reduceMul, reduceCtorEq, Int.reduceToNat, g25, f0, f2, f4, f5, strB_size]; refine yC (k _ _ ?_); clear k K) | ((first | refine zU ?_ | refine zV ?_ | refine zW ?_); intro A B C D a b c d; simp only [↓yG, Nat.reduceEqDiff, ↓reduceIte, g25, f0, f2, f4, f5, strB_size]; (first | refine zX (a ?_) | refine zY (b ?_) | refine zZ (fun hc => c ?_) (fun hc => d ?_)) <;> clear a b c d A B C D <;> try simp only [yL] at hc) | (refine yA ?_; intro A a; simp only [↓yG, Nat.reduceEqDiff, ↓reduceIte, g25, f0, f2, f4, f5, strB_size]; refine yB (a ?_); clear a A) | (refine yD ?_; simp only [gresults, ↓yG, Nat.reduceEqDiff, ↓reduceIte, Option.bind_some, gld_1, gld_n, g25, f0, f2, f4, f5, strB_size]; refine ⟨_, rfl, ?_⟩; simp only [gone]))
  case refine_2 => exfalso; omega
  refine zA ?_
  repeat' (first | refine zB ?_ | refine zC ?_ | refine zD ?_ | refine zE ?_ | refine zF ?_ | refine zG ?_ | refine zH ?_ | refine zI ?_ | refine zJ ?_ | refine zK rfl ?_ | refine zL ?_ | refine zM ?_ | refine zN ?_ | refine zO ?_ | refine zP rfl ?_ | refine zQ ?_ | ((first | refine zR ?_ | refine zS ?_ | refine zT ?_ | skip); intro K k; simp (disch := (first | (simp only [yD2, beq_self_eq_true, Nat.reduceLT, Nat.reduceAdd]; done) | ((fail_if_success (apply Bool.eq_iff_iff.2)); first | omega | (simp only [yD2, beq_self_eq_true, Nat.reduceLT, Nat.reduceAdd] <;> omega)) | fail)) only [↓yS, yT, ↓reduceIte, Nat.reduceEqDiff, Nat.reduceAdd, Nat.reduceMul, reduceCtorEq, Int.reduceToNat, g25, f0, f2, f4, f5]; refine yC (k _ _ ?_); clear k K) | ((first | refine zU ?_ | refine zV ?_ | refine zW ?_); intro A B C D a b c d; simp only [↓yG, Nat.reduceEqDiff, ↓reduceIte, g25, f0, f2, f4, f5]; (first | refine zX (a ?_) | refine zY (b ?_) | refine zZ (fun hc => c ?_) (fun hc => d ?_)) <;> clear a b c d A B C D <;> try simp only [yL] at hc) | (refine yA ?_; intro A a; simp only [↓yG, Nat.reduceEqDiff, ↓reduceIte, g25, f0, f2, f4, f5]; refine yB (a ?_); clear a A) | (refine yD ?_; simp only [gresults, ↓yG, Nat.reduceEqDiff, ↓reduceIte, Option.bind_some, gld_1, gld_n, g25, f0, f2, f4, f5]; refine ⟨_, rfl, ?_⟩; simp only [gone]))
  rw [← hb1S]
  refine GW_cut (fun fr H2 => ∃ (st : Sy) (y : List UInt8) (j2 : Nat), fr.get 0 = some (.string (strB s)) ∧ fr.get 2 = some (.pointer (some ⟨H.len, 0, none⟩)) ∧ fr.get 4 = some (w) ∧ fr.get 5 = some (.int .i64 j2) ∧ fr.get 6 = some (.pointer (some ⟨H1.len, 0, none⟩)) ∧ Same H1 H2 ∧ H2.mine H1.len = some (runC ⟨[], st, y⟩, 0) ∧ stepR (s.drop j) = finR ⟨[], st, y⟩ (s.drop j2) ∧ j ≤ j2 ∧ j2 ≤ s.length ∧ y.length ≤ 134217728 ∧ 0 ≤ st.c) ?_ ?_
  · intro J1 hJ1
    by_cases hb : s[j]! = 123
    · have hb2 := hb123.2 hb
      have hsr := stepR_tag hj hb
      obtain ⟨c1, c2⟩ := until_suf (e := eC) (l := s) (i := j + 1) (by omega)
      have hun : ∀ H, gev G 58 [.string (strB s), .int .i64 ((j : Int) + 1), .string ⟨#[58, 125]⟩] H = some (.tuple #[.string (strB (untP eC (s.drop (j + 1))).1), .int .i64 (s.length - (untP eC (s.drop (j + 1))).2.length : Nat)], H) := until_ok eC_mem rfl (by decide) rfl (by omega) (i := j + 1) (by omega)
      obtain ⟨lt, z1, hu⟩ : ∃ lt z1, untP eC (s.drop (j + 1)) = (lt, z1) := ⟨_, _, rfl⟩
      rw [hu] at c1 c2 hun
      simp only at c1 c2 hun
      obtain ⟨yk, hyk⟩ : ∃ yk, yk = (if hasP 58 z1 = true then untP eD z1.tail else ([], z1)) := ⟨_, rfl⟩
      have htr : tagR (s.drop (j + 1)) = match yk.2 with
        | [] => none
        | _ :: r => some (parL lt, yk.1, r) := by
        unfold tagR
        rw [hu, hyk]
        rfl
      obtain ⟨i1, hi1⟩ : ∃ i1, i1 = s.length - z1.length := ⟨_, rfl⟩
      rw [← hi1] at c1 hun
      have hz58 : hasP 58 z1 = decide (i1 < s.length ∧ s[i1]! = 58) := by rw [← c1, hasP_drop]
      have hb58 : (s[i1]!.toNat : Int) = 58 ↔ s[i1]! = 58 := u8_eq (c := 58) (by decide)
      repeat' (first | (exfalso; omega) | refine zA ?_ | refine zB ?_ | refine zC ?_ | refine zD ?_ | refine zE ?_ | refine zF ?_ | refine zG ?_ | refine zH ?_ | refine zI ?_ | refine zJ ?_ | refine zK rfl ?_ | refine zL ?_ | refine zM ?_ | refine zN ?_ | refine zO ?_ | refine zP rfl ?_ | refine zQ ?_ | ((first | refine zR ?_ | refine zS ?_ | refine zT ?_ | skip); intro K k; simp (disch := (first | (simp only [yD2, beq_self_eq_true, Nat.reduceLT, Nat.reduceAdd]; done) | ((fail_if_success (apply Bool.eq_iff_iff.2)); first | omega | (simp only [yD2, beq_self_eq_true, Nat.reduceLT, Nat.reduceAdd] <;> omega)) | fail)) only [↓yS, yT, ↓reduceIte, Nat.reduceEqDiff, Nat.reduceAdd, Nat.reduceMul, reduceCtorEq, Int.reduceToNat, g25, f0, f2, f4, f5, hat0, hb2]; refine yC (k _ _ ?_); clear k K) | ((first | refine zU ?_ | refine zV ?_ | refine zW ?_); intro A B C D a b c d; simp only [↓yG, Nat.reduceEqDiff, ↓reduceIte, g25, f0, f2, f4, f5, hat0, hb2]; (first | refine zX (a ?_) | refine zY (b ?_) | refine zZ (fun hc => c ?_) (fun hc => d ?_)) <;> clear a b c d A B C D <;> try simp only [yL] at hc) | (refine yA ?_; intro A a; simp only [↓yG, Nat.reduceEqDiff, ↓reduceIte, g25, f0, f2, f4, f5, hat0, hb2]; refine yB (a ?_); clear a A) | (refine yD ?_; simp only [gresults, ↓yG, Nat.reduceEqDiff, ↓reduceIte, Option.bind_some, gld_1, gld_n, g25, f0, f2, f4, f5, hat0, hb2]; refine ⟨_, rfl, ?_⟩; simp only [gone]))
      refine Gw_s fun K' hK' => G1_call (by simp only [gtarget, ↓GArg.ev, ↓evs, ↓Tr.get_set, Nat.reduceEqDiff, if_true, if_false, ↓reduceIte, Option.map_some, f0, f2, f4, f5]; rfl) (one_of (hun _)) fun r3 H3 hq3 => hK' _ _ ?_
      obtain ⟨rfl, rfl⟩ := hq3
      repeat' (first | refine zB ?_ | refine zC ?_ | refine zD ?_ | refine zE ?_ | refine zF ?_ | refine zG ?_ | refine zH ?_ | refine zI ?_ | refine zJ ?_ | refine zK rfl ?_ | refine zL ?_ | refine zM ?_ | refine zN ?_ | refine zO ?_ | refine zP rfl ?_ | refine zQ ?_ | ((first | refine zR ?_ | refine zS ?_ | refine zT ?_ | skip); intro K k; simp (disch := (first | (simp only [yD2, beq_self_eq_true, Nat.reduceLT, Nat.reduceAdd]; done) | ((fail_if_success (apply Bool.eq_iff_iff.2)); first | omega | (simp only [yD2, beq_self_eq_true, Nat.reduceLT, Nat.reduceAdd] <;> omega)) | fail)) only [↓yS, yT, ↓reduceIte, Nat.reduceEqDiff, Nat.reduceAdd, Nat.reduceMul, reduceCtorEq, Int.reduceToNat, g25, f0, f2, f4, f5]; refine yC (k _ _ ?_); clear k K) | ((first | refine zU ?_ | refine zV ?_ | refine zW ?_); intro A B C D a b c d; simp only [↓yG, Nat.reduceEqDiff, ↓reduceIte, g25, f0, f2, f4, f5]; (first | refine zX (a ?_) | refine zY (b ?_) | refine zZ (fun hc => c ?_) (fun hc => d ?_)) <;> clear a b c d A B C D <;> try simp only [yL] at hc) | (refine yA ?_; intro A a; simp only [↓yG, Nat.reduceEqDiff, ↓reduceIte, g25, f0, f2, f4, f5]; refine yB (a ?_); clear a A) | (refine yD ?_; simp only [gresults, ↓yG, Nat.reduceEqDiff, ↓reduceIte, Option.bind_some, gld_1, gld_n, g25, f0, f2, f4, f5]; refine ⟨_, rfl, ?_⟩; simp only [gone]))
      refine GW_cut (fun fr H2 => ∃ (i2 : Nat), fr.get 0 = some (.string (strB s)) ∧ fr.get 2 = some (.pointer (some ⟨H.len, 0, none⟩)) ∧ fr.get 4 = some (w) ∧ fr.get 6 = some (.pointer (some ⟨H1.len, 0, none⟩)) ∧ fr.get 7 = some (.string (strB lt)) ∧ fr.get 8 = some (.int .i64 i2) ∧ Same H1 H2 ∧ H2.mine H1.len = some (runC ⟨[], ⟨0, false, false⟩, yk.1⟩, 0) ∧ i2 = s.length - yk.2.length ∧ s.drop i2 = yk.2 ∧ yk.1.length + yk.2.length ≤ s.length - (j + 1)) ?_ ?_
      · intro J2 hJ2
        by_cases h58 : i1 < s.length ∧ s[i1]! = 58
        · obtain ⟨h1, h2⟩ := h58
          have hat1 := fun k => hat i1 k h1
          have h3 := hb58.2 h2
          rw [hz58, decide_eq_true ⟨h1, h2⟩, if_pos rfl, ← c1, List.tail_drop] at hyk
          obtain ⟨d1, d2⟩ := until_suf (e := eD) (l := s) (i := i1 + 1) (by omega)
          have hun2 : ∀ H, gev G 58 [.string (strB s), .int .i64 ((i1 : Int) + 1), .string ⟨#[125]⟩] H = some (.tuple #[.string (strB (untP eD (s.drop (i1 + 1))).1), .int .i64 (s.length - (untP eD (s.drop (i1 + 1))).2.length : Nat)], H) := until_ok eD_mem rfl (by decide) rfl (by omega) (i := i1 + 1) (by omega)
          rw [← hyk] at d1 d2 hun2
          have e := gst_run mb (n := 4) (v := .string (strB yk.1)) (by decide) rfl rfl
          have m3 := mine_put_run mb (runC_set4 [] ⟨0, false, false⟩ [] yk.1)
          have hS2 : Same H1 (H3.put H1.len (.cells ((runC ⟨[], ⟨0, false, false⟩, []⟩).set 4 (.string (strB yk.1))) 0 true)) := hb1m.put (Nat.le_refl _) (mine_lt hb1m.wf mb) _
          repeat' (first | (exfalso; omega) | refine zA ?_ | refine zB ?_ | refine zC ?_ | refine zD ?_ | refine zE ?_ | refine zF ?_ | refine zG ?_ | refine zH ?_ | refine zI ?_ | refine zJ ?_ | refine zK rfl ?_ | refine zL ?_ | refine zM ?_ | refine zN ?_ | refine zO ?_ | refine zP rfl ?_ | refine zQ ?_ | ((first | refine zR ?_ | refine zS ?_ | refine zT ?_ | skip); intro K k; simp (disch := (first | (simp only [yD2, beq_self_eq_true, Nat.reduceLT, Nat.reduceAdd]; done) | ((fail_if_success (apply Bool.eq_iff_iff.2)); first | omega | (simp only [yD2, beq_self_eq_true, Nat.reduceLT, Nat.reduceAdd] <;> omega)) | fail)) only [↓yS, yT, ↓reduceIte, Nat.reduceEqDiff, Nat.reduceAdd, Nat.reduceMul, reduceCtorEq, Int.reduceToNat, g25, f0, f2, f4, f5, strB_size, hat1]; refine yC (k _ _ ?_); clear k K) | ((first | refine zU ?_ | refine zV ?_ | refine zW ?_); intro A B C D a b c d; simp only [↓yG, Nat.reduceEqDiff, ↓reduceIte, g25, f0, f2, f4, f5, strB_size, hat1]; (first | refine zX (a ?_) | refine zY (b ?_) | refine zZ (fun hc => c ?_) (fun hc => d ?_)) <;> clear a b c d A B C D <;> try simp only [yL] at hc) | (refine yA ?_; intro A a; simp only [↓yG, Nat.reduceEqDiff, ↓reduceIte, g25, f0, f2, f4, f5, strB_size, hat1]; refine yB (a ?_); clear a A) | (refine yD ?_; simp only [gresults, ↓yG, Nat.reduceEqDiff, ↓reduceIte, Option.bind_some, gld_1, gld_n, g25, f0, f2, f4, f5, strB_size, hat1]; refine ⟨_, rfl, ?_⟩; simp only [gone]))
          refine Gw_s fun K' hK' => G1_call (by simp only [gtarget, ↓GArg.ev, ↓evs, ↓Tr.get_set, Nat.reduceEqDiff, if_true, if_false, ↓reduceIte, Option.map_some, f0, f2, f4, f5]; rfl) (one_of (hun2 _)) fun r4 H4 hq4 => hK' _ _ ?_
          obtain ⟨rfl, rfl⟩ := hq4
          repeat' (first | (exfalso; omega) | refine zA ?_ | refine zB ?_ | refine zC ?_ | refine zD ?_ | refine zE ?_ | refine zF ?_ | refine zG ?_ | refine zH ?_ | refine zI ?_ | refine zJ ?_ | refine zK rfl ?_ | refine zL ?_ | refine zM ?_ | refine zN ?_ | refine zO ?_ | refine zP rfl ?_ | refine zQ ?_ | ((first | refine zR ?_ | refine zS ?_ | refine zT ?_ | skip); intro K k; simp (disch := (first | (simp only [yD2, beq_self_eq_true, Nat.reduceLT, Nat.reduceAdd]; done) | ((fail_if_success (apply Bool.eq_iff_iff.2)); first | omega | (simp only [yD2, beq_self_eq_true, Nat.reduceLT, Nat.reduceAdd] <;> omega)) | fail)) only [↓yS, yT, ↓reduceIte, Nat.reduceEqDiff, Nat.reduceAdd, Nat.reduceMul, reduceCtorEq, Int.reduceToNat, g25, f0, f2, f4, f5, e]; refine yC (k _ _ ?_); clear k K) | ((first | refine zU ?_ | refine zV ?_ | refine zW ?_); intro A B C D a b c d; simp only [↓yG, Nat.reduceEqDiff, ↓reduceIte, g25, f0, f2, f4, f5, e]; (first | refine zX (a ?_) | refine zY (b ?_) | refine zZ (fun hc => c ?_) (fun hc => d ?_)) <;> clear a b c d A B C D <;> try simp only [yL] at hc) | (refine yA ?_; intro A a; simp only [↓yG, Nat.reduceEqDiff, ↓reduceIte, g25, f0, f2, f4, f5, e]; refine yB (a ?_); clear a A) | (refine yD ?_; simp only [gresults, ↓yG, Nat.reduceEqDiff, ↓reduceIte, Option.bind_some, gld_1, gld_n, g25, f0, f2, f4, f5, e]; refine ⟨_, rfl, ?_⟩; simp only [gone]))
          refine hJ2 _ _ ⟨s.length - yk.2.length, ?_⟩
          simp only [↓yG, Nat.reduceEqDiff, ↓reduceIte, Int.natCast_add, Int.cast_ofNat_Int, Int.natCast_zero, true_and, and_true, Option.some.injEq, Value.int.injEq, f0, f2, f4, f5]
          exact ⟨hS2, m3, d1, by omega⟩
        · rw [hz58, decide_eq_false h58, if_neg (by decide)] at hyk
          subst hyk
          have hsplit : (¬ i1 < s.length) ∨ (i1 < s.length ∧ ¬ (s[i1]!.toNat : Int) = 58) := by
            by_cases h : i1 < s.length
            · exact .inr ⟨h, fun h2 => h58 ⟨h, hb58.1 h2⟩⟩
            · exact .inl h
          rcases hsplit with hb3 | ⟨hb3, hb4⟩
          case' inl => have hat1 := True.intro
          case' inr => have hat1 := fun k => hat i1 k hb3
          all_goals
            repeat' (first | (exfalso; omega) | refine zA ?_ | refine zB ?_ | refine zC ?_ | refine zD ?_ | refine zE ?_ | refine zF ?_ | refine zG ?_ | refine zH ?_ | refine zI ?_ | refine zJ ?_ | refine zK rfl ?_ | refine zL ?_ | refine zM ?_ | refine zN ?_ | refine zO ?_ | refine zP rfl ?_ | refine zQ ?_ | ((first | refine zR ?_ | refine zS ?_ | refine zT ?_ | skip); intro K k; simp (disch := (first | (simp only [yD2, beq_self_eq_true, Nat.reduceLT, Nat.reduceAdd]; done) | ((fail_if_success (apply Bool.eq_iff_iff.2)); first | omega | (simp only [yD2, beq_self_eq_true, Nat.reduceLT, Nat.reduceAdd] <;> omega)) | fail)) only [↓yS, yT, ↓reduceIte, Nat.reduceEqDiff, Nat.reduceAdd, Nat.reduceMul, reduceCtorEq, Int.reduceToNat, g25, f0, f2, f4, f5, strB_size, hat1]; refine yC (k _ _ ?_); clear k K) | ((first | refine zU ?_ | refine zV ?_ | refine zW ?_); intro A B C D a b c d; simp only [↓yG, Nat.reduceEqDiff, ↓reduceIte, g25, f0, f2, f4, f5, strB_size, hat1]; (first | refine zX (a ?_) | refine zY (b ?_) | refine zZ (fun hc => c ?_) (fun hc => d ?_)) <;> clear a b c d A B C D <;> try simp only [yL] at hc) | (refine yA ?_; intro A a; simp only [↓yG, Nat.reduceEqDiff, ↓reduceIte, g25, f0, f2, f4, f5, strB_size, hat1]; refine yB (a ?_); clear a A) | (refine yD ?_; simp only [gresults, ↓yG, Nat.reduceEqDiff, ↓reduceIte, Option.bind_some, gld_1, gld_n, g25, f0, f2, f4, f5, strB_size, hat1]; refine ⟨_, rfl, ?_⟩; simp only [gone]))
            refine hJ2 _ _ ⟨i1, ?_⟩
            simp only [↓yG, Nat.reduceEqDiff, ↓reduceIte, Int.natCast_add, Int.cast_ofNat_Int, Int.natCast_zero, true_and, and_true, Option.some.injEq, Value.int.injEq, f0, f2, f4, f5]
            exact ⟨hb1m, mb, hi1, c1, by simp only [List.length_nil]; omega⟩
      rintro fr2 H4 ⟨i2, p0, p2, p4, p6, p7, p8, hS14, m4, hi2, d1, d2⟩
      rcases hzz : yk.2 with _ | ⟨c, r⟩
      · rw [hzz] at hi2 htr
        simp only [List.length_nil] at hi2
        rw [htr] at hsr
        rw [hsr] at hL2
        have hbad : resF R s = none := by rw [hL2]; rfl
        have m04 : H4.mine H.len = some ([.slice none 0 0], 0) := by rw [hS14.mine hl0]; exact m0
        obtain ⟨Hz, b1, b2, b3⟩ := hbadS H4 (hS.trans hS14) m04
        repeat' (first | (exfalso; omega) | refine zA ?_ | refine zB ?_ | refine zC ?_ | refine zD ?_ | refine zE ?_ | refine zF ?_ | refine zG ?_ | refine zH ?_ | refine zI ?_ | refine zJ ?_ | refine zK rfl ?_ | refine zL ?_ | refine zM ?_ | refine zN ?_ | refine zO ?_ | refine zP rfl ?_ | refine zQ ?_ | ((first | refine zR ?_ | refine zS ?_ | refine zT ?_ | skip); intro K k; simp (disch := (first | (simp only [yD2, beq_self_eq_true, Nat.reduceLT, Nat.reduceAdd]; done) | ((fail_if_success (apply Bool.eq_iff_iff.2)); first | omega | (simp only [yD2, beq_self_eq_true, Nat.reduceLT, Nat.reduceAdd] <;> omega)) | fail)) only [↓yS, yT, ↓reduceIte, Nat.reduceEqDiff, Nat.reduceAdd, Nat.reduceMul, reduceCtorEq, Int.reduceToNat, g25, p0, p2, p4, p6, p7, p8, strB_size, b1, b3]; refine yC (k _ _ ?_); clear k K) | ((first | refine zU ?_ | refine zV ?_ | refine zW ?_); intro A B C D a b c d; simp only [↓yG, Nat.reduceEqDiff, ↓reduceIte, g25, p0, p2, p4, p6, p7, p8, strB_size, b1, b3]; (first | refine zX (a ?_) | refine zY (b ?_) | refine zZ (fun hc => c ?_) (fun hc => d ?_)) <;> clear a b c d A B C D <;> try simp only [yL] at hc) | (refine yA ?_; intro A a; simp only [↓yG, Nat.reduceEqDiff, ↓reduceIte, g25, p0, p2, p4, p6, p7, p8, strB_size, b1, b3]; refine yB (a ?_); clear a A) | (refine yD ?_; simp only [gresults, ↓yG, Nat.reduceEqDiff, ↓reduceIte, Option.bind_some, gld_1, gld_n, g25, p0, p2, p4, p6, p7, p8, strB_size, b1, b3]; refine ⟨_, rfl, ?_⟩; simp only [gone]))
        exact hP0 _ _ hbad b2
      · rw [hzz] at hi2 htr d1 d2
        simp only [List.length_cons] at hi2 d2
        have hlt : i2 < s.length := by omega
        have hr : s.drop (i2 + 1) = r := by rw [← List.tail_drop, d1]; rfl
        simp only at htr
        rw [htr, ← hr] at hsr
        have hpc := parL_c lt
        have e : gst (some 3) H4 (.pointer (some ⟨H1.len, 1, none⟩)) (syV (parL lt)) = some (H4.put H1.len (.cells (runC ⟨[], parL lt, yk.1⟩) 0 true)) := by
          rw [gst_n, m4, Option.bind_some, gsetn_st]; rfl
        have m5 := mine_put_same (H := H4) (i := H1.len) (cs := runC ⟨[], parL lt, yk.1⟩) (u := 0) (mine_obj m4).1
        have hS15 : Same H1 (H4.put H1.len (.cells (runC ⟨[], parL lt, yk.1⟩) 0 true)) := hS14.put (Nat.le_refl _) (mine_lt hS14.wf m4) _
        repeat' (first | (exfalso; omega) | refine zA ?_ | refine zB ?_ | refine zC ?_ | refine zD ?_ | refine zE ?_ | refine zF ?_ | refine zG ?_ | refine zH ?_ | refine zI ?_ | refine zJ ?_ | refine zK rfl ?_ | refine zL ?_ | refine zM ?_ | refine zN ?_ | refine zO ?_ | refine zP rfl ?_ | refine zQ ?_ | ((first | refine zR ?_ | refine zS ?_ | refine zT ?_ | skip); intro K k; simp (disch := (first | (simp only [yD2, beq_self_eq_true, Nat.reduceLT, Nat.reduceAdd]; done) | ((fail_if_success (apply Bool.eq_iff_iff.2)); first | omega | (simp only [yD2, beq_self_eq_true, Nat.reduceLT, Nat.reduceAdd] <;> omega)) | fail)) only [↓yS, yT, ↓reduceIte, Nat.reduceEqDiff, Nat.reduceAdd, Nat.reduceMul, reduceCtorEq, Int.reduceToNat, g25, p0, p2, p4, p6, p7, p8, strB_size]; refine yC (k _ _ ?_); clear k K) | ((first | refine zU ?_ | refine zV ?_ | refine zW ?_); intro A B C D a b c d; simp only [↓yG, Nat.reduceEqDiff, ↓reduceIte, g25, p0, p2, p4, p6, p7, p8, strB_size]; (first | refine zX (a ?_) | refine zY (b ?_) | refine zZ (fun hc => c ?_) (fun hc => d ?_)) <;> clear a b c d A B C D <;> try simp only [yL] at hc) | (refine yA ?_; intro A a; simp only [↓yG, Nat.reduceEqDiff, ↓reduceIte, g25, p0, p2, p4, p6, p7, p8, strB_size]; refine yB (a ?_); clear a A) | (refine yD ?_; simp only [gresults, ↓yG, Nat.reduceEqDiff, ↓reduceIte, Option.bind_some, gld_1, gld_n, g25, p0, p2, p4, p6, p7, p8, strB_size]; refine ⟨_, rfl, ?_⟩; simp only [gone]))
        refine Gw_s fun K' hK' => G1_call (by simp only [gtarget, ↓GArg.ev, ↓evs, ↓Tr.get_set, Nat.reduceEqDiff, if_true, if_false, ↓reduceIte, Option.map_some, p0, p2, p4, p6, p7, p8]; rfl) (one_of (parL_ok _)) fun r5 H5 hq5 => hK' _ _ ?_
        obtain ⟨rfl, rfl⟩ := hq5
        repeat' (first | (exfalso; omega) | refine zA ?_ | refine zB ?_ | refine zC ?_ | refine zD ?_ | refine zE ?_ | refine zF ?_ | refine zG ?_ | refine zH ?_ | refine zI ?_ | refine zJ ?_ | refine zK rfl ?_ | refine zL ?_ | refine zM ?_ | refine zN ?_ | refine zO ?_ | refine zP rfl ?_ | refine zQ ?_ | ((first | refine zR ?_ | refine zS ?_ | refine zT ?_ | skip); intro K k; simp (disch := (first | (simp only [yD2, beq_self_eq_true, Nat.reduceLT, Nat.reduceAdd]; done) | ((fail_if_success (apply Bool.eq_iff_iff.2)); first | omega | (simp only [yD2, beq_self_eq_true, Nat.reduceLT, Nat.reduceAdd] <;> omega)) | fail)) only [↓yS, yT, ↓reduceIte, Nat.reduceEqDiff, Nat.reduceAdd, Nat.reduceMul, reduceCtorEq, Int.reduceToNat, g25, p0, p2, p4, p6, p7, p8, e]; refine yC (k _ _ ?_); clear k K) | ((first | refine zU ?_ | refine zV ?_ | refine zW ?_); intro A B C D a b c d; simp only [↓yG, Nat.reduceEqDiff, ↓reduceIte, g25, p0, p2, p4, p6, p7, p8, e]; (first | refine zX (a ?_) | refine zY (b ?_) | refine zZ (fun hc => c ?_) (fun hc => d ?_)) <;> clear a b c d A B C D <;> try simp only [yL] at hc) | (refine yA ?_; intro A a; simp only [↓yG, Nat.reduceEqDiff, ↓reduceIte, g25, p0, p2, p4, p6, p7, p8, e]; refine yB (a ?_); clear a A) | (refine yD ?_; simp only [gresults, ↓yG, Nat.reduceEqDiff, ↓reduceIte, Option.bind_some, gld_1, gld_n, g25, p0, p2, p4, p6, p7, p8, e]; refine ⟨_, rfl, ?_⟩; simp only [gone]))
        refine hJ1 _ _ ⟨parL lt, yk.1, i2 + 1, ?_⟩
        simp only [↓yG, Nat.reduceEqDiff, ↓reduceIte, Int.natCast_add, Int.cast_ofNat_Int, Int.natCast_zero, true_and, and_true, Option.some.injEq, Value.int.injEq, p0, p2, p4, p6]
        exact ⟨hS15, m5, hsr, by omega, by omega, by omega, hpc⟩
    · have hb2 : ¬ (s[j]!.toNat : Int) = 123 := fun h => hb (hb123.1 h)
      have hsr := stepR_no hj hb
      repeat' (first | (exfalso; omega) | refine zA ?_ | refine zB ?_ | refine zC ?_ | refine zD ?_ | refine zE ?_ | refine zF ?_ | refine zG ?_ | refine zH ?_ | refine zI ?_ | refine zJ ?_ | refine zK rfl ?_ | refine zL ?_ | refine zM ?_ | refine zN ?_ | refine zO ?_ | refine zP rfl ?_ | refine zQ ?_ | ((first | refine zR ?_ | refine zS ?_ | refine zT ?_ | skip); intro K k; simp (disch := (first | (simp only [yD2, beq_self_eq_true, Nat.reduceLT, Nat.reduceAdd]; done) | ((fail_if_success (apply Bool.eq_iff_iff.2)); first | omega | (simp only [yD2, beq_self_eq_true, Nat.reduceLT, Nat.reduceAdd] <;> omega)) | fail)) only [↓yS, yT, ↓reduceIte, Nat.reduceEqDiff, Nat.reduceAdd, Nat.reduceMul, reduceCtorEq, Int.reduceToNat, g25, f0, f2, f4, f5, hat0, hb2]; refine yC (k _ _ ?_); clear k K) | ((first | refine zU ?_ | refine zV ?_ | refine zW ?_); intro A B C D a b c d; simp only [↓yG, Nat.reduceEqDiff, ↓reduceIte, g25, f0, f2, f4, f5, hat0, hb2]; (first | refine zX (a ?_) | refine zY (b ?_) | refine zZ (fun hc => c ?_) (fun hc => d ?_)) <;> clear a b c d A B C D <;> try simp only [yL] at hc) | (refine yA ?_; intro A a; simp only [↓yG, Nat.reduceEqDiff, ↓reduceIte, g25, f0, f2, f4, f5, hat0, hb2]; refine yB (a ?_); clear a A) | (refine yD ?_; simp only [gresults, ↓yG, Nat.reduceEqDiff, ↓reduceIte, Option.bind_some, gld_1, gld_n, g25, f0, f2, f4, f5, hat0, hb2]; refine ⟨_, rfl, ?_⟩; simp only [gone]))
      refine hJ1 _ _ ⟨⟨0, false, false⟩, [], j, ?_⟩
      simp only [↓yG, Nat.reduceEqDiff, ↓reduceIte, Int.natCast_add, Int.cast_ofNat_Int, Int.natCast_zero, true_and, and_true, Option.some.injEq, Value.int.injEq, f0, f2, f4, f5]
      exact ⟨hb1m, mb, hsr, Nat.le_refl _, hjs, by simp, by simp⟩
  rintro fr2 H2 ⟨st, y, j2, p0, p2, p4, p5, p6, hS12, m2, hsr, hj2, hj2s, hy, hst⟩
  obtain ⟨k1, k2⟩ := until_suf (e := eB) hj2s
  have hun := until_ok eB_mem rfl (by decide) (E := ⟨#[123, 125]⟩) rfl (l := s) (by omega) hj2s
  obtain ⟨t, z, hu⟩ : ∃ t z, untP eB (s.drop j2) = (t, z) := ⟨_, _, rfl⟩
  rw [hu] at k1 k2 hun
  simp only at k1 k2 hun
  have hfin : finR ⟨[], st, y⟩ (s.drop j2) = if hasP 125 z = true then none else some (⟨t, st, y⟩, z) := by
    unfold finR; rw [hu]
  rw [hfin] at hsr
  obtain ⟨j3, hj3⟩ : ∃ j3, j3 = s.length - z.length := ⟨_, rfl⟩
  rw [← hj3] at k1 hun
  have hz125 : hasP 125 z = decide (j3 < s.length ∧ s[j3]! = 125) := by rw [← k1, hasP_drop]
  have hb125 : (s[j3]!.toNat : Int) = 125 ↔ s[j3]! = 125 := u8_eq (c := 125) (by decide)
  have e0 := gst_run m2 (n := 0) (v := .string (strB t)) (by decide) rfl rfl
  have m3 := mine_put_run m2 (runC_set0 [] st y t)
  have hw2 := hS12.wf
  have hl2 := mine_lt hw2 m2
  have hS13 : Same H1 (H2.put H1.len (.cells ((runC ⟨[], st, y⟩).set 0 (.string (strB t))) 0 true)) := hS12.put (Nat.le_refl _) hl2 _
  refine zA ?_
  repeat' (first | refine zB ?_ | refine zC ?_ | refine zD ?_ | refine zE ?_ | refine zF ?_ | refine zG ?_ | refine zH ?_ | refine zI ?_ | refine zJ ?_ | refine zK rfl ?_ | refine zL ?_ | refine zM ?_ | refine zN ?_ | refine zO ?_ | refine zP rfl ?_ | refine zQ ?_ | ((first | refine zR ?_ | refine zS ?_ | refine zT ?_ | skip); intro K k; simp (disch := (first | (simp only [yD2, beq_self_eq_true, Nat.reduceLT, Nat.reduceAdd]; done) | ((fail_if_success (apply Bool.eq_iff_iff.2)); first | omega | (simp only [yD2, beq_self_eq_true, Nat.reduceLT, Nat.reduceAdd] <;> omega)) | fail)) only [↓yS, yT, ↓reduceIte, Nat.reduceEqDiff, Nat.reduceAdd, Nat.reduceMul, reduceCtorEq, Int.reduceToNat, g25, p0, p2, p4, p5, p6]; refine yC (k _ _ ?_); clear k K) | ((first | refine zU ?_ | refine zV ?_ | refine zW ?_); intro A B C D a b c d; simp only [↓yG, Nat.reduceEqDiff, ↓reduceIte, g25, p0, p2, p4, p5, p6]; (first | refine zX (a ?_) | refine zY (b ?_) | refine zZ (fun hc => c ?_) (fun hc => d ?_)) <;> clear a b c d A B C D <;> try simp only [yL] at hc) | (refine yA ?_; intro A a; simp only [↓yG, Nat.reduceEqDiff, ↓reduceIte, g25, p0, p2, p4, p5, p6]; refine yB (a ?_); clear a A) | (refine yD ?_; simp only [gresults, ↓yG, Nat.reduceEqDiff, ↓reduceIte, Option.bind_some, gld_1, gld_n, g25, p0, p2, p4, p5, p6]; refine ⟨_, rfl, ?_⟩; simp only [gone]))
  refine Gw_s fun K' hK' => G1_call (by simp only [gtarget, ↓GArg.ev, ↓evs, ↓Tr.get_set, Nat.reduceEqDiff, if_true, if_false, ↓reduceIte, Option.map_some, p0, p2, p4, p5, p6]; rfl) (one_of (hun _)) fun r3 H3 hq3 => hK' _ _ ?_
  obtain ⟨rfl, rfl⟩ := hq3
  repeat' (first | refine zB ?_ | refine zC ?_ | refine zD ?_ | refine zE ?_ | refine zF ?_ | refine zG ?_ | refine zH ?_ | refine zI ?_ | refine zJ ?_ | refine zK rfl ?_ | refine zL ?_ | refine zM ?_ | refine zN ?_ | refine zO ?_ | refine zP rfl ?_ | refine zQ ?_ | ((first | refine zR ?_ | refine zS ?_ | refine zT ?_ | skip); intro K k; simp (disch := (first | (simp only [yD2, beq_self_eq_true, Nat.reduceLT, Nat.reduceAdd]; done) | ((fail_if_success (apply Bool.eq_iff_iff.2)); first | omega | (simp only [yD2, beq_self_eq_true, Nat.reduceLT, Nat.reduceAdd] <;> omega)) | fail)) only [↓yS, yT, ↓reduceIte, Nat.reduceEqDiff, Nat.reduceAdd, Nat.reduceMul, reduceCtorEq, Int.reduceToNat, g25, p0, p2, p4, p5, p6, e0]; refine yC (k _ _ ?_); clear k K) | ((first | refine zU ?_ | refine zV ?_ | refine zW ?_); intro A B C D a b c d; simp only [↓yG, Nat.reduceEqDiff, ↓reduceIte, g25, p0, p2, p4, p5, p6, e0]; (first | refine zX (a ?_) | refine zY (b ?_) | refine zZ (fun hc => c ?_) (fun hc => d ?_)) <;> clear a b c d A B C D <;> try simp only [yL] at hc) | (refine yA ?_; intro A a; simp only [↓yG, Nat.reduceEqDiff, ↓reduceIte, g25, p0, p2, p4, p5, p6, e0]; refine yB (a ?_); clear a A) | (refine yD ?_; simp only [gresults, ↓yG, Nat.reduceEqDiff, ↓reduceIte, Option.bind_some, gld_1, gld_n, g25, p0, p2, p4, p5, p6, e0]; refine ⟨_, rfl, ?_⟩; simp only [gone]))
  generalize H3.put H1.len (.cells ((runC ⟨[], st, y⟩).set 0 (.string (strB t))) 0 true) = H4 at *
  have hO4 := hO.later hS13
  have m04 : H4.mine H.len = some ([.slice none 0 0], 0) := by rw [hS13.mine hl0]; exact m0
  have r5 : H4.rdn H1.len 0 5 = some (runV ⟨t, st, y⟩) := by simp only [GHeap.rdn, mine_cs m3, Option.bind_some]; rfl
  have hat3 : j3 < s.length → ∀ k, gix none (.string (strB s)) (.int k j3) = some (.int .u8 (s[j3]!.toNat : Nat)) := fun h k => hat j3 k h
  by_cases hbr : j3 < s.length ∧ s[j3]! = 125
  · obtain ⟨hb1', hb2'⟩ := hbr
    have hat3' := hat3 hb1'
    have hb3 := hb125.2 hb2'
    rw [hz125, decide_eq_true ⟨hb1', hb2'⟩, if_pos rfl] at hsr
    rw [hsr] at hL2
    have hbad : resF R s = none := by rw [hL2]; rfl
    obtain ⟨Hz, b1, b2, b3⟩ := hbadS H4 hO4.same m04
    repeat' (first | (exfalso; omega) | refine zA ?_ | refine zB ?_ | refine zC ?_ | refine zD ?_ | refine zE ?_ | refine zF ?_ | refine zG ?_ | refine zH ?_ | refine zI ?_ | refine zJ ?_ | refine zK rfl ?_ | refine zL ?_ | refine zM ?_ | refine zN ?_ | refine zO ?_ | refine zP rfl ?_ | refine zQ ?_ | ((first | refine zR ?_ | refine zS ?_ | refine zT ?_ | skip); intro K k; simp (disch := (first | (simp only [yD2, beq_self_eq_true, Nat.reduceLT, Nat.reduceAdd]; done) | ((fail_if_success (apply Bool.eq_iff_iff.2)); first | omega | (simp only [yD2, beq_self_eq_true, Nat.reduceLT, Nat.reduceAdd] <;> omega)) | fail)) only [↓yS, yT, ↓reduceIte, Nat.reduceEqDiff, Nat.reduceAdd, Nat.reduceMul, reduceCtorEq, Int.reduceToNat, g25, p0, p2, p4, p5, p6, strB_size, hat3', b1, b3]; refine yC (k _ _ ?_); clear k K) | ((first | refine zU ?_ | refine zV ?_ | refine zW ?_); intro A B C D a b c d; simp only [↓yG, Nat.reduceEqDiff, ↓reduceIte, g25, p0, p2, p4, p5, p6, strB_size, hat3', b1, b3]; (first | refine zX (a ?_) | refine zY (b ?_) | refine zZ (fun hc => c ?_) (fun hc => d ?_)) <;> clear a b c d A B C D <;> try simp only [yL] at hc) | (refine yA ?_; intro A a; simp only [↓yG, Nat.reduceEqDiff, ↓reduceIte, g25, p0, p2, p4, p5, p6, strB_size, hat3', b1, b3]; refine yB (a ?_); clear a A) | (refine yD ?_; simp only [gresults, ↓yG, Nat.reduceEqDiff, ↓reduceIte, Option.bind_some, gld_1, gld_n, g25, p0, p2, p4, p5, p6, strB_size, hat3', b1, b3]; refine ⟨_, rfl, ?_⟩; simp only [gone]))
    exact hP0 _ _ hbad b2
  rw [hz125, decide_eq_false hbr, if_neg (by decide)] at hsr
  have hlt := stepR_lt hne hsr
  rw [List.length_drop] at hlt
  rw [hsr] at hL2
  simp only at hL2
  have hsplit : (¬ j3 < s.length) ∨ (j3 < s.length ∧ ¬ (s[j3]!.toNat : Int) = 125) := by
    by_cases h : j3 < s.length
    · exact .inr ⟨h, fun h2 => hbr ⟨h, hb125.1 h2⟩⟩
    · exact .inl h
  rcases hsplit with hb3 | ⟨hb3, hb4⟩
  case' inl => have hat3' := True.intro
  case' inr => have hat3' := hat3 hb3
  all_goals
    repeat' (first | (exfalso; omega) | refine zA ?_ | refine zB ?_ | refine zC ?_ | refine zD ?_ | refine zE ?_ | refine zF ?_ | refine zG ?_ | refine zH ?_ | refine zI ?_ | refine zJ ?_ | refine zK rfl ?_ | refine zL ?_ | refine zM ?_ | refine zN ?_ | refine zO ?_ | refine zP rfl ?_ | refine zQ ?_ | ((first | refine zR ?_ | refine zS ?_ | refine zT ?_ | skip); intro K k; simp (disch := (first | (simp only [yD2, beq_self_eq_true, Nat.reduceLT, Nat.reduceAdd]; done) | ((fail_if_success (apply Bool.eq_iff_iff.2)); first | omega | (simp only [yD2, beq_self_eq_true, Nat.reduceLT, Nat.reduceAdd] <;> omega)) | fail)) only [↓yS, yT, ↓reduceIte, Nat.reduceEqDiff, Nat.reduceAdd, Nat.reduceMul, reduceCtorEq, Int.reduceToNat, g25, p0, p2, p4, p5, p6, strB_size, hat3', r5, RN]; refine yC (k _ _ ?_); clear k K) | ((first | refine zU ?_ | refine zV ?_ | refine zW ?_); intro A B C D a b c d; simp only [↓yG, Nat.reduceEqDiff, ↓reduceIte, g25, p0, p2, p4, p5, p6, strB_size, hat3', r5, RN]; (first | refine zX (a ?_) | refine zY (b ?_) | refine zZ (fun hc => c ?_) (fun hc => d ?_)) <;> clear a b c d A B C D <;> try simp only [yL] at hc) | (refine yA ?_; intro A a; simp only [↓yG, Nat.reduceEqDiff, ↓reduceIte, g25, p0, p2, p4, p5, p6, strB_size, hat3', r5, RN]; refine yB (a ?_); clear a A) | (refine yD ?_; simp only [gresults, ↓yG, Nat.reduceEqDiff, ↓reduceIte, Option.bind_some, gld_1, gld_n, g25, p0, p2, p4, p5, p6, strB_size, hat3', r5, RN]; refine ⟨_, rfl, ?_⟩; simp only [gone]))
    refine Gw_s fun K' hK' => ?_
    simp (disch := (first | (simp only [yD2, beq_self_eq_true, Nat.reduceLT, Nat.reduceAdd]; done) | ((fail_if_success (apply Bool.eq_iff_iff.2)); first | omega | (simp only [yD2, beq_self_eq_true, Nat.reduceLT, Nat.reduceAdd] <;> omega)) | fail)) only [↓yS, yT, ↓reduceIte, Nat.reduceEqDiff, Nat.reduceAdd, Nat.reduceMul, reduceCtorEq, Int.reduceToNat, p0, p2, p4, p5, p6]
    obtain ⟨w', H5, e, hO5, hB5⟩ := OS.app1 hO4 (by decide) (by decide) (news := runC ⟨t, st, y⟩) rfl (b := 40) (by omega) (by omega)
    refine G1_eq e (hK' _ _ ?_)
    clear hK' K' e
    have hO5' : OR H H5 w' (out ++ [⟨t, st, y⟩]) := by
      have e1 : RunsC (out ++ [⟨t, st, y⟩]) = RunsC out ++ runC ⟨t, st, y⟩ := by simp [RunsC]
      have e2 : (out ++ [(⟨t, st, y⟩ : SR)]).length = out.length + 1 := by simp
      unfold OR
      rw [e1, e2]; exact hO5
    have m05 : H5.mine H.len = some ([.slice none 0 0], 0) := by rw [hB5.mine (mine_lt hS13.wf m04) (not_id hO4 m04 (by decide))]; exact m04
    repeat' (first | (exfalso; omega) | refine zA ?_ | refine zB ?_ | refine zC ?_ | refine zD ?_ | refine zE ?_ | refine zF ?_ | refine zG ?_ | refine zH ?_ | refine zI ?_ | refine zJ ?_ | refine zK rfl ?_ | refine zL ?_ | refine zM ?_ | refine zN ?_ | refine zO ?_ | refine zP rfl ?_ | refine zQ ?_ | ((first | refine zR ?_ | refine zS ?_ | refine zT ?_ | skip); intro K k; simp (disch := (first | (simp only [yD2, beq_self_eq_true, Nat.reduceLT, Nat.reduceAdd]; done) | ((fail_if_success (apply Bool.eq_iff_iff.2)); first | omega | (simp only [yD2, beq_self_eq_true, Nat.reduceLT, Nat.reduceAdd] <;> omega)) | fail)) only [↓yS, yT, ↓reduceIte, Nat.reduceEqDiff, Nat.reduceAdd, Nat.reduceMul, reduceCtorEq, Int.reduceToNat, g25, p0, p2, p4, p5, p6]; refine yC (k _ _ ?_); clear k K) | ((first | refine zU ?_ | refine zV ?_ | refine zW ?_); intro A B C D a b c d; simp only [↓yG, Nat.reduceEqDiff, ↓reduceIte, g25, p0, p2, p4, p5, p6]; (first | refine zX (a ?_) | refine zY (b ?_) | refine zZ (fun hc => c ?_) (fun hc => d ?_)) <;> clear a b c d A B C D <;> try simp only [yL] at hc) | (refine yA ?_; intro A a; simp only [↓yG, Nat.reduceEqDiff, ↓reduceIte, g25, p0, p2, p4, p5, p6]; refine yB (a ?_); clear a A) | (refine yD ?_; simp only [gresults, ↓yG, Nat.reduceEqDiff, ↓reduceIte, Option.bind_some, gld_1, gld_n, g25, p0, p2, p4, p5, p6]; refine ⟨_, rfl, ?_⟩; simp only [gone]))
    refine hJ _ _ ⟨k, by omega, j3, w', out ++ [⟨t, st, y⟩], by omega, by omega, ?_⟩
    simp only [↓yG, Nat.reduceEqDiff, ↓reduceIte, Int.natCast_add, Int.cast_ofNat_Int, Int.natCast_zero, true_and, and_true, Option.some.injEq, Value.int.injEq, p0, p2, p4]
    rw [k1]
    exact ⟨m05, hO5', hL2.symm, by simp; omega, fun x hx => (List.mem_append.1 hx).elim (hg x) fun h => by rw [List.mem_singleton.1 h]; exact ⟨by simp only; omega, hy, hst⟩⟩
end Go.Gh
