/-
  style and its reference, walked: Of, Plain, Len.
-/
import Derived.Test.YtjjcgaompnjbdaaDoorSyN2
namespace Go.Gh
set_option linter.unusedSimpArgs false
set_option linter.unusedVariables false
set_option maxHeartbeats 4000000
open Go.RowKit
set_option maxRecDepth 4000

/-! ### the text -/
def plainF (l : List SR) : List UInt8 := l.flatMap (·.t)
theorem plainF_len (l : List SR) : (plainF l).length = tot l := by
  induction l with
  | nil => rfl
  | cons x l ih =>
    rw [tot_cons, ← ih]
    simp [plainF]
theorem plainF_take {l : List SR} {j : Nat} (h : j < l.length) : plainF (l.take (j + 1)) = plainF (l.take j) ++ l[j]!.t := by
  rw [List.take_succ_eq_append_getElem h, ← getElem!_pos l j h]
  simp [plainF]
theorem plain_ok {H : GHeap} (hw : H.wf) {v : Value} {l : List SR} (hv : RR H v l) (hll : l.length ≤ 16777216) (ht : tot l ≤ 70368744177664) :
    ∃ r H', gev G 47 [rowV v] H = some (r, H') ∧ (r = .string (strB (plainF l)) ∧ Same H H') := by
  refine gev_GW (f := 47) rfl fun Post hPost => ?_
  have hlim := hw.1
  have hf := hv.flat
  have hsl := hv.isSl
  simp only [frameOf, Nat.reduceAdd]
  repeat' (first | refine zn ?_ | refine zK rfl ?_ | refine zP rfl ?_ | ((first | refine zm ?_ | skip); intro _; intros; simp (disch := first | exact zd | fail) only [↓yS, yT, gresults, gone, ↓reduceIte, Nat.reduceEqDiff, Nat.reduceAdd, Nat.reduceMul, reduceCtorEq, Int.reduceToNat, g47, rowV_eq, agg_all, agg_list, hf, hsl.len]; first | (rename_i K k; (first | refine yC (k _ _ ?_) | refine zg (k _ ?_)); clear k K) | (rename_i A B C D a b c d; (first | refine zx (a ?_) | refine zy (b ?_) | refine zz (fun hc => c ?_) (fun hc => d ?_) | refine zv (b ?_) | refine zw (a ?_)) <;> clear a b c d A B C D <;> try simp only [yL] at hc)) | refine zA ?_ | refine zB ?_ | refine zF ?_)
  have hSb : Same H (H.add (some (.cells [v] 0 true))) := (Same.refl hw).add _
  have hself : self (H.len + 1) = .pointer (some ⟨H.len + 1, 0, none⟩) := rfl
  refine GW_loop (fun k fr H1 => ∃ (j : Nat), k = l.length - j ∧ j ≤ l.length ∧ fr.get 3 = some (self (H.len + 1)) ∧ fr.get 7 = some (v) ∧ fr.get 8 = some (.int .i64 l.length) ∧ fr.get 9 = some (.int .i64 j) ∧ Bld (H.add (some (.cells [v] 0 true))) H1 (H.len + 1) (plainF (l.take j))) ?_ l.length ?_
  case refine_2 =>
    refine ⟨0, by omega, by omega, ?_⟩
    simp only [↓yG, Nat.reduceEqDiff, ↓reduceIte, Int.natCast_add, Int.cast_ofNat_Int, Int.natCast_zero, true_and, and_true, Option.some.injEq, Value.int.injEq, hself]
    have := Bld.new hSb.wf
    rw [len_add] at this
    exact this
  rintro k fr H1 ⟨j, rfl, hj, f3, f7, f8, f9, hB⟩ J hJ
  have hw1 := hB.same.wf
  have hlim1 := hw1.1
  have hpl := plainF_len (l.take j)
  have htl := tot_le l j
  have hS := hSb.trans hB.same
  by_cases hj1 : j < l.length
  · have e1 := (hv.later hw hS).rowN hj1
    have htk := tot_take l hj1
    have htl2 := tot_le l (j + 1)
    have hstep := plainF_take hj1
    generalize hx : l[j]! = x at *
    have hS12 : Same H1 ((H1.add (some (.cells [.string ⟨#[]⟩, .int .u8 0, .bool false, .bool false, .string ⟨#[]⟩] 0 true))).put H1.len (.cells (runC x) 0 true)) := (Same.refl hw1).new _ _
    repeat' (first | (exfalso; omega) | refine zn ?_ | refine zK rfl ?_ | refine zP rfl ?_ | ((first | refine zm ?_ | skip); intro _; intros; simp (disch := first | exact zd | fail) only [↓yS, yT, gresults, gone, ↓reduceIte, Nat.reduceEqDiff, Nat.reduceAdd, Nat.reduceMul, reduceCtorEq, Int.reduceToNat, g47, f3, f7, f8, f9, RN, hsl.ia, e1]; first | (rename_i K k; (first | refine yC (k _ _ ?_) | refine zg (k _ ?_)); clear k K) | (rename_i A B C D a b c d; (first | refine zx (a ?_) | refine zy (b ?_) | refine zz (fun hc => c ?_) (fun hc => d ?_) | refine zv (b ?_) | refine zw (a ?_)) <;> clear a b c d A B C D <;> try simp only [yL] at hc)) | refine zA ?_ | refine zB ?_ | refine zF ?_)
    refine Gw_s fun K' hK' => G1_call (by simp only [gtarget, ↓GArg.ev, ↓evs, ↓Tr.get_set, Nat.reduceEqDiff, if_true, if_false, ↓reduceIte, Option.map_some, f3, f7, f8, f9]; rfl) (writeS_ok (hB.later hS12) x.t (by omega)) fun r3 H3 hB3 => hK' _ _ ?_
    repeat' (first | (exfalso; omega) | refine zn ?_ | refine zK rfl ?_ | refine zP rfl ?_ | ((first | refine zm ?_ | skip); intro _; intros; simp (disch := first | exact zd | fail) only [↓yS, yT, gresults, gone, ↓reduceIte, Nat.reduceEqDiff, Nat.reduceAdd, Nat.reduceMul, reduceCtorEq, Int.reduceToNat, g47, f3, f7, f8, f9]; first | (rename_i K k; (first | refine yC (k _ _ ?_) | refine zg (k _ ?_)); clear k K) | (rename_i A B C D a b c d; (first | refine zx (a ?_) | refine zy (b ?_) | refine zz (fun hc => c ?_) (fun hc => d ?_) | refine zv (b ?_) | refine zw (a ?_)) <;> clear a b c d A B C D <;> try simp only [yL] at hc)) | refine zA ?_ | refine zB ?_ | refine zF ?_)
    refine hJ _ _ ⟨l.length - (j + 1), by omega, j + 1, rfl, by omega, ?_⟩
    simp only [↓yG, Nat.reduceEqDiff, ↓reduceIte, Int.natCast_add, Int.cast_ofNat_Int, Int.natCast_zero, true_and, and_true, Option.some.injEq, Value.int.injEq, f3, f7, f8]
    rw [hstep]; exact hB3
  · obtain rfl : j = l.length := by omega
    rw [List.take_length] at hB hpl
    repeat' (first | (exfalso; omega) | refine zn ?_ | refine zK rfl ?_ | refine zP rfl ?_ | ((first | refine zm ?_ | skip); intro _; intros; simp (disch := first | exact zd | fail) only [↓yS, yT, gresults, gone, ↓reduceIte, Nat.reduceEqDiff, Nat.reduceAdd, Nat.reduceMul, reduceCtorEq, Int.reduceToNat, g47, f3, f7, f8, f9]; first | (rename_i K k; (first | refine yC (k _ _ ?_) | refine zg (k _ ?_)); clear k K) | (rename_i A B C D a b c d; (first | refine zx (a ?_) | refine zy (b ?_) | refine zz (fun hc => c ?_) (fun hc => d ?_) | refine zv (b ?_) | refine zw (a ?_)) <;> clear a b c d A B C D <;> try simp only [yL] at hc)) | refine zA ?_ | refine zB ?_ | refine zF ?_)
    refine Gw_s fun K' hK' => G1_call (by simp only [gtarget, ↓GArg.ev, ↓evs, ↓Tr.get_set, Nat.reduceEqDiff, if_true, if_false, ↓reduceIte, Option.map_some, f3, f7, f8, f9]; rfl) (string_ok hB (by omega)) fun r3 H3 hq => hK' _ _ ?_
    obtain ⟨rfl, hS3⟩ := hq
    repeat' (first | (exfalso; omega) | refine zn ?_ | refine zK rfl ?_ | refine zP rfl ?_ | ((first | refine zm ?_ | skip); intro _; intros; simp (disch := first | exact zd | fail) only [↓yS, yT, gresults, gone, ↓reduceIte, Nat.reduceEqDiff, Nat.reduceAdd, Nat.reduceMul, reduceCtorEq, Int.reduceToNat, g47, f3, f7, f8, f9]; first | (rename_i K k; (first | refine yC (k _ _ ?_) | refine zg (k _ ?_)); clear k K) | (rename_i A B C D a b c d; (first | refine zx (a ?_) | refine zy (b ?_) | refine zz (fun hc => c ?_) (fun hc => d ?_) | refine zv (b ?_) | refine zw (a ?_)) <;> clear a b c d A B C D <;> try simp only [yL] at hc)) | refine zA ?_ | refine zB ?_ | refine zF ?_)
    exact hPost _ _ ⟨rfl, hSb.trans hS3⟩
/-! ### the length -/
def cntR (x : SR) : Nat := (rns (strB x.t)).length
def cntL (l : List SR) : Nat := (l.map cntR).sum
def vR (x : SR) : Bool := vldB (strB x.t)
def lenF (l : List SR) : Int := if l.all vR = true then (cntL l : Nat) else -1
theorem cntR_le (x : SR) : cntR x ≤ x.t.length := by
  have := rns_len (strB x.t)
  rw [strB_size] at this
  exact this
theorem cntL_le (l : List SR) : cntL l ≤ tot l := by
  induction l with
  | nil => exact Nat.le_refl _
  | cons x l ih =>
    have := cntR_le x
    rw [tot_cons]
    simp only [cntL, List.map_cons, List.sum_cons] at ih ⊢
    omega
theorem cntL_append (a b : List SR) : cntL (a ++ b) = cntL a + cntL b := by simp [cntL]
theorem cntL_take {l : List SR} {j : Nat} (h : j < l.length) : cntL (l.take (j + 1)) = cntL (l.take j) + cntR l[j]! := by
  rw [List.take_succ_eq_append_getElem h, cntL_append, ← getElem!_pos l j h]
  simp [cntL]
theorem Len_ok {H : GHeap} (hw : H.wf) {v : Value} {l : List SR} (hv : RR H v l) (hll : l.length ≤ 16777216) (ht : tot l ≤ 4398046511104) :
    ∃ r H', gev G 49 [rowV v] H = some (r, H') ∧ (r = .int .i64 (lenF l) ∧ Same H H') := by
  refine gev_GW (f := 49) rfl fun Post hPost => ?_
  have hlim := hw.1
  have hf := hv.flat
  have hsl := hv.isSl
  simp only [frameOf, Nat.reduceAdd]
  repeat' (first | refine zn ?_ | refine zK rfl ?_ | refine zP rfl ?_ | ((first | refine zm ?_ | skip); intro _; intros; simp (disch := first | exact zd | fail) only [↓yS, yT, gresults, gone, ↓reduceIte, Nat.reduceEqDiff, Nat.reduceAdd, Nat.reduceMul, reduceCtorEq, Int.reduceToNat, g49, rowV_eq, agg_all, agg_list, hf, hsl.len]; first | (rename_i K k; (first | refine yC (k _ _ ?_) | refine zg (k _ ?_)); clear k K) | (rename_i A B C D a b c d; (first | refine zx (a ?_) | refine zy (b ?_) | refine zz (fun hc => c ?_) (fun hc => d ?_) | refine zv (b ?_) | refine zw (a ?_)) <;> clear a b c d A B C D <;> try simp only [yL] at hc)) | refine zA ?_ | refine zB ?_ | refine zF ?_)
  have hSb : Same H (H.add (some (.cells [v] 0 true))) := (Same.refl hw).add _
  refine GW_loop (fun k fr H1 => ∃ (j : Nat), k = l.length - j ∧ j ≤ l.length ∧ fr.get 3 = some (.int .i64 (cntL (l.take j))) ∧ fr.get 8 = some (v) ∧ fr.get 9 = some (.int .i64 l.length) ∧ fr.get 10 = some (.int .i64 j) ∧ Same H H1 ∧ (l.take j).all vR = true) ?_ l.length ?_
  case refine_2 =>
    refine ⟨0, by omega, by omega, ?_⟩
    simp only [↓yG, Nat.reduceEqDiff, ↓reduceIte, Int.natCast_add, Int.cast_ofNat_Int, Int.natCast_zero, true_and, and_true, Option.some.injEq, Value.int.injEq]
    exact ⟨rfl, hSb, by simp⟩
  rintro k fr H1 ⟨j, rfl, hj, f3, f8, f9, f10, hS, hall⟩ J hJ
  have hw1 := hS.wf
  have hlim1 := hw1.1
  have htl := tot_le l j
  have hcl := cntL_le (l.take j)
  by_cases hj1 : j < l.length
  · have e1 := (hv.later hw hS).rowN hj1
    have htk := tot_take l hj1
    have htl2 := tot_le l (j + 1)
    have hstep := cntL_take hj1
    have hmem : l[j]! ∈ l := by rw [getElem!_pos l j hj1]; exact List.getElem_mem _
    have hal : ∀ h : vR l[j]! = true, (l.take (j + 1)).all vR = true := fun h => by
      rw [List.take_succ_eq_append_getElem hj1, ← getElem!_pos l j hj1, List.all_append, hall]; simp only [List.all_cons, List.all_nil, h, Bool.and_true, Bool.true_and]
    have hbad : vR l[j]! = false → lenF l = -1 := fun h => by
      rw [lenF, if_neg]
      intro hh
      have := List.all_eq_true.1 hh _ hmem
      rw [h] at this; cases this
    generalize hx : l[j]! = x at *
    have hc1 := cntR_le x
    have hS12 : Same H1 ((H1.add (some (.cells [.string ⟨#[]⟩, .int .u8 0, .bool false, .bool false, .string ⟨#[]⟩] 0 true))).put H1.len (.cells (runC x) 0 true)) := (Same.refl hw1).new _ _
    repeat' (first | (exfalso; omega) | refine zn ?_ | refine zK rfl ?_ | refine zP rfl ?_ | ((first | refine zm ?_ | skip); intro _; intros; simp (disch := first | exact zd | fail) only [↓yS, yT, gresults, gone, ↓reduceIte, Nat.reduceEqDiff, Nat.reduceAdd, Nat.reduceMul, reduceCtorEq, Int.reduceToNat, g49, f3, f8, f9, f10, RN, hsl.ia, e1]; first | (rename_i K k; (first | refine yC (k _ _ ?_) | refine zg (k _ ?_)); clear k K) | (rename_i A B C D a b c d; (first | refine zx (a ?_) | refine zy (b ?_) | refine zz (fun hc => c ?_) (fun hc => d ?_) | refine zv (b ?_) | refine zw (a ?_)) <;> clear a b c d A B C D <;> try simp only [yL] at hc)) | refine zA ?_ | refine zB ?_ | refine zF ?_)
    refine Gw_s fun K' hK' => G1_call (by simp only [gtarget, ↓GArg.ev, ↓evs, ↓Tr.get_set, Nat.reduceEqDiff, if_true, if_false, ↓reduceIte, Option.map_some, f3, f8, f9, f10]; rfl) (one_of (len_ok (s := strB x.t) (by rw [strB_size]; omega) _)) fun r3 H3 hq => hK' _ _ ?_
    obtain ⟨rfl, rfl⟩ := hq
    cases hv2 : vR x with
    | false =>
      have hl : lenN (strB x.t) = -1 := by
        unfold vR at hv2
        rw [lenN_eq, hv2]; rfl
      rw [hl]
      repeat' (first | (exfalso; omega) | refine zn ?_ | refine zK rfl ?_ | refine zP rfl ?_ | ((first | refine zm ?_ | skip); intro _; intros; simp (disch := first | exact zd | fail) only [↓yS, yT, gresults, gone, ↓reduceIte, Nat.reduceEqDiff, Nat.reduceAdd, Nat.reduceMul, reduceCtorEq, Int.reduceToNat, g49, f3, f8, f9, f10]; first | (rename_i K k; (first | refine yC (k _ _ ?_) | refine zg (k _ ?_)); clear k K) | (rename_i A B C D a b c d; (first | refine zx (a ?_) | refine zy (b ?_) | refine zz (fun hc => c ?_) (fun hc => d ?_) | refine zv (b ?_) | refine zw (a ?_)) <;> clear a b c d A B C D <;> try simp only [yL] at hc)) | refine zA ?_ | refine zB ?_ | refine zF ?_)
      exact hPost _ _ ⟨by rw [hbad hv2], hS.trans hS12⟩
    | true =>
      have hl : lenN (strB x.t) = (cntR x : Nat) := by
        unfold vR at hv2
        rw [lenN_eq, hv2]; rfl
      rw [hl]
      repeat' (first | (exfalso; omega) | refine zn ?_ | refine zK rfl ?_ | refine zP rfl ?_ | ((first | refine zm ?_ | skip); intro _; intros; simp (disch := first | exact zd | fail) only [↓yS, yT, gresults, gone, ↓reduceIte, Nat.reduceEqDiff, Nat.reduceAdd, Nat.reduceMul, reduceCtorEq, Int.reduceToNat, g49, f3, f8, f9, f10]; first | (rename_i K k; (first | refine yC (k _ _ ?_) | refine zg (k _ ?_)); clear k K) | (rename_i A B C D a b c d; (first | refine zx (a ?_) | refine zy (b ?_) | refine zz (fun hc => c ?_) (fun hc => d ?_) | refine zv (b ?_) | refine zw (a ?_)) <;> clear a b c d A B C D <;> try simp only [yL] at hc)) | refine zA ?_ | refine zB ?_ | refine zF ?_)
      refine hJ _ _ ⟨l.length - (j + 1), by omega, j + 1, rfl, by omega, ?_⟩
      rw [hstep]
      simp only [↓yG, Nat.reduceEqDiff, ↓reduceIte, Int.natCast_add, Int.cast_ofNat_Int, Int.natCast_zero, true_and, and_true, Option.some.injEq, Value.int.injEq, f8, f9]
      exact ⟨hS.trans hS12, hal hv2⟩
  · obtain rfl : j = l.length := by omega
    rw [List.take_length] at f3 hall
    repeat' (first | (exfalso; omega) | refine zn ?_ | refine zK rfl ?_ | refine zP rfl ?_ | ((first | refine zm ?_ | skip); intro _; intros; simp (disch := first | exact zd | fail) only [↓yS, yT, gresults, gone, ↓reduceIte, Nat.reduceEqDiff, Nat.reduceAdd, Nat.reduceMul, reduceCtorEq, Int.reduceToNat, g49, f3, f8, f9, f10]; first | (rename_i K k; (first | refine yC (k _ _ ?_) | refine zg (k _ ?_)); clear k K) | (rename_i A B C D a b c d; (first | refine zx (a ?_) | refine zy (b ?_) | refine zz (fun hc => c ?_) (fun hc => d ?_) | refine zv (b ?_) | refine zw (a ?_)) <;> clear a b c d A B C D <;> try simp only [yL] at hc)) | refine zA ?_ | refine zB ?_ | refine zF ?_)
    exact hPost _ _ ⟨by rw [lenF, if_pos hall], hS⟩
end Go.Gh
