/-
  glossary, walked: Clashes.
-/
import Derived.Test.YtfldcmeecpgpeaaGreatDoorGlWC
namespace Go.Gh
set_option linter.unusedSimpArgs false
set_option linter.unusedVariables false
set_option maxHeartbeats 4000000
open Go.RowKit Go.Lib
set_option maxRecDepth 4000
theorem indexS_ok {H : GHeap} (hw : H.wf) {v : Value} {A : List (List UInt8)} {fid : Nat} {b : Value} {p : List UInt8 → Bool} (hv : SRd H v A) (hl : A.length ≤ 16777216)
    (hp : ∀ s ∈ A, ∀ H1, Same H H1 → ∃ r H', gev G fid [.string (strB s), b] H1 = some (r, H') ∧ (r = .bool (p s) ∧ Same H1 H')) :
    ∃ r H', gev G 45 [v, .func (.func fid) #[] #[b]] H = some (r, H') ∧ (∃ z : Int, r = .int .i64 z ∧ (decide (0 ≤ z) = A.any p) ∧ -1 ≤ z ∧ Same H H') := by
  refine gev_GW (f := 45) rfl fun Post hPost => ?_
  have hsl := hv.rd.isSl
  simp only [frameOf, Nat.reduceAdd]
  repeat' (first | refine zn ?_ | refine zK rfl ?_ | refine zP rfl ?_ | ((first | refine zm ?_ | skip); intro _; intros; simp (disch := first | exact zd | fail) only [↓yS, yT, gresults, gone, ↓reduceIte, Nat.reduceEqDiff, Nat.reduceAdd, Nat.reduceMul, reduceCtorEq, Int.reduceToNat, g45, hsl.len]; first | (rename_i K k; (first | refine yC (k _ _ ?_) | refine zg (k _ ?_)); clear k K) | (rename_i A B C D a b c d; (first | refine zx (a ?_) | refine zy (b ?_) | refine zz (fun hc => c ?_) (fun hc => d ?_) | refine zv (b ?_) | refine zw (a ?_)) <;> clear a b c d A B C D <;> try simp only [yL] at hc)) | refine zA ?_ | refine zB ?_ | refine zF ?_)
  refine GW_loop (fun k fr H1 => ∃ (j : Nat), k = A.length - j ∧ j ≤ A.length ∧ fr.get 0 = some (v) ∧ fr.get 1 = some (.func (.func fid) #[] #[b]) ∧ fr.get 7 = some (.int .i64 A.length) ∧ fr.get 8 = some (.int .i64 j) ∧ Same H H1 ∧ A.any p = (A.drop j).any p) ?_ A.length ?_
  rotate_left
  · refine ⟨0, by omega, by omega, ?_⟩
    simp only [↓yG, Nat.reduceEqDiff, ↓reduceIte, Int.natCast_add, Int.cast_ofNat_Int, Int.natCast_zero, true_and, and_true, Option.some.injEq, Value.int.injEq]
    exact ⟨Same.refl hw, by simp⟩
  rintro k fr H1 ⟨j, rfl, hj, f0, f1, f7, f8, hS, han⟩ J hJ
  by_cases hj1 : j < A.length
  · have e1 := SRd.at_ (GArg1.same hv hw hS) hj1
    have hm := hp _ (bang_mem hj1) H1 hS
    have hd : A.drop j = A[j]! :: A.drop (j + 1) := by rw [List.drop_eq_getElem_cons hj1, getElem!_pos A j hj1]
    have han2 : A.any p = (p A[j]! || (A.drop (j + 1)).any p) := by rw [han, hd]; rfl
    generalize A[j]! = s at *
    repeat' (first | (exfalso; omega) | refine zn ?_ | refine zK rfl ?_ | refine zP rfl ?_ | ((first | refine zm ?_ | skip); intro _; intros; simp (disch := first | exact zd | fail) only [↓yS, yT, gresults, gone, ↓reduceIte, Nat.reduceEqDiff, Nat.reduceAdd, Nat.reduceMul, reduceCtorEq, Int.reduceToNat, g45, f0, f1, f7, f8, hsl.ia, e1]; first | (rename_i K k; (first | refine yC (k _ _ ?_) | refine zg (k _ ?_)); clear k K) | (rename_i A B C D a b c d; (first | refine zx (a ?_) | refine zy (b ?_) | refine zz (fun hc => c ?_) (fun hc => d ?_) | refine zv (b ?_) | refine zw (a ?_)) <;> clear a b c d A B C D <;> try simp only [yL] at hc)) | refine zA ?_ | refine zB ?_ | refine zF ?_)
    refine Gw_s fun K' hK' => G1_call (by simp only [gtarget, ↓GArg.ev, ↓evs, ↓Tr.get_set, Nat.reduceEqDiff, if_true, if_false, ↓reduceIte, Option.map_some, f0, f1, f7, f8]; rfl) hm fun r9 H9 hq => hK' _ _ ?_
    obtain ⟨rfl, hS9⟩ := hq
    cases hc : p s with
    | true =>
      rw [hc, Bool.true_or] at han2
      repeat' (first | (exfalso; omega) | refine zn ?_ | refine zK rfl ?_ | refine zP rfl ?_ | ((first | refine zm ?_ | skip); intro _; intros; simp (disch := first | exact zd | fail) only [↓yS, yT, gresults, gone, ↓reduceIte, Nat.reduceEqDiff, Nat.reduceAdd, Nat.reduceMul, reduceCtorEq, Int.reduceToNat, g45, f0, f1, f7, f8]; first | (rename_i K k; (first | refine yC (k _ _ ?_) | refine zg (k _ ?_)); clear k K) | (rename_i A B C D a b c d; (first | refine zx (a ?_) | refine zy (b ?_) | refine zz (fun hc => c ?_) (fun hc => d ?_) | refine zv (b ?_) | refine zw (a ?_)) <;> clear a b c d A B C D <;> try simp only [yL] at hc)) | refine zA ?_ | refine zB ?_ | refine zF ?_)
      exact hPost _ _ ⟨(j : Int), rfl, by rw [han2]; simp, by omega, hS.trans hS9⟩
    | false =>
      rw [hc, Bool.false_or] at han2
      repeat' (first | (exfalso; omega) | refine zn ?_ | refine zK rfl ?_ | refine zP rfl ?_ | ((first | refine zm ?_ | skip); intro _; intros; simp (disch := first | exact zd | fail) only [↓yS, yT, gresults, gone, ↓reduceIte, Nat.reduceEqDiff, Nat.reduceAdd, Nat.reduceMul, reduceCtorEq, Int.reduceToNat, g45, f0, f1, f7, f8]; first | (rename_i K k; (first | refine yC (k _ _ ?_) | refine zg (k _ ?_)); clear k K) | (rename_i A B C D a b c d; (first | refine zx (a ?_) | refine zy (b ?_) | refine zz (fun hc => c ?_) (fun hc => d ?_) | refine zv (b ?_) | refine zw (a ?_)) <;> clear a b c d A B C D <;> try simp only [yL] at hc)) | refine zA ?_ | refine zB ?_ | refine zF ?_)
      refine hJ _ _ ⟨A.length - (j + 1), by omega, j + 1, rfl, by omega, ?_⟩
      simp only [↓yG, Nat.reduceEqDiff, ↓reduceIte, Int.natCast_add, Int.cast_ofNat_Int, Int.natCast_zero, true_and, and_true, Option.some.injEq, Value.int.injEq, f0, f1, f7]
      exact ⟨hS.trans hS9, han2⟩
  · obtain rfl : j = A.length := by omega
    rw [List.drop_length] at han
    repeat' (first | (exfalso; omega) | refine zn ?_ | refine zK rfl ?_ | refine zP rfl ?_ | ((first | refine zm ?_ | skip); intro _; intros; simp (disch := first | exact zd | fail) only [↓yS, yT, gresults, gone, ↓reduceIte, Nat.reduceEqDiff, Nat.reduceAdd, Nat.reduceMul, reduceCtorEq, Int.reduceToNat, g45, f0, f1, f7, f8]; first | (rename_i K k; (first | refine yC (k _ _ ?_) | refine zg (k _ ?_)); clear k K) | (rename_i A B C D a b c d; (first | refine zx (a ?_) | refine zy (b ?_) | refine zz (fun hc => c ?_) (fun hc => d ?_) | refine zv (b ?_) | refine zw (a ?_)) <;> clear a b c d A B C D <;> try simp only [yL] at hc)) | refine zA ?_ | refine zB ?_ | refine zF ?_)
    exact hPost _ _ ⟨-1, rfl, by rw [han]; rfl, by omega, hS⟩
theorem containsS_ok {H : GHeap} (hw : H.wf) {v : Value} {A : List (List UInt8)} {fid : Nat} {b : Value} {p : List UInt8 → Bool} (hv : SRd H v A) (hl : A.length ≤ 16777216)
    (hp : ∀ s ∈ A, ∀ H1, Same H H1 → ∃ r H', gev G fid [.string (strB s), b] H1 = some (r, H') ∧ (r = .bool (p s) ∧ Same H1 H')) :
    ∃ r H', gev G 22 [v, .func (.func fid) #[] #[b]] H = some (r, H') ∧ (r = .bool (A.any p) ∧ Same H H') := by
  refine gev_GW (f := 22) rfl fun Post hPost => ?_
  simp only [frameOf, Nat.reduceAdd]
  repeat' (first | refine zn ?_ | refine zK rfl ?_ | refine zP rfl ?_ | ((first | refine zm ?_ | skip); intro _; intros; simp (disch := first | exact zd | fail) only [↓yS, yT, gresults, gone, ↓reduceIte, Nat.reduceEqDiff, Nat.reduceAdd, Nat.reduceMul, reduceCtorEq, Int.reduceToNat, g22]; first | (rename_i K k; (first | refine yC (k _ _ ?_) | refine zg (k _ ?_)); clear k K) | (rename_i A B C D a b c d; (first | refine zx (a ?_) | refine zy (b ?_) | refine zz (fun hc => c ?_) (fun hc => d ?_) | refine zv (b ?_) | refine zw (a ?_)) <;> clear a b c d A B C D <;> try simp only [yL] at hc)) | refine zA ?_ | refine zB ?_ | refine zF ?_)
  refine Gw_s fun K' hK' => G1_call (by simp only [gtarget, ↓GArg.ev, ↓evs, ↓Tr.get_set, Nat.reduceEqDiff, if_true, if_false, ↓reduceIte, Option.map_some]; rfl) (indexS_ok hw hv hl hp) fun r1 H1 hq => hK' _ _ ?_
  obtain ⟨z, rfl, hz, hz1, hS⟩ := hq
  repeat' (first | refine zn ?_ | refine zK rfl ?_ | refine zP rfl ?_ | ((first | refine zm ?_ | skip); intro _; intros; simp (disch := first | exact zd | fail) only [↓yS, yT, gresults, gone, ↓reduceIte, Nat.reduceEqDiff, Nat.reduceAdd, Nat.reduceMul, reduceCtorEq, Int.reduceToNat, g22]; first | (rename_i K k; (first | refine yC (k _ _ ?_) | refine zg (k _ ?_)); clear k K) | (rename_i A B C D a b c d; (first | refine zx (a ?_) | refine zy (b ?_) | refine zz (fun hc => c ?_) (fun hc => d ?_) | refine zv (b ?_) | refine zw (a ?_)) <;> clear a b c d A B C D <;> try simp only [yL] at hc)) | refine zA ?_ | refine zB ?_ | refine zF ?_)
  rw [hz]
  exact hPost _ _ ⟨rfl, hS⟩
def comF (A B : List (List UInt8)) : Bool := A.any fun s => B.any fun x => alkB x s
def claP (l : List Tm) (i j : Nat) : Bool := decide (¬ i = j) && conB l[j]!.s l[i]!.s && !comF l[i]!.g l[j]!.g
def claR (l : List Tm) (i n : Nat) : List (Nat × Nat) := ((List.range n).filter (claP l i)).map fun j => (i, j)
def claF (l : List Tm) (n : Nat) : List (Nat × Nat) := (List.range n).flatMap fun i => claR l i l.length
def prC (x : Nat × Nat) : List Value := [.int .i64 x.1, .int .i64 x.2]
def PrC (l : List (Nat × Nat)) : List Value := l.flatMap prC
theorem prC_len (x : Nat × Nat) : (prC x).length = 2 := rfl
theorem PrC_snoc (l : List (Nat × Nat)) (x : Nat × Nat) : PrC (l ++ [x]) = PrC l ++ prC x := by simp [PrC]
theorem claR_succ (l : List Tm) (i n : Nat) : claR l i (n + 1) = if claP l i n = true then claR l i n ++ [(i, n)] else claR l i n := by
  unfold claR
  rw [List.range_succ, filter_snoc]
  split <;> simp
theorem claR_len (l : List Tm) (i n : Nat) : (claR l i n).length ≤ n := by
  unfold claR
  have := List.length_filter_le (claP l i) (List.range n)
  simpa using this
theorem claF_succ (l : List Tm) (n : Nat) : claF l (n + 1) = claF l n ++ claR l n l.length := by
  unfold claF
  rw [List.range_succ, List.flatMap_append]; simp
theorem claF_len (l : List Tm) : ∀ n, (claF l n).length ≤ n * l.length
  | 0 => by simp [claF]
  | n + 1 => by
    have h1 := claF_len l n
    have h2 := claR_len l n l.length
    rw [claF_succ, List.length_append, Nat.add_mul, Nat.one_mul]; omega
theorem cla_small {l : List Tm} (hl : l.length ≤ 1048576) {i j : Nat} (hi : i < l.length) (hj : j ≤ l.length) : (claF l i ++ claR l i j).length ≤ 1099511627776 := by
  have h1 := claF_len l i
  have h2 := claR_len l i j
  have h3 : (i + 1) * l.length ≤ 1048576 * 1048576 := Nat.mul_le_mul (by omega) hl
  rw [Nat.add_mul, Nat.one_mul] at h3
  rw [List.length_append]; omega
theorem closC_ok {H : GHeap} (hw : H.wf) {b : Nat} {y : Tm} {s : List UInt8} (hb : H.rd b 1 = some y.v) (hy : SRd H y.v y.g) (hyl : y.g.length ≤ 16777216) (hyt : ∀ t ∈ y.g, t.length ≤ 16777216) (hs : s.length ≤ 16777216) :
    ∃ r H', gev G 23 [.string (strB s), .pointer (some ⟨b, 0, none⟩)] H = some (r, H') ∧ (r = .bool (y.g.any fun x => alkB x s) ∧ Same H H') := by
  refine gev_GW (f := 23) rfl fun Post hPost => ?_
  simp only [frameOf, Nat.reduceAdd]
  repeat' (first | refine zn ?_ | refine zK rfl ?_ | refine zP rfl ?_ | ((first | refine zm ?_ | skip); intro _; intros; simp (disch := first | exact zd | fail) only [↓yS, yT, gresults, gone, ↓reduceIte, Nat.reduceEqDiff, Nat.reduceAdd, Nat.reduceMul, reduceCtorEq, Int.reduceToNat, g23, hb]; first | (rename_i K k; (first | refine yC (k _ _ ?_) | refine zg (k _ ?_)); clear k K) | (rename_i A B C D a b c d; (first | refine zx (a ?_) | refine zy (b ?_) | refine zz (fun hc => c ?_) (fun hc => d ?_) | refine zv (b ?_) | refine zw (a ?_)) <;> clear a b c d A B C D <;> try simp only [yL] at hc)) | refine zA ?_ | refine zB ?_ | refine zF ?_)
  refine Gw_s fun K' hK' => G1_call (by simp only [gtarget, ↓GArg.ev, ↓evs, ↓Tr.get_set, Nat.reduceEqDiff, if_true, if_false, ↓reduceIte, Option.map_some]; rfl) (like_ok hw hy hyl hyt hs) fun r1 H1 hq => hK' _ _ ?_
  obtain ⟨rfl, hS⟩ := hq
  repeat' (first | refine zn ?_ | refine zK rfl ?_ | refine zP rfl ?_ | ((first | refine zm ?_ | skip); intro _; intros; simp (disch := first | exact zd | fail) only [↓yS, yT, gresults, gone, ↓reduceIte, Nat.reduceEqDiff, Nat.reduceAdd, Nat.reduceMul, reduceCtorEq, Int.reduceToNat, g23]; first | (rename_i K k; (first | refine yC (k _ _ ?_) | refine zg (k _ ?_)); clear k K) | (rename_i A B C D a b c d; (first | refine zx (a ?_) | refine zy (b ?_) | refine zz (fun hc => c ?_) (fun hc => d ?_) | refine zv (b ?_) | refine zw (a ?_)) <;> clear a b c d A B C D <;> try simp only [yL] at hc)) | refine zA ?_ | refine zB ?_ | refine zF ?_)
  exact hPost _ _ ⟨rfl, hS⟩
set_option maxHeartbeats 2000000 in
theorem Clashes_ok {H : GHeap} (hw : H.wf) {v : Value} {l : List Tm} (hv : TR H v l) (hl : l.length ≤ 1048576) :
    ∃ r H', gev G 7 [v] H = some (r, H') ∧ OS 2 2 H H' r (claF l l.length).length (PrC (claF l l.length)) := by
  refine gev_GW (f := 7) rfl fun Post hPost => ?_
  have hsl := hv.isSl
  simp only [frameOf, Nat.reduceAdd]
  repeat' (first | (exfalso; omega) | refine zn ?_ | refine zK rfl ?_ | refine zP rfl ?_ | ((first | refine zm ?_ | skip); intro _; intros; simp (disch := first | exact zd | fail) only [↓yS, yT, gresults, gone, ↓reduceIte, Nat.reduceEqDiff, Nat.reduceAdd, Nat.reduceMul, reduceCtorEq, Int.reduceToNat, g7, hsl.len]; first | (rename_i K k; (first | refine yC (k _ _ ?_) | refine zg (k _ ?_)); clear k K) | (rename_i A B C D a b c d; (first | refine zx (a ?_) | refine zy (b ?_) | refine zz (fun hc => c ?_) (fun hc => d ?_) | refine zv (b ?_) | refine zw (a ?_)) <;> clear a b c d A B C D <;> try simp only [yL] at hc)) | refine zA ?_ | refine zB ?_ | refine zF ?_)
  refine GW_loop (fun k fr H1 => ∃ (i : Nat) (ov : Value), k = l.length - i ∧ i ≤ l.length ∧ fr.get 0 = some (v) ∧ fr.get 3 = some (ov) ∧ fr.get 8 = some (v) ∧ fr.get 9 = some (.int .i64 l.length) ∧ fr.get 10 = some (.int .i64 i) ∧ OS 2 2 H H1 ov (claF l i).length (PrC (claF l i))) ?_ l.length ?_
  rotate_left
  · refine ⟨0, .slice none 0 0, by omega, by omega, ?_⟩
    simp only [↓yG, Nat.reduceEqDiff, ↓reduceIte, Int.natCast_add, Int.cast_ofNat_Int, Int.natCast_zero, true_and, and_true, Option.some.injEq, Value.int.injEq]
    exact OS.nil (Same.refl hw)
  rintro k fr H1 ⟨i, ov, rfl, hi, f0, f3, f8, f9, f10, hO⟩ J hJ
  have hS1 := hO.same
  have hw1 := hS1.wf
  have hlim1 := hw1.1
  by_cases hi1 : i < l.length
  case neg =>
    obtain rfl : i = l.length := by omega
    repeat' (first | (exfalso; omega) | refine zn ?_ | refine zK rfl ?_ | refine zP rfl ?_ | ((first | refine zm ?_ | skip); intro _; intros; simp (disch := first | exact zd | fail) only [↓yS, yT, gresults, gone, ↓reduceIte, Nat.reduceEqDiff, Nat.reduceAdd, Nat.reduceMul, reduceCtorEq, Int.reduceToNat, g7, f0, f3, f8, f9, f10]; first | (rename_i K k; (first | refine yC (k _ _ ?_) | refine zg (k _ ?_)); clear k K) | (rename_i A B C D a b c d; (first | refine zx (a ?_) | refine zy (b ?_) | refine zz (fun hc => c ?_) (fun hc => d ?_) | refine zv (b ?_) | refine zw (a ?_)) <;> clear a b c d A B C D <;> try simp only [yL] at hc)) | refine zA ?_ | refine zB ?_ | refine zF ?_)
    exact hPost _ _ hO
  have hv1 := hv.later hw hS1
  have e1 := hv1.rowN hi1
  have hxm := bang_mem hi1
  have htg := hv1.tg _ hxm
  have htg0 := hv.tg _ hxm
  have hxz := hv.sz _ hxm
  have hcs := claF_succ l i
  have hsm := fun j hj => cla_small hl (i := i) (j := j) hi1 hj
  have hcR := claR_succ l i
  have hP : ∀ j, claP l i j = (decide (¬ i = j) && conB l[j]!.s l[i]!.s && !comF l[i]!.g l[j]!.g) := fun j => rfl
  generalize l[i]! = x at *
  unfold tmV at e1
  have hgt := gsetn_tm (cs := [.string ⟨#[]⟩, .slice none 0 0]) (x := x) rfl htg.flat
  unfold tmV at hgt
  have hSA : Same H1 ((H1.add (some (.cells [.string ⟨#[]⟩, .slice none 0 0] 0 true))).put H1.len (.cells (tmC x) 0 true)) := (Same.refl hw1).new _ _
  have hm5 : ((H1.add (some (.cells [.string ⟨#[]⟩, .slice none 0 0] 0 true))).put H1.len (.cells (tmC x) 0 true)).mine H1.len = some (tmC x, 0) := mine_put_same (by simp only [lim_add]; omega)
  have hO1 := hO.later hSA
  repeat' (first | (exfalso; omega) | refine zn ?_ | refine zK rfl ?_ | refine zP rfl ?_ | ((first | refine zm ?_ | skip); intro _; intros; simp (disch := first | exact zd | fail) only [↓yS, yT, gresults, gone, ↓reduceIte, Nat.reduceEqDiff, Nat.reduceAdd, Nat.reduceMul, reduceCtorEq, Int.reduceToNat, g7, f0, f3, f8, f9, f10, hsl.ia, e1, hgt, hsl.len]; first | (rename_i K k; (first | refine yC (k _ _ ?_) | refine zg (k _ ?_)); clear k K) | (rename_i A B C D a b c d; (first | refine zx (a ?_) | refine zy (b ?_) | refine zz (fun hc => c ?_) (fun hc => d ?_) | refine zv (b ?_) | refine zw (a ?_)) <;> clear a b c d A B C D <;> try simp only [yL] at hc)) | refine zA ?_ | refine zB ?_ | refine zF ?_)
  generalize ((H1.add (some (.cells [.string ⟨#[]⟩, .slice none 0 0] 0 true))).put H1.len (.cells (tmC x) 0 true)) = H2 at *
  generalize H1.len = a5 at *
  have hR0 : claR l i 0 = [] := rfl
  refine GW_loop (fun k fr H3 => ∃ (j : Nat) (ow : Value), k = l.length - j ∧ j ≤ l.length ∧ fr.get 0 = some (v) ∧ fr.get 3 = some (ow) ∧ fr.get 4 = some (.int .i64 i) ∧ fr.get 5 = some (.pointer (some ⟨a5, 0, none⟩)) ∧ fr.get 8 = some (v) ∧ fr.get 9 = some (.int .i64 l.length) ∧ fr.get 10 = some (.int .i64 i) ∧ fr.get 15 = some (v) ∧ fr.get 16 = some (.int .i64 l.length) ∧ fr.get 17 = some (.int .i64 j) ∧ OS 2 2 H H3 ow (claF l i ++ claR l i j).length (PrC (claF l i ++ claR l i j)) ∧ H3.mine a5 = some (tmC x, 0)) ?_ l.length ?_
  rotate_left
  · refine ⟨0, ov, by omega, by omega, ?_⟩
    simp only [↓yG, Nat.reduceEqDiff, ↓reduceIte, Int.natCast_add, Int.cast_ofNat_Int, Int.natCast_zero, true_and, and_true, Option.some.injEq, Value.int.injEq, f0, f3, f8, f9, f10]
    rw [hR0, List.append_nil]
    exact ⟨hO1, hm5⟩
  rintro k fr H3 ⟨j, ow, rfl, hj, i0, i3, i4, i5, i8, i9, i10, i15, i16, i17, hO3, hm3⟩ J2 hJ2
  have hS3 := hO3.same
  have hw3 := hS3.wf
  have hlim3 := hw3.1
  by_cases hj1 : j < l.length
  case neg =>
    obtain rfl : j = l.length := by omega
    rw [← hcs] at hO3
    repeat' (first | (exfalso; omega) | refine zn ?_ | refine zK rfl ?_ | refine zP rfl ?_ | ((first | refine zm ?_ | skip); intro _; intros; simp (disch := first | exact zd | fail) only [↓yS, yT, gresults, gone, ↓reduceIte, Nat.reduceEqDiff, Nat.reduceAdd, Nat.reduceMul, reduceCtorEq, Int.reduceToNat, g7, i0, i3, i4, i5, i8, i9, i10, i15, i16, i17]; first | (rename_i K k; (first | refine yC (k _ _ ?_) | refine zg (k _ ?_)); clear k K) | (rename_i A B C D a b c d; (first | refine zx (a ?_) | refine zy (b ?_) | refine zz (fun hc => c ?_) (fun hc => d ?_) | refine zv (b ?_) | refine zw (a ?_)) <;> clear a b c d A B C D <;> try simp only [yL] at hc)) | refine zA ?_ | refine zB ?_ | refine zF ?_)
    refine hJ _ _ ⟨l.length - (i + 1), by omega, i + 1, ow, rfl, by omega, ?_⟩
    simp only [↓yG, Nat.reduceEqDiff, ↓reduceIte, Int.natCast_add, Int.cast_ofNat_Int, Int.natCast_zero, true_and, and_true, Option.some.injEq, Value.int.injEq, i0, i3, i4, i5, i8, i9, i10, i15, i16, i17]
    exact hO3
  have hv3 := hv.later hw hS3
  have e3 := hv3.rowN hj1
  have hym := bang_mem hj1
  have htg3 := hv3.tg _ hym
  have htg30 := hv.tg _ hym
  have hyz := hv.sz _ hym
  have hcj := hcR j
  rw [hP j] at hcj
  have hsmj := hsm j hj
  generalize l[j]! = y at *
  unfold tmV at e3
  have hgy := gsetn_tm (cs := [.string ⟨#[]⟩, .slice none 0 0]) (x := y) rfl htg3.flat
  unfold tmV at hgy
  have hSB : Same H3 ((H3.add (some (.cells [.string ⟨#[]⟩, .slice none 0 0] 0 true))).put H3.len (.cells (tmC y) 0 true)) := (Same.refl hw3).new _ _
  have hm7 : ((H3.add (some (.cells [.string ⟨#[]⟩, .slice none 0 0] 0 true))).put H3.len (.cells (tmC y) 0 true)).mine H3.len = some (tmC y, 0) := mine_put_same (by simp only [lim_add]; omega)
  have hm5B : ((H3.add (some (.cells [.string ⟨#[]⟩, .slice none 0 0] 0 true))).put H3.len (.cells (tmC y) 0 true)).mine a5 = some (tmC x, 0) := by rw [hSB.mine (mine_lt hw3 hm3)]; exact hm3
  have td0 : ∀ z : Tm, (tmC z)[0]? = some (.string (strB z.s)) := fun _ => rfl
  have td1 : ∀ z : Tm, (tmC z)[1]? = some z.v := fun _ => rfl
  have hO4 := hO3.later hSB
  have hgo : ∀ (ow' : Value) fr H9, fr.get 0 = some v → fr.get 3 = some ow' → fr.get 4 = some (.int .i64 i) → fr.get 5 = some (.pointer (some ⟨a5, 0, none⟩)) → fr.get 8 = some v → fr.get 9 = some (.int .i64 l.length) → fr.get 10 = some (.int .i64 i) → fr.get 15 = some v → fr.get 16 = some (.int .i64 l.length) → fr.get 17 = some (.int .i64 ((j : Int) + 1)) → OS 2 2 H H9 ow' (claF l i ++ claR l i (j + 1)).length (PrC (claF l i ++ claR l i (j + 1))) → H9.mine a5 = some (tmC x, 0) → J2 fr H9 := fun ow' fr H9 a1 a2 a3 a4 a5 a6 a7 a8 a9 a10 a11 a12 => hJ2 _ _ ⟨l.length - (j + 1), by omega, j + 1, ow', rfl, by omega, a1, a2, a3, a4, a5, a6, a7, a8, a9, by rw [a10]; rfl, a11, a12⟩
  clear hJ2
  have h5lt : a5 < H3.len := mine_lt hw3 hm3
  have hr50 : ((H3.add (some (.cells [.string ⟨#[]⟩, .slice none 0 0] 0 true))).put H3.len (.cells (tmC y) 0 true)).rd a5 0 = some (.string (strB x.s)) := mine_rd hm5B
  have hr51 : ((H3.add (some (.cells [.string ⟨#[]⟩, .slice none 0 0] 0 true))).put H3.len (.cells (tmC y) 0 true)).rd a5 1 = some x.v := mine_rd hm5B
  have hr70 : ((H3.add (some (.cells [.string ⟨#[]⟩, .slice none 0 0] 0 true))).put H3.len (.cells (tmC y) 0 true)).rd H3.len 0 = some (.string (strB y.s)) := mine_rd hm7
  have hr71 : ((H3.add (some (.cells [.string ⟨#[]⟩, .slice none 0 0] 0 true))).put H3.len (.cells (tmC y) 0 true)).rd H3.len 1 = some y.v := mine_rd hm7
  by_cases hij : i = j
  · rw [decide_eq_false (fun h => h hij), Bool.false_and, Bool.false_and, if_neg (by decide)] at hcj
    have hij' : (i : Int) = j := by omega
    repeat' (first | (exfalso; omega) | refine zn ?_ | refine zK rfl ?_ | refine zP rfl ?_ | ((first | refine zm ?_ | skip); intro _; intros; simp (disch := first | exact zd | fail) only [↓yS, yT, gresults, gone, ↓reduceIte, Nat.reduceEqDiff, Nat.reduceAdd, Nat.reduceMul, reduceCtorEq, Int.reduceToNat, g7, i0, i3, i4, i5, i8, i9, i10, i15, i16, i17, hsl.ia, e3, hgy]; first | (rename_i K k; (first | refine yC (k _ _ ?_) | refine zg (k _ ?_)); clear k K) | (rename_i A B C D a b c d; (first | refine zx (a ?_) | refine zy (b ?_) | refine zz (fun hc => c ?_) (fun hc => d ?_) | refine zv (b ?_) | refine zw (a ?_)) <;> clear a b c d A B C D <;> try simp only [yL] at hc)) | refine zA ?_ | refine zB ?_ | refine zF ?_)
    refine hgo ow _ _ ?_ ?_ ?_ ?_ ?_ ?_ ?_ ?_ ?_ ?_ (by rw [hcj]; exact hO4) hm5B
    all_goals (simp only [↓yG, Nat.reduceEqDiff, ↓reduceIte, Int.natCast_add, Int.cast_ofNat_Int, Int.natCast_zero, true_and, and_true, Option.some.injEq, Value.int.injEq, i0, i3, i4, i5, i8, i9, i10, i15, i16, i17])
  rw [decide_eq_true hij, Bool.true_and] at hcj
  have hij' : ¬ (i : Int) = j := by omega
  repeat' (first | (exfalso; omega) | refine zn ?_ | refine zK rfl ?_ | refine zP rfl ?_ | ((first | refine zm ?_ | skip); intro _; intros; simp (disch := first | exact zd | fail) only [↓yS, yT, gresults, gone, ↓reduceIte, Nat.reduceEqDiff, Nat.reduceAdd, Nat.reduceMul, reduceCtorEq, Int.reduceToNat, g7, i0, i3, i4, i5, i8, i9, i10, i15, i16, i17, hsl.ia, e3, hgy, hr50, hr70]; first | (rename_i K k; (first | refine yC (k _ _ ?_) | refine zg (k _ ?_)); clear k K) | (rename_i A B C D a b c d; (first | refine zx (a ?_) | refine zy (b ?_) | refine zz (fun hc => c ?_) (fun hc => d ?_) | refine zv (b ?_) | refine zw (a ?_)) <;> clear a b c d A B C D <;> try simp only [yL] at hc)) | refine zA ?_ | refine zB ?_ | refine zF ?_)
  intro K' hK'; refine G1_call (by simp only [gtarget, ↓GArg.ev, ↓evs, ↓Tr.get_set, Nat.reduceEqDiff, if_true, if_false, ↓reduceIte, Option.map_some, i0, i3, i4, i5, i8, i9, i10, i15, i16, i17, hr50, hr70]; rfl) (one_of (Contains_ok (x := y.s) (t := x.s) (by omega) (by omega) _)) fun r4 H4 hq => hK' _ _ ?_
  obtain ⟨rfl, rfl⟩ := hq
  cases hcon : conB y.s x.s with
  | false =>
    rw [hcon, Bool.false_and, if_neg (by decide)] at hcj
    repeat' (first | (exfalso; omega) | refine zn ?_ | refine zK rfl ?_ | refine zP rfl ?_ | ((first | refine zm ?_ | skip); intro _; intros; simp (disch := first | exact zd | fail) only [↓yS, yT, gresults, gone, ↓reduceIte, Nat.reduceEqDiff, Nat.reduceAdd, Nat.reduceMul, reduceCtorEq, Int.reduceToNat, g7, i0, i3, i4, i5, i8, i9, i10, i15, i16, i17]; first | (rename_i K k; (first | refine yC (k _ _ ?_) | refine zg (k _ ?_)); clear k K) | (rename_i A B C D a b c d; (first | refine zx (a ?_) | refine zy (b ?_) | refine zz (fun hc => c ?_) (fun hc => d ?_) | refine zv (b ?_) | refine zw (a ?_)) <;> clear a b c d A B C D <;> try simp only [yL] at hc)) | refine zA ?_ | refine zB ?_ | refine zF ?_)
    refine hgo ow _ _ ?_ ?_ ?_ ?_ ?_ ?_ ?_ ?_ ?_ ?_ (by rw [hcj]; exact hO4) hm5B
    all_goals (simp only [↓yG, Nat.reduceEqDiff, ↓reduceIte, Int.natCast_add, Int.cast_ofNat_Int, Int.natCast_zero, true_and, and_true, Option.some.injEq, Value.int.injEq, i0, i3, i4, i5, i8, i9, i10, i15, i16, i17])
  | true =>
  rw [hcon, Bool.true_and] at hcj
  have hSH := hO4.same
  generalize ((H3.add (some (.cells [.string ⟨#[]⟩, .slice none 0 0] 0 true))).put H3.len (.cells (tmC y) 0 true)) = HB at *
  have hwB := hSB.wf
  have h7lt : H3.len < HB.len := mine_lt hwB hm7
  generalize H3.len = a7 at *
  repeat' (first | (exfalso; omega) | refine zn ?_ | refine zK rfl ?_ | refine zP rfl ?_ | ((first | refine zm ?_ | skip); intro _; intros; simp (disch := first | exact zd | fail) only [↓yS, yT, gresults, gone, ↓reduceIte, Nat.reduceEqDiff, Nat.reduceAdd, Nat.reduceMul, reduceCtorEq, Int.reduceToNat, g7, i0, i3, i4, i5, i8, i9, i10, i15, i16, i17, hr51]; first | (rename_i K k; (first | refine yC (k _ _ ?_) | refine zg (k _ ?_)); clear k K) | (rename_i A B C D a b c d; (first | refine zx (a ?_) | refine zy (b ?_) | refine zz (fun hc => c ?_) (fun hc => d ?_) | refine zv (b ?_) | refine zw (a ?_)) <;> clear a b c d A B C D <;> try simp only [yL] at hc)) | refine zA ?_ | refine zB ?_ | refine zF ?_)
  intro K' hK'; refine G1_call (by simp only [gtarget, ↓GArg.ev, ↓evs, ↓Tr.get_set, Nat.reduceEqDiff, if_true, if_false, ↓reduceIte, Option.map_some, i0, i3, i4, i5, i8, i9, i10, i15, i16, i17, hr51]; rfl) (containsS_ok hwB (GArg1.same htg0 hw hSH) hxz.2.1 (p := fun s => y.g.any fun z => alkB z s) (fun s hs H' hS' => closC_ok hS'.wf (b := a7) (y := y) (by rw [hS'.rd h7lt]; exact hr71) (GArg1.same htg30 hw (hSH.trans hS')) hyz.2.1 hyz.2.2 (hxz.2.2 s hs))) fun r9 H9 hq => hK' _ _ ?_
  obtain ⟨rfl, hS9⟩ := hq
  have hcm : (x.g.any fun s => y.g.any fun z => alkB z s) = comF x.g y.g := rfl
  rw [hcm]
  have hO9 := hO4.later hS9
  have hm9 : H9.mine a5 = some (tmC x, 0) := by rw [hS9.mine (mine_lt hwB hm5B)]; exact hm5B
  cases hco : comF x.g y.g with
  | true =>
    rw [hco, Bool.not_true, if_neg (by decide)] at hcj
    repeat' (first | (exfalso; omega) | refine zn ?_ | refine zK rfl ?_ | refine zP rfl ?_ | ((first | refine zm ?_ | skip); intro _; intros; simp (disch := first | exact zd | fail) only [↓yS, yT, gresults, gone, ↓reduceIte, Nat.reduceEqDiff, Nat.reduceAdd, Nat.reduceMul, reduceCtorEq, Int.reduceToNat, g7, i0, i3, i4, i5, i8, i9, i10, i15, i16, i17]; first | (rename_i K k; (first | refine yC (k _ _ ?_) | refine zg (k _ ?_)); clear k K) | (rename_i A B C D a b c d; (first | refine zx (a ?_) | refine zy (b ?_) | refine zz (fun hc => c ?_) (fun hc => d ?_) | refine zv (b ?_) | refine zw (a ?_)) <;> clear a b c d A B C D <;> try simp only [yL] at hc)) | refine zA ?_ | refine zB ?_ | refine zF ?_)
    refine hgo ow _ _ ?_ ?_ ?_ ?_ ?_ ?_ ?_ ?_ ?_ ?_ (by rw [hcj]; exact hO9) hm9
    all_goals (simp only [↓yG, Nat.reduceEqDiff, ↓reduceIte, Int.natCast_add, Int.cast_ofNat_Int, Int.natCast_zero, true_and, and_true, Option.some.injEq, Value.int.injEq, i0, i3, i4, i5, i8, i9, i10, i15, i16, i17])
  | false =>
    rw [hco, Bool.not_false, if_pos rfl] at hcj
    have hfp : fillL (zeros [.int .i64 0, .int .i64 0] 1) [(0, 2, .agg #[.int .i64 i, .int .i64 j])] = some (prC (i, j)) := by
      simp [fillL, zeros, Value.cells, flatV, prC]
    repeat' (first | (exfalso; omega) | refine zn ?_ | refine zK rfl ?_ | refine zP rfl ?_ | ((first | refine zm ?_ | skip); intro _; intros; simp (disch := first | exact zd | fail) only [↓yS, yT, gresults, gone, ↓reduceIte, Nat.reduceEqDiff, Nat.reduceAdd, Nat.reduceMul, reduceCtorEq, Int.reduceToNat, g7, i0, i3, i4, i5, i8, i9, i10, i15, i16, i17, hfp]; first | (rename_i K k; (first | refine yC (k _ _ ?_) | refine zg (k _ ?_)); clear k K) | (rename_i A B C D a b c d; (first | refine zx (a ?_) | refine zy (b ?_) | refine zz (fun hc => c ?_) (fun hc => d ?_) | refine zv (b ?_) | refine zw (a ?_)) <;> clear a b c d A B C D <;> try simp only [yL] at hc)) | refine zA ?_ | refine zB ?_ | refine zF ?_)
    refine Gw_s fun K' hK' => ?_
    simp (disch := first | exact zd | fail) only [↓yS, yT, ↓reduceIte, Nat.reduceEqDiff, Nat.reduceAdd, Nat.reduceMul, reduceCtorEq, Int.reduceToNat, i0, i3, i4, i5, i8, i9, i10, i15, i16, i17]
    obtain ⟨v5, H5, e, hO5, hB5⟩ := hO9.app1 (b := 16) (by decide) (by decide) (news := prC (i, j)) rfl (by omega) (by omega)
    refine G1_eq e (hK' _ _ ?_)
    clear hK' K' e
    have hm5' : H5.mine a5 = some (tmC x, 0) := by
      rw [hB5.mine (mine_lt hS9.wf hm9) fun ha => ?_]
      · exact hm9
      · have h1 := (hO9.ids ha).2.2
        rw [hm9] at h1
        simp at h1
    repeat' (first | (exfalso; omega) | refine zn ?_ | refine zK rfl ?_ | refine zP rfl ?_ | ((first | refine zm ?_ | skip); intro _; intros; simp (disch := first | exact zd | fail) only [↓yS, yT, gresults, gone, ↓reduceIte, Nat.reduceEqDiff, Nat.reduceAdd, Nat.reduceMul, reduceCtorEq, Int.reduceToNat, g7, i0, i3, i4, i5, i8, i9, i10, i15, i16, i17]; first | (rename_i K k; (first | refine yC (k _ _ ?_) | refine zg (k _ ?_)); clear k K) | (rename_i A B C D a b c d; (first | refine zx (a ?_) | refine zy (b ?_) | refine zz (fun hc => c ?_) (fun hc => d ?_) | refine zv (b ?_) | refine zw (a ?_)) <;> clear a b c d A B C D <;> try simp only [yL] at hc)) | refine zA ?_ | refine zB ?_ | refine zF ?_)
    have hO5' : OS 2 2 H H5 v5 (claF l i ++ claR l i (j + 1)).length (PrC (claF l i ++ claR l i (j + 1))) := by
      rw [hcj, ← List.append_assoc, PrC_snoc, List.length_append]; exact hO5
    refine hgo v5 _ _ ?_ ?_ ?_ ?_ ?_ ?_ ?_ ?_ ?_ ?_ hO5' hm5'
    all_goals (simp only [↓yG, Nat.reduceEqDiff, ↓reduceIte, Int.natCast_add, Int.cast_ofNat_Int, Int.natCast_zero, true_and, and_true, Option.some.injEq, Value.int.injEq, i0, i3, i4, i5, i8, i9, i10, i15, i16, i17])
end Go.Gh
