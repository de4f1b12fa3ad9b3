/-
  lines and its reference, walked: Quote; the reference's Fits.
-/
import Derived.Test.YtfldcmeecpgpeaaGreatDoorGzB
import Derived.Test.YtfldcmeecpgpeaaGreatDoorGlW5
import Derived.Test.YtfldcmeecpgpeaaGreatDoorGlW2
namespace Go.Gh
set_option linter.unusedSimpArgs false
set_option linter.unusedVariables false
set_option maxHeartbeats 4000000
open Go.RowKit Go.Lib
set_option maxRecDepth 4000
def qt1 (b : UInt8) : List UInt8 := if b = 34 ∨ b = 92 then [92, b] else if b = 10 then [92, 110] else [b]
def qtB (l : List UInt8) : List UInt8 := l.flatMap qt1
def quoF (l : List UInt8) : List UInt8 := (34 :: qtB l) ++ [34]
theorem qt1_len (b : UInt8) : (qt1 b).length ≤ 2 := by unfold qt1; repeat' split
                                                       all_goals simp
theorem qtB_len : ∀ l : List UInt8, (qtB l).length ≤ 2 * l.length
  | [] => by simp [qtB]
  | b :: l => by
    have h1 := qtB_len l
    have h2 := qt1_len b
    simp only [qtB, List.flatMap_cons, List.length_append, List.length_cons] at h1 ⊢
    omega
theorem quoF_len (l : List UInt8) : (quoF l).length ≤ 2 * l.length + 2 := by
  have := qtB_len l
  simp only [quoF, List.length_append, List.length_cons, List.length_nil]; omega
theorem qtB_succ {l : List UInt8} {j : Nat} (h : j < l.length) : qtB (l.take (j + 1)) = qtB (l.take j) ++ qt1 l[j]! := by
  unfold qtB
  rw [List.take_succ_eq_append_getElem h, List.flatMap_append, getElem!_pos l j h]
  simp
theorem Quote_ok {l : List UInt8} (hl : l.length ≤ 16777216) (H : GHeap) : gev G 55 [.string (strB l)] H = some (.string (strB (quoF l)), H) := by
  refine gev_GWP (f := 55) rfl rfl rfl (fun Post hPost => ?_) H
  have hw := root_wf
  have hls := strB_size l
  have hc34 : (u8s (List.replicate 1 0)).set 0 (.int .u8 (34 : Int)) = u8s [34] := rfl
  have hcell : ∀ x : UInt8, (u8s (List.replicate 1 0)).set 0 (.int .u8 ((x.toNat : Nat) : Int)) = u8s [x] := fun x => rfl
  have hcell2 : ∀ x : UInt8, ((u8s (List.replicate 2 0)).set 0 (.int .u8 (92 : Int))).set 1 (.int .u8 ((x.toNat : Nat) : Int)) = u8s [92, x] := fun x => rfl
  have hcelln : ((u8s (List.replicate 2 0)).set 0 (.int .u8 (92 : Int))).set 1 (.int .u8 (110 : Int)) = u8s [92, 110] := rfl
  simp only [frameOf, Nat.reduceAdd]
  repeat' (first | refine zn ?_ | refine zK rfl ?_ | refine zP rfl ?_ | ((first | refine zm ?_ | skip); intro _; intros; simp (disch := first | exact zd | fail) only [↓yS, yT, gresults, gone, ↓reduceIte, Nat.reduceEqDiff, Nat.reduceAdd, Nat.reduceMul, reduceCtorEq, Int.reduceToNat, g55, hls]; first | (rename_i K k; (first | refine yC (k _ _ ?_) | refine zg (k _ ?_)); clear k K) | (rename_i A B C D a b c d; (first | refine zx (a ?_) | refine zy (b ?_) | refine zz (fun hc => c ?_) (fun hc => d ?_) | refine zv (b ?_) | refine zw (a ?_)) <;> clear a b c d A B C D <;> try simp only [yL] at hc)) | refine zA ?_ | refine zB ?_ | refine zF ?_)
  rw [hc34]
  refine GW_loop (fun k fr H1 => ∃ (j : Nat) (v : Value), k = l.length - j ∧ j ≤ l.length ∧ fr.get 0 = some (.string (strB l)) ∧ fr.get 3 = some (v) ∧ fr.get 7 = some (.int .i64 l.length) ∧ fr.get 8 = some (.int .i64 j) ∧ OB ⟨.nil, 0, 0⟩ H1 v (34 :: qtB (l.take j))) ?_ l.length ?_
  rotate_left
  · refine ⟨0, .slice (some ⟨0, 0, none⟩) 1 2, by omega, by omega, ?_⟩
    simp only [↓yG, Nat.reduceEqDiff, ↓reduceIte, Int.natCast_add, Int.cast_ofNat_Int, Int.natCast_zero, true_and, and_true, Option.some.injEq, Value.int.injEq]
    exact OB.made (l := [34]) (Same.refl hw) rfl _ (.inr rfl)
  rintro k fr H1 ⟨j, v, rfl, hj, f0, f3, f7, f8, hO⟩ J hJ
  by_cases hjl : j < l.length
  case neg =>
    obtain rfl : j = l.length := by omega
    rw [List.take_length] at hO
    have hql := qtB_len l
    repeat' (first | (exfalso; omega) | refine zn ?_ | refine zK rfl ?_ | refine zP rfl ?_ | ((first | refine zm ?_ | skip); intro _; intros; simp (disch := first | exact zd | fail) only [↓yS, yT, gresults, gone, ↓reduceIte, Nat.reduceEqDiff, Nat.reduceAdd, Nat.reduceMul, reduceCtorEq, Int.reduceToNat, g55, f0, f3, f7, f8]; first | (rename_i K k; (first | refine yC (k _ _ ?_) | refine zg (k _ ?_)); clear k K) | (rename_i A B C D a b c d; (first | refine zx (a ?_) | refine zy (b ?_) | refine zz (fun hc => c ?_) (fun hc => d ?_) | refine zv (b ?_) | refine zw (a ?_)) <;> clear a b c d A B C D <;> try simp only [yL] at hc)) | refine zA ?_ | refine zB ?_ | refine zF ?_)
    rw [hc34]
    refine Gw_s fun K' hK' => ?_
    simp (disch := first | exact zd | fail) only [↓yS, yT, ↓reduceIte, Nat.reduceEqDiff, Nat.reduceAdd, Nat.reduceMul, reduceCtorEq, Int.reduceToNat, f0, f3, f7, f8]
    obtain ⟨v2, H2, e, hO2⟩ := hO.appNew (b := [34]) (by simp only [List.length_cons, List.length_nil]; omega)
    refine G1_eq e (hK' _ _ ?_)
    clear hK' K' e
    have hst := hO2.rb.str
    repeat' (first | (exfalso; omega) | refine zn ?_ | refine zK rfl ?_ | refine zP rfl ?_ | ((first | refine zm ?_ | skip); intro _; intros; simp (disch := first | exact zd | fail) only [↓yS, yT, gresults, gone, ↓reduceIte, Nat.reduceEqDiff, Nat.reduceAdd, Nat.reduceMul, reduceCtorEq, Int.reduceToNat, g55, f0, f3, f7, f8, hst]; first | (rename_i K k; (first | refine yC (k _ _ ?_) | refine zg (k _ ?_)); clear k K) | (rename_i A B C D a b c d; (first | refine zx (a ?_) | refine zy (b ?_) | refine zz (fun hc => c ?_) (fun hc => d ?_) | refine zv (b ?_) | refine zw (a ?_)) <;> clear a b c d A B C D <;> try simp only [yL] at hc)) | refine zA ?_ | refine zB ?_ | refine zF ?_)
    exact hPost _
  have ej := fun k => strB_at (k := k) hjl
  have hsc := qtB_succ hjl
  have hql := qtB_len (l.take j)
  rw [List.length_take] at hql
  have hgo : ∀ (v' : Value) fr H2, fr.get 0 = some (.string (strB l)) → fr.get 3 = some v' → fr.get 7 = some (.int .i64 l.length) → fr.get 8 = some (.int .i64 ((j : Int) + 1)) → OB ⟨.nil, 0, 0⟩ H2 v' ((34 :: qtB (l.take j)) ++ qt1 l[j]!) → J fr H2 := fun v' fr H2 a1 a2 a3 a4 a5 => hJ _ _ ⟨l.length - (j + 1), by omega, j + 1, v', rfl, by omega, a1, a2, a3, by rw [a4]; rfl, by rw [hsc]; exact a5⟩
  clear hJ
  unfold qt1 at hgo
  generalize l[j]! = b at *
  by_cases b34 : b = 34
  · have b34' := eq_true b34
    rw [if_pos (.inl b34)] at hgo
    repeat' (first | (exfalso; omega) | refine zn ?_ | refine zK rfl ?_ | refine zP rfl ?_ | ((first | refine zm ?_ | skip); intro _; intros; simp (disch := first | exact zd | fail) only [↓yS, yT, gresults, gone, ↓reduceIte, Nat.reduceEqDiff, Nat.reduceAdd, Nat.reduceMul, reduceCtorEq, Int.reduceToNat, g55, f0, f3, f7, f8, ej, by34, b34', decide_true]; first | (rename_i K k; (first | refine yC (k _ _ ?_) | refine zg (k _ ?_)); clear k K) | (rename_i A B C D a b c d; (first | refine zx (a ?_) | refine zy (b ?_) | refine zz (fun hc => c ?_) (fun hc => d ?_) | refine zv (b ?_) | refine zw (a ?_)) <;> clear a b c d A B C D <;> try simp only [yL] at hc)) | refine zA ?_ | refine zB ?_ | refine zF ?_)
    rw [hcell2]
    refine Gw_s fun K' hK' => ?_
    simp (disch := first | exact zd | fail) only [↓yS, yT, ↓reduceIte, Nat.reduceEqDiff, Nat.reduceAdd, Nat.reduceMul, reduceCtorEq, Int.reduceToNat, f0, f3, f7, f8]
    obtain ⟨v2, H2, e, hO2⟩ := hO.appNew (b := [92, b]) (by simp only [List.length_cons, List.length_nil]; omega)
    refine G1_eq e (hK' _ _ ?_)
    clear hK' K' e
    repeat' (first | (exfalso; omega) | refine zn ?_ | refine zK rfl ?_ | refine zP rfl ?_ | ((first | refine zm ?_ | skip); intro _; intros; simp (disch := first | exact zd | fail) only [↓yS, yT, gresults, gone, ↓reduceIte, Nat.reduceEqDiff, Nat.reduceAdd, Nat.reduceMul, reduceCtorEq, Int.reduceToNat, g55, f0, f3, f7, f8]; first | (rename_i K k; (first | refine yC (k _ _ ?_) | refine zg (k _ ?_)); clear k K) | (rename_i A B C D a b c d; (first | refine zx (a ?_) | refine zy (b ?_) | refine zz (fun hc => c ?_) (fun hc => d ?_) | refine zv (b ?_) | refine zw (a ?_)) <;> clear a b c d A B C D <;> try simp only [yL] at hc)) | refine zA ?_ | refine zB ?_ | refine zF ?_)
    refine hgo v2 _ _ ?_ ?_ ?_ ?_ hO2
    all_goals (simp only [↓yG, Nat.reduceEqDiff, ↓reduceIte, Int.natCast_add, Int.cast_ofNat_Int, Int.natCast_zero, true_and, and_true, Option.some.injEq, Value.int.injEq, f0, f3, f7, f8])
  have b34' := eq_false b34
  by_cases b92 : b = 92
  · have b92' := eq_true b92
    rw [if_pos (.inr b92)] at hgo
    repeat' (first | (exfalso; omega) | refine zn ?_ | refine zK rfl ?_ | refine zP rfl ?_ | ((first | refine zm ?_ | skip); intro _; intros; simp (disch := first | exact zd | fail) only [↓yS, yT, gresults, gone, ↓reduceIte, Nat.reduceEqDiff, Nat.reduceAdd, Nat.reduceMul, reduceCtorEq, Int.reduceToNat, g55, f0, f3, f7, f8, ej, by34, b34', decide_false, by92, b92', decide_true]; first | (rename_i K k; (first | refine yC (k _ _ ?_) | refine zg (k _ ?_)); clear k K) | (rename_i A B C D a b c d; (first | refine zx (a ?_) | refine zy (b ?_) | refine zz (fun hc => c ?_) (fun hc => d ?_) | refine zv (b ?_) | refine zw (a ?_)) <;> clear a b c d A B C D <;> try simp only [yL] at hc)) | refine zA ?_ | refine zB ?_ | refine zF ?_)
    rw [hcell2]
    refine Gw_s fun K' hK' => ?_
    simp (disch := first | exact zd | fail) only [↓yS, yT, ↓reduceIte, Nat.reduceEqDiff, Nat.reduceAdd, Nat.reduceMul, reduceCtorEq, Int.reduceToNat, f0, f3, f7, f8]
    obtain ⟨v2, H2, e, hO2⟩ := hO.appNew (b := [92, b]) (by simp only [List.length_cons, List.length_nil]; omega)
    refine G1_eq e (hK' _ _ ?_)
    clear hK' K' e
    repeat' (first | (exfalso; omega) | refine zn ?_ | refine zK rfl ?_ | refine zP rfl ?_ | ((first | refine zm ?_ | skip); intro _; intros; simp (disch := first | exact zd | fail) only [↓yS, yT, gresults, gone, ↓reduceIte, Nat.reduceEqDiff, Nat.reduceAdd, Nat.reduceMul, reduceCtorEq, Int.reduceToNat, g55, f0, f3, f7, f8]; first | (rename_i K k; (first | refine yC (k _ _ ?_) | refine zg (k _ ?_)); clear k K) | (rename_i A B C D a b c d; (first | refine zx (a ?_) | refine zy (b ?_) | refine zz (fun hc => c ?_) (fun hc => d ?_) | refine zv (b ?_) | refine zw (a ?_)) <;> clear a b c d A B C D <;> try simp only [yL] at hc)) | refine zA ?_ | refine zB ?_ | refine zF ?_)
    refine hgo v2 _ _ ?_ ?_ ?_ ?_ hO2
    all_goals (simp only [↓yG, Nat.reduceEqDiff, ↓reduceIte, Int.natCast_add, Int.cast_ofNat_Int, Int.natCast_zero, true_and, and_true, Option.some.injEq, Value.int.injEq, f0, f3, f7, f8])
  have b92' := eq_false b92
  rw [if_neg (fun h => h.elim b34 b92)] at hgo
  by_cases b10 : b = 10
  · have b10' := eq_true b10
    rw [if_pos b10] at hgo
    repeat' (first | (exfalso; omega) | refine zn ?_ | refine zK rfl ?_ | refine zP rfl ?_ | ((first | refine zm ?_ | skip); intro _; intros; simp (disch := first | exact zd | fail) only [↓yS, yT, gresults, gone, ↓reduceIte, Nat.reduceEqDiff, Nat.reduceAdd, Nat.reduceMul, reduceCtorEq, Int.reduceToNat, g55, f0, f3, f7, f8, ej, by34, b34', decide_false, by92, b92', by10, b10', decide_true]; first | (rename_i K k; (first | refine yC (k _ _ ?_) | refine zg (k _ ?_)); clear k K) | (rename_i A B C D a b c d; (first | refine zx (a ?_) | refine zy (b ?_) | refine zz (fun hc => c ?_) (fun hc => d ?_) | refine zv (b ?_) | refine zw (a ?_)) <;> clear a b c d A B C D <;> try simp only [yL] at hc)) | refine zA ?_ | refine zB ?_ | refine zF ?_)
    rw [hcelln]
    refine Gw_s fun K' hK' => ?_
    simp (disch := first | exact zd | fail) only [↓yS, yT, ↓reduceIte, Nat.reduceEqDiff, Nat.reduceAdd, Nat.reduceMul, reduceCtorEq, Int.reduceToNat, f0, f3, f7, f8]
    obtain ⟨v2, H2, e, hO2⟩ := hO.appNew (b := [92, 110]) (by simp only [List.length_cons, List.length_nil]; omega)
    refine G1_eq e (hK' _ _ ?_)
    clear hK' K' e
    repeat' (first | (exfalso; omega) | refine zn ?_ | refine zK rfl ?_ | refine zP rfl ?_ | ((first | refine zm ?_ | skip); intro _; intros; simp (disch := first | exact zd | fail) only [↓yS, yT, gresults, gone, ↓reduceIte, Nat.reduceEqDiff, Nat.reduceAdd, Nat.reduceMul, reduceCtorEq, Int.reduceToNat, g55, f0, f3, f7, f8]; first | (rename_i K k; (first | refine yC (k _ _ ?_) | refine zg (k _ ?_)); clear k K) | (rename_i A B C D a b c d; (first | refine zx (a ?_) | refine zy (b ?_) | refine zz (fun hc => c ?_) (fun hc => d ?_) | refine zv (b ?_) | refine zw (a ?_)) <;> clear a b c d A B C D <;> try simp only [yL] at hc)) | refine zA ?_ | refine zB ?_ | refine zF ?_)
    refine hgo v2 _ _ ?_ ?_ ?_ ?_ hO2
    all_goals (simp only [↓yG, Nat.reduceEqDiff, ↓reduceIte, Int.natCast_add, Int.cast_ofNat_Int, Int.natCast_zero, true_and, and_true, Option.some.injEq, Value.int.injEq, f0, f3, f7, f8])
  · have b10' := eq_false b10
    rw [if_neg b10] at hgo
    repeat' (first | (exfalso; omega) | refine zn ?_ | refine zK rfl ?_ | refine zP rfl ?_ | ((first | refine zm ?_ | skip); intro _; intros; simp (disch := first | exact zd | fail) only [↓yS, yT, gresults, gone, ↓reduceIte, Nat.reduceEqDiff, Nat.reduceAdd, Nat.reduceMul, reduceCtorEq, Int.reduceToNat, g55, f0, f3, f7, f8, ej, by34, b34', decide_false, by92, b92', by10, b10']; first | (rename_i K k; (first | refine yC (k _ _ ?_) | refine zg (k _ ?_)); clear k K) | (rename_i A B C D a b c d; (first | refine zx (a ?_) | refine zy (b ?_) | refine zz (fun hc => c ?_) (fun hc => d ?_) | refine zv (b ?_) | refine zw (a ?_)) <;> clear a b c d A B C D <;> try simp only [yL] at hc)) | refine zA ?_ | refine zB ?_ | refine zF ?_)
    rw [hcell]
    refine Gw_s fun K' hK' => ?_
    simp (disch := first | exact zd | fail) only [↓yS, yT, ↓reduceIte, Nat.reduceEqDiff, Nat.reduceAdd, Nat.reduceMul, reduceCtorEq, Int.reduceToNat, f0, f3, f7, f8]
    obtain ⟨v2, H2, e, hO2⟩ := hO.appNew (b := [b]) (by simp only [List.length_cons, List.length_nil]; omega)
    refine G1_eq e (hK' _ _ ?_)
    clear hK' K' e
    repeat' (first | (exfalso; omega) | refine zn ?_ | refine zK rfl ?_ | refine zP rfl ?_ | ((first | refine zm ?_ | skip); intro _; intros; simp (disch := first | exact zd | fail) only [↓yS, yT, gresults, gone, ↓reduceIte, Nat.reduceEqDiff, Nat.reduceAdd, Nat.reduceMul, reduceCtorEq, Int.reduceToNat, g55, f0, f3, f7, f8]; first | (rename_i K k; (first | refine yC (k _ _ ?_) | refine zg (k _ ?_)); clear k K) | (rename_i A B C D a b c d; (first | refine zx (a ?_) | refine zy (b ?_) | refine zz (fun hc => c ?_) (fun hc => d ?_) | refine zv (b ?_) | refine zw (a ?_)) <;> clear a b c d A B C D <;> try simp only [yL] at hc)) | refine zA ?_ | refine zB ?_ | refine zF ?_)
    refine hgo v2 _ _ ?_ ?_ ?_ ?_ hO2
    all_goals (simp only [↓yG, Nat.reduceEqDiff, ↓reduceIte, Int.natCast_add, Int.cast_ofNat_Int, Int.natCast_zero, true_and, and_true, Option.some.injEq, Value.int.injEq, f0, f3, f7, f8])
theorem mid1 {l : List UInt8} {i : Nat} (h : i < l.length) : (l.take (i + 1)).drop i = [l[i]!] := by
  rw [List.take_succ_eq_append_getElem h, List.drop_left' (by simp; omega), getElem!_pos l i h]
theorem rQuote_ok {l : List UInt8} (hl : l.length ≤ 16777216) (H : GHeap) : gev G 28 [.string (strB l)] H = some (.string (strB (quoF l)), H) := by
  refine gev_GWP (f := 28) rfl rfl rfl (fun Post hPost => ?_) H
  have hls := strB_size l
  simp only [frameOf, Nat.reduceAdd]
  repeat' (first | refine zn ?_ | refine zK rfl ?_ | refine zP rfl ?_ | ((first | refine zm ?_ | skip); intro _; intros; simp (disch := first | exact zd | fail) only [↓yS, yT, gresults, gone, ↓reduceIte, Nat.reduceEqDiff, Nat.reduceAdd, Nat.reduceMul, reduceCtorEq, Int.reduceToNat, g28]; first | (rename_i K k; (first | refine yC (k _ _ ?_) | refine zg (k _ ?_)); clear k K) | (rename_i A B C D a b c d; (first | refine zx (a ?_) | refine zy (b ?_) | refine zz (fun hc => c ?_) (fun hc => d ?_) | refine zv (b ?_) | refine zw (a ?_)) <;> clear a b c d A B C D <;> try simp only [yL] at hc)) | refine zA ?_ | refine zB ?_ | refine zF ?_)
  refine GW_loop (fun k fr H1 => ∃ (j : Nat), k = l.length - j ∧ j ≤ l.length ∧ fr.get 0 = some (.string (strB l)) ∧ fr.get 3 = some (.string (strB (34 :: qtB (l.take j)))) ∧ fr.get 4 = some (.int .i64 j)) ?_ l.length ?_
  rotate_left
  · refine ⟨0, by omega, by omega, ?_⟩
    simp only [↓yG, Nat.reduceEqDiff, ↓reduceIte, Int.natCast_add, Int.cast_ofNat_Int, Int.natCast_zero, true_and, and_true, Option.some.injEq, Value.int.injEq]
    first | rfl | trivial
  rintro k fr H1 ⟨j, rfl, hj, f0, f3, f4⟩ J hJ
  by_cases hjl : j < l.length
  case neg =>
    obtain rfl : j = l.length := by omega
    rw [List.take_length] at f3
    have hql := qtB_len l
    have ha : ∀ e, gbin .add e (.string (strB (34 :: qtB l))) (.string ⟨#[34]⟩) = some (.string (strB (quoF l))) := fun e => gb_addB (a := 34 :: qtB l) (b := [34]) (by simp only [List.length_cons, List.length_nil]; omega)
    repeat' (first | (exfalso; omega) | refine zn ?_ | refine zK rfl ?_ | refine zP rfl ?_ | ((first | refine zm ?_ | skip); intro _; intros; simp (disch := first | exact zd | fail) only [↓yS, yT, gresults, gone, ↓reduceIte, Nat.reduceEqDiff, Nat.reduceAdd, Nat.reduceMul, reduceCtorEq, Int.reduceToNat, g28, f0, f3, f4, hls, ha]; first | (rename_i K k; (first | refine yC (k _ _ ?_) | refine zg (k _ ?_)); clear k K) | (rename_i A B C D a b c d; (first | refine zx (a ?_) | refine zy (b ?_) | refine zz (fun hc => c ?_) (fun hc => d ?_) | refine zv (b ?_) | refine zw (a ?_)) <;> clear a b c d A B C D <;> try simp only [yL] at hc)) | refine zA ?_ | refine zB ?_ | refine zF ?_)
    exact hPost _
  have ej := fun k => strB_at (k := k) hjl
  have hsc := qtB_succ hjl
  have hmid := mid1 hjl
  have hsl : ∀ H k k', gslice .str H (.string (strB l)) (some (.int k j)) (some (.int k' ((j : Int) + 1))) none = some (.string (strB [l[j]!])) := fun H k k' => by
    rw [sl_mid (by omega) (by omega) (by omega)]
    have : ((j : Int) + 1).toNat = j + 1 := by omega
    rw [this, Int.toNat_natCast, hmid]
  have hql := qtB_len (l.take j)
  rw [List.length_take] at hql
  have hap : ∀ (x : List UInt8) e, x.length ≤ 2 → gbin .add e (.string (strB (34 :: qtB (l.take j)))) (.string (strB x)) = some (.string (strB ((34 :: qtB (l.take j)) ++ x))) := fun x e hx => gb_addB (by simp only [List.length_cons]; omega)
  have hgo : ∀ fr H2, fr.get 0 = some (.string (strB l)) → fr.get 3 = some (.string (strB ((34 :: qtB (l.take j)) ++ qt1 l[j]!))) → fr.get 4 = some (.int .i64 ((j : Int) + 1)) → J fr H2 := fun fr H2 a1 a2 a3 => hJ _ _ ⟨l.length - (j + 1), by omega, j + 1, rfl, by omega, a1, by rw [hsc]; exact a2, by rw [a3]; rfl⟩
  clear hJ
  unfold qt1 at hgo
  generalize l[j]! = b at *
  generalize 34 :: qtB (l.take j) = A at *
  have hb2 : ∀ e, gbin .add e (.string ⟨#[92]⟩) (.string (strB [b])) = some (.string (strB [92, b])) := fun e => gb_addB (a := [92]) (b := [b]) (by simp)
  have h92 := fun e => hap [92, b] e (by simp)
  have h1 := fun e => hap [b] e (by simp)
  have hn : ∀ e, gbin .add e (.string (strB A)) (.string ⟨#[92, 110]⟩) = some (.string (strB (A ++ [92, 110]))) := fun e => hap [92, 110] e (by simp)
  by_cases b34 : b = 34
  · have b34' := eq_true b34
    rw [if_pos (.inl b34)] at hgo
    repeat' (first | (exfalso; omega) | refine zn ?_ | refine zK rfl ?_ | refine zP rfl ?_ | ((first | refine zm ?_ | skip); intro _; intros; simp (disch := first | exact zd | fail) only [↓yS, yT, gresults, gone, ↓reduceIte, Nat.reduceEqDiff, Nat.reduceAdd, Nat.reduceMul, reduceCtorEq, Int.reduceToNat, g28, f0, f3, f4, hls, ej, by34, b34', decide_true, hsl, hb2, h92]; first | (rename_i K k; (first | refine yC (k _ _ ?_) | refine zg (k _ ?_)); clear k K) | (rename_i A B C D a b c d; (first | refine zx (a ?_) | refine zy (b ?_) | refine zz (fun hc => c ?_) (fun hc => d ?_) | refine zv (b ?_) | refine zw (a ?_)) <;> clear a b c d A B C D <;> try simp only [yL] at hc)) | refine zA ?_ | refine zB ?_ | refine zF ?_)
    refine hgo _ _ ?_ ?_ ?_
    all_goals (simp only [↓yG, Nat.reduceEqDiff, ↓reduceIte, Int.natCast_add, Int.cast_ofNat_Int, Int.natCast_zero, true_and, and_true, Option.some.injEq, Value.int.injEq, f0, f3, f4])
  have b34' := eq_false b34
  by_cases b92 : b = 92
  · have b92' := eq_true b92
    rw [if_pos (.inr b92)] at hgo
    repeat' (first | (exfalso; omega) | refine zn ?_ | refine zK rfl ?_ | refine zP rfl ?_ | ((first | refine zm ?_ | skip); intro _; intros; simp (disch := first | exact zd | fail) only [↓yS, yT, gresults, gone, ↓reduceIte, Nat.reduceEqDiff, Nat.reduceAdd, Nat.reduceMul, reduceCtorEq, Int.reduceToNat, g28, f0, f3, f4, hls, ej, by34, b34', decide_false, by92, b92', decide_true, hsl, hb2, h92]; first | (rename_i K k; (first | refine yC (k _ _ ?_) | refine zg (k _ ?_)); clear k K) | (rename_i A B C D a b c d; (first | refine zx (a ?_) | refine zy (b ?_) | refine zz (fun hc => c ?_) (fun hc => d ?_) | refine zv (b ?_) | refine zw (a ?_)) <;> clear a b c d A B C D <;> try simp only [yL] at hc)) | refine zA ?_ | refine zB ?_ | refine zF ?_)
    refine hgo _ _ ?_ ?_ ?_
    all_goals (simp only [↓yG, Nat.reduceEqDiff, ↓reduceIte, Int.natCast_add, Int.cast_ofNat_Int, Int.natCast_zero, true_and, and_true, Option.some.injEq, Value.int.injEq, f0, f3, f4])
  have b92' := eq_false b92
  rw [if_neg (fun h => h.elim b34 b92)] at hgo
  by_cases b10 : b = 10
  · have b10' := eq_true b10
    rw [if_pos b10] at hgo
    repeat' (first | (exfalso; omega) | refine zn ?_ | refine zK rfl ?_ | refine zP rfl ?_ | ((first | refine zm ?_ | skip); intro _; intros; simp (disch := first | exact zd | fail) only [↓yS, yT, gresults, gone, ↓reduceIte, Nat.reduceEqDiff, Nat.reduceAdd, Nat.reduceMul, reduceCtorEq, Int.reduceToNat, g28, f0, f3, f4, hls, ej, by34, b34', decide_false, by92, b92', by10, b10', decide_true, hn]; first | (rename_i K k; (first | refine yC (k _ _ ?_) | refine zg (k _ ?_)); clear k K) | (rename_i A B C D a b c d; (first | refine zx (a ?_) | refine zy (b ?_) | refine zz (fun hc => c ?_) (fun hc => d ?_) | refine zv (b ?_) | refine zw (a ?_)) <;> clear a b c d A B C D <;> try simp only [yL] at hc)) | refine zA ?_ | refine zB ?_ | refine zF ?_)
    refine hgo _ _ ?_ ?_ ?_
    all_goals (simp only [↓yG, Nat.reduceEqDiff, ↓reduceIte, Int.natCast_add, Int.cast_ofNat_Int, Int.natCast_zero, true_and, and_true, Option.some.injEq, Value.int.injEq, f0, f3, f4])
  · have b10' := eq_false b10
    rw [if_neg b10] at hgo
    repeat' (first | (exfalso; omega) | refine zn ?_ | refine zK rfl ?_ | refine zP rfl ?_ | ((first | refine zm ?_ | skip); intro _; intros; simp (disch := first | exact zd | fail) only [↓yS, yT, gresults, gone, ↓reduceIte, Nat.reduceEqDiff, Nat.reduceAdd, Nat.reduceMul, reduceCtorEq, Int.reduceToNat, g28, f0, f3, f4, hls, ej, by34, b34', decide_false, by92, b92', by10, b10', hsl, h1]; first | (rename_i K k; (first | refine yC (k _ _ ?_) | refine zg (k _ ?_)); clear k K) | (rename_i A B C D a b c d; (first | refine zx (a ?_) | refine zy (b ?_) | refine zz (fun hc => c ?_) (fun hc => d ?_) | refine zv (b ?_) | refine zw (a ?_)) <;> clear a b c d A B C D <;> try simp only [yL] at hc)) | refine zA ?_ | refine zB ?_ | refine zF ?_)
    refine hgo _ _ ?_ ?_ ?_
    all_goals (simp only [↓yG, Nat.reduceEqDiff, ↓reduceIte, Int.natCast_add, Int.cast_ofNat_Int, Int.natCast_zero, true_and, and_true, Option.some.injEq, Value.int.injEq, f0, f3, f4])
def fitR : Nat → List UInt8 → Bool
  | _, [] => true
  | n, b :: r => if b = 10 then fitR 0 r else if 1000 < n + 1 then false else fitR (n + 1) r
theorem Fits_ok {l : List UInt8} (hl : l.length ≤ 16777216) (H : GHeap) : gev G 29 [.string (strB l)] H = some (.bool (fitR 0 l && decide (l.length ≤ 262144)), H) := by
  refine gev_GWP (f := 29) rfl rfl rfl (fun Post hPost => ?_) H
  have hls := strB_size l
  simp only [frameOf, Nat.reduceAdd]
  repeat' (first | refine zn ?_ | refine zK rfl ?_ | refine zP rfl ?_ | ((first | refine zm ?_ | skip); intro _; intros; simp (disch := first | exact zd | fail) only [↓yS, yT, gresults, gone, ↓reduceIte, Nat.reduceEqDiff, Nat.reduceAdd, Nat.reduceMul, reduceCtorEq, Int.reduceToNat, g29]; first | (rename_i K k; (first | refine yC (k _ _ ?_) | refine zg (k _ ?_)); clear k K) | (rename_i A B C D a b c d; (first | refine zx (a ?_) | refine zy (b ?_) | refine zz (fun hc => c ?_) (fun hc => d ?_) | refine zv (b ?_) | refine zw (a ?_)) <;> clear a b c d A B C D <;> try simp only [yL] at hc)) | refine zA ?_ | refine zB ?_ | refine zF ?_)
  refine GW_loop (fun k fr H1 => ∃ (j n : Nat), k = l.length - j ∧ j ≤ l.length ∧ n ≤ 1000 ∧ fr.get 0 = some (.string (strB l)) ∧ fr.get 3 = some (.int .i64 n) ∧ fr.get 4 = some (.int .i64 j) ∧ fitR n (l.drop j) = fitR 0 l) ?_ l.length ?_
  rotate_left
  · refine ⟨0, 0, by omega, by omega, by omega, ?_⟩
    simp only [↓yG, Nat.reduceEqDiff, ↓reduceIte, Int.natCast_add, Int.cast_ofNat_Int, Int.natCast_zero, true_and, and_true, Option.some.injEq, Value.int.injEq]
    first | rfl | trivial
  rintro k fr H1 ⟨j, n, rfl, hj, hn, f0, f3, f4, hf⟩ J hJ
  by_cases hjl : j < l.length
  case neg =>
    obtain rfl : j = l.length := by omega
    rw [List.drop_length, fitR] at hf
    rw [← hf, Bool.true_and] at hPost
    repeat' (first | (exfalso; omega) | refine zn ?_ | refine zK rfl ?_ | refine zP rfl ?_ | ((first | refine zm ?_ | skip); intro _; intros; simp (disch := first | exact zd | fail) only [↓yS, yT, gresults, gone, ↓reduceIte, Nat.reduceEqDiff, Nat.reduceAdd, Nat.reduceMul, reduceCtorEq, Int.reduceToNat, g29, f0, f3, f4, hls]; first | (rename_i K k; (first | refine yC (k _ _ ?_) | refine zg (k _ ?_)); clear k K) | (rename_i A B C D a b c d; (first | refine zx (a ?_) | refine zy (b ?_) | refine zz (fun hc => c ?_) (fun hc => d ?_) | refine zv (b ?_) | refine zw (a ?_)) <;> clear a b c d A B C D <;> try simp only [yL] at hc)) | refine zA ?_ | refine zB ?_ | refine zF ?_)
    have hdd : decide ((l.length : Int) ≤ 262144) = decide (l.length ≤ 262144) := decide_eq_decide.2 (by omega)
    first | exact hPost _ | (rw [hdd]; exact hPost _)
  have ej := fun k => strB_at (k := k) hjl
  rw [drop_cons hjl, fitR] at hf
  have hgo : ∀ (n' : Nat) fr H2, n' ≤ 1000 → fr.get 0 = some (.string (strB l)) → fr.get 3 = some (.int .i64 n') → fr.get 4 = some (.int .i64 ((j : Int) + 1)) → fitR n' (l.drop (j + 1)) = fitR 0 l → J fr H2 := fun n' fr H2 a0 a1 a2 a3 a4 => hJ _ _ ⟨l.length - (j + 1), by omega, j + 1, n', rfl, by omega, a0, a1, a2, by rw [a3]; rfl, a4⟩
  clear hJ
  generalize l[j]! = b at *
  by_cases b10 : b = 10
  · have b10' := eq_true b10
    rw [if_pos b10] at hf
    repeat' (first | (exfalso; omega) | refine zn ?_ | refine zK rfl ?_ | refine zP rfl ?_ | ((first | refine zm ?_ | skip); intro _; intros; simp (disch := first | exact zd | fail) only [↓yS, yT, gresults, gone, ↓reduceIte, Nat.reduceEqDiff, Nat.reduceAdd, Nat.reduceMul, reduceCtorEq, Int.reduceToNat, g29, f0, f3, f4, hls, ej, by10, b10', decide_true]; first | (rename_i K k; (first | refine yC (k _ _ ?_) | refine zg (k _ ?_)); clear k K) | (rename_i A B C D a b c d; (first | refine zx (a ?_) | refine zy (b ?_) | refine zz (fun hc => c ?_) (fun hc => d ?_) | refine zv (b ?_) | refine zw (a ?_)) <;> clear a b c d A B C D <;> try simp only [yL] at hc)) | refine zA ?_ | refine zB ?_ | refine zF ?_)
    refine hgo 0 _ _ (by omega) ?_ ?_ ?_ hf
    all_goals (simp only [↓yG, Nat.reduceEqDiff, ↓reduceIte, Int.natCast_add, Int.cast_ofNat_Int, Int.natCast_zero, true_and, and_true, Option.some.injEq, Value.int.injEq, f0, f3, f4])
    try rfl
  have b10' := eq_false b10
  rw [if_neg b10] at hf
  by_cases hnn : 1000 < n + 1
  · rw [if_pos hnn] at hf
    rw [← hf, Bool.false_and] at hPost
    repeat' (first | (exfalso; omega) | refine zn ?_ | refine zK rfl ?_ | refine zP rfl ?_ | ((first | refine zm ?_ | skip); intro _; intros; simp (disch := first | exact zd | fail) only [↓yS, yT, gresults, gone, ↓reduceIte, Nat.reduceEqDiff, Nat.reduceAdd, Nat.reduceMul, reduceCtorEq, Int.reduceToNat, g29, f0, f3, f4, hls, ej, by10, b10', decide_false]; first | (rename_i K k; (first | refine yC (k _ _ ?_) | refine zg (k _ ?_)); clear k K) | (rename_i A B C D a b c d; (first | refine zx (a ?_) | refine zy (b ?_) | refine zz (fun hc => c ?_) (fun hc => d ?_) | refine zv (b ?_) | refine zw (a ?_)) <;> clear a b c d A B C D <;> try simp only [yL] at hc)) | refine zA ?_ | refine zB ?_ | refine zF ?_)
    exact hPost _
  · rw [if_neg hnn] at hf
    repeat' (first | (exfalso; omega) | refine zn ?_ | refine zK rfl ?_ | refine zP rfl ?_ | ((first | refine zm ?_ | skip); intro _; intros; simp (disch := first | exact zd | fail) only [↓yS, yT, gresults, gone, ↓reduceIte, Nat.reduceEqDiff, Nat.reduceAdd, Nat.reduceMul, reduceCtorEq, Int.reduceToNat, g29, f0, f3, f4, hls, ej, by10, b10', decide_false]; first | (rename_i K k; (first | refine yC (k _ _ ?_) | refine zg (k _ ?_)); clear k K) | (rename_i A B C D a b c d; (first | refine zx (a ?_) | refine zy (b ?_) | refine zz (fun hc => c ?_) (fun hc => d ?_) | refine zv (b ?_) | refine zw (a ?_)) <;> clear a b c d A B C D <;> try simp only [yL] at hc)) | refine zA ?_ | refine zB ?_ | refine zF ?_)
    refine hgo (n + 1) _ _ (by omega) ?_ ?_ ?_ hf
    all_goals (simp only [↓yG, Nat.reduceEqDiff, ↓reduceIte, Int.natCast_add, Int.cast_ofNat_Int, Int.natCast_zero, true_and, and_true, Option.some.injEq, Value.int.injEq, f0, f3, f4])
    try rfl
end Go.Gh
