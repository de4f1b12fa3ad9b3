/-
  lines and its reference, walked: quoted strings, words, the fields of a line.
-/
import Derived.Test.YtfldcmeecpgpeaaGreatDoorGlW2
import Derived.Test.YtfldcmeecpgpeaaGreatDoorGlP2
namespace Go.Gh
set_option linter.unusedSimpArgs false
set_option linter.unusedVariables false
set_option maxHeartbeats 4000000
open Go.RowKit Go.Lib
set_option maxRecDepth 4000
def qtV : QR → Value
  | .ok t j => .tuple #[.string (strB t), .int .i64 j, .int .i64 (-1)]
  | .bad i => .tuple #[.string ⟨#[]⟩, .int .i64 0, .int .i64 i]
theorem by34 {b : UInt8} : (((b.toNat : Nat) : Int) = 34) = (b = 34) := byte_eq (n := 34) (by decide)
theorem by92 {b : UInt8} : (((b.toNat : Nat) : Int) = 92) = (b = 92) := byte_eq (n := 92) (by decide)
theorem by110 {b : UInt8} : (((b.toNat : Nat) : Int) = 110) = (b = 110) := byte_eq (n := 110) (by decide)
theorem by127 {b : UInt8} : (((b.toNat : Nat) : Int) = 127) = (b = 127) := byte_eq (n := 127) (by decide)
theorem by35 {b : UInt8} : (((b.toNat : Nat) : Int) = 35) = (b = 35) := byte_eq (n := 35) (by decide)
theorem lt32 {b : UInt8} : (((b.toNat : Nat) : Int) < 32) = (b < 32) := by
  apply propext
  rw [UInt8.lt_iff_toNat_lt]
  have h : (32 : UInt8).toNat = 32 := rfl
  rw [h]; omega
theorem litQt (R : QR) : litVal (qtV R) = true := by cases R <;> simp [qtV, litVal, litOk, litFlat]
theorem ixb_ok {b : UInt8} {B : ByteArray} (hB : B = strB [34, 92, 110]) (H : GHeap) : gev G 89 [.string B, .int .u8 (b.toNat : Nat)] H = some (.int .i64 (indexByte [34, 92, 110] b), H) := by
  subst hB
  refine gev_GWP (f := 89) rfl rfl rfl (fun Post hPost => ?_) H
  have hl : ∀ H, gev G 96 [.string (strB [34, 92, 110]), .int .u8 ((b.toNat : Nat) : Int)] H = some (.int .i64 (indexByte [34, 92, 110] b), H) := fun H => by
    refine gev_lib (f := 96) rfl rfl ?_ rfl
    simp [runIndexByte, strB]
  simp only [frameOf, Nat.reduceAdd]
  repeat' (first | refine zn ?_ | refine zK rfl ?_ | refine zP rfl ?_ | ((first | refine zm ?_ | skip); intro _; intros; simp (disch := first | exact zd | fail) only [↓yS, yT, gresults, gone, ↓reduceIte, Nat.reduceEqDiff, Nat.reduceAdd, Nat.reduceMul, reduceCtorEq, Int.reduceToNat, g89]; first | (rename_i K k; (first | refine yC (k _ _ ?_) | refine zg (k _ ?_)); clear k K) | (rename_i A B C D a b c d; (first | refine zx (a ?_) | refine zy (b ?_) | refine zz (fun hc => c ?_) (fun hc => d ?_) | refine zv (b ?_) | refine zw (a ?_)) <;> clear a b c d A B C D <;> try simp only [yL] at hc)) | refine zA ?_ | refine zB ?_ | refine zF ?_)
  refine Gw_s fun K' hK' => G1_call (by simp only [gtarget, ↓GArg.ev, ↓evs, ↓Tr.get_set, Nat.reduceEqDiff, if_true, if_false, ↓reduceIte, Option.map_some]; rfl) (one_of (hl _)) fun r1 H1 hq => hK' _ _ ?_
  obtain ⟨rfl, rfl⟩ := hq
  repeat' (first | refine zn ?_ | refine zK rfl ?_ | refine zP rfl ?_ | ((first | refine zm ?_ | skip); intro _; intros; simp (disch := first | exact zd | fail) only [↓yS, yT, gresults, gone, ↓reduceIte, Nat.reduceEqDiff, Nat.reduceAdd, Nat.reduceMul, reduceCtorEq, Int.reduceToNat, g89]; first | (rename_i K k; (first | refine yC (k _ _ ?_) | refine zg (k _ ?_)); clear k K) | (rename_i A B C D a b c d; (first | refine zx (a ?_) | refine zy (b ?_) | refine zz (fun hc => c ?_) (fun hc => d ?_) | refine zv (b ?_) | refine zw (a ?_)) <;> clear a b c d A B C D <;> try simp only [yL] at hc)) | refine zA ?_ | refine zB ?_ | refine zF ?_)
  exact hPost _
theorem ixb_neg (b : UInt8) : (indexByte [34, 92, 110] b < 0) = ¬ (b = 34 ∨ b = 92 ∨ b = 110) := by
  apply propext
  simp only [indexByte]
  constructor
  · intro h hh
    rcases hh with rfl | rfl | rfl <;> revert h <;> decide
  · intro h
    simp only [not_or] at h
    obtain ⟨h1, h2, h3⟩ := h
    have e1 : (34 == b) = false := beq_eq_false_iff_ne.2 (Ne.symm h1)
    have e2 : (92 == b) = false := beq_eq_false_iff_ne.2 (Ne.symm h2)
    have e3 : (110 == b) = false := beq_eq_false_iff_ne.2 (Ne.symm h3)
    simp [e1, e2, e3]
theorem quoted_ok {l : List UInt8} (h0 : 1 ≤ l.length) (hl : l.length ≤ 16777216) (H : GHeap) : gev G 77 [.string (strB l)] H = some (qtV (qtd (l.drop 1) 1 []), H) := by
  refine gev_GWP (f := 77) rfl rfl (litQt _) (fun Post hPost => ?_) H
  have hw := root_wf
  have hls := strB_size l
  generalize hR : qtd (l.drop 1) 1 [] = R at hPost
  simp only [frameOf, Nat.reduceAdd]
  repeat' (first | refine zn ?_ | refine zK rfl ?_ | refine zP rfl ?_ | ((first | refine zm ?_ | skip); intro _; intros; simp (disch := first | exact zd | fail) only [↓yS, yT, gresults, gone, ↓reduceIte, Nat.reduceEqDiff, Nat.reduceAdd, Nat.reduceMul, reduceCtorEq, Int.reduceToNat, g77]; first | (rename_i K k; (first | refine yC (k _ _ ?_) | refine zg (k _ ?_)); clear k K) | (rename_i A B C D a b c d; (first | refine zx (a ?_) | refine zy (b ?_) | refine zz (fun hc => c ?_) (fun hc => d ?_) | refine zv (b ?_) | refine zw (a ?_)) <;> clear a b c d A B C D <;> try simp only [yL] at hc)) | refine zA ?_ | refine zB ?_ | refine zF ?_)
  refine GW_loop (fun k fr H1 => ∃ (i : Nat) (o : List UInt8) (v : Value), k = l.length - i ∧ 1 ≤ i ∧ i ≤ l.length ∧ o.length ≤ i ∧ fr.get 0 = some (.string (strB l)) ∧ fr.get 5 = some (v) ∧ fr.get 6 = some (.int .i64 i) ∧ OS 1 257 ⟨.nil, 0, 0⟩ H1 v o.length (u8s o) ∧ qtd (l.drop i) i o = R) ?_ (l.length - 1) ?_
  case refine_2 =>
    refine ⟨1, [], .slice none 0 0, by omega, by omega, by omega, by simp, ?_⟩
    simp only [↓yG, Nat.reduceEqDiff, ↓reduceIte, Int.natCast_add, Int.cast_ofNat_Int, Int.natCast_zero, true_and, and_true, Option.some.injEq, Value.int.injEq]
    exact ⟨OS.nil (Same.refl hw), hR⟩
  rintro k fr H1 ⟨i, o, v, rfl, hi1, hi, ho, f0, f5, f6, hO, hq⟩ J hJ
  have hRB : RB H1 v o := OwnG.arg hO.same.wf hO.own (.inr rfl)
  have hst := hRB.str
  have hgo : ∀ (i' : Nat) (o' : List UInt8) (v' : Value) fr H2, l.length - i' < l.length - i → 1 ≤ i' → i' ≤ l.length → o'.length ≤ i' → fr.get 0 = some (.string (strB l)) → fr.get 5 = some v' → fr.get 6 = some (.int .i64 i') → OS 1 257 ⟨.nil, 0, 0⟩ H2 v' o'.length (u8s o') → qtd (l.drop i') i' o' = R → J fr H2 := fun i' o' v' fr H2 a1 a2 a3 a4 a5 a6 a7 a8 a9 => hJ _ _ ⟨l.length - i', a1, i', o', v', rfl, a2, a3, a4, a5, a6, a7, a8, a9⟩
  clear hJ
  by_cases hil : i < l.length
  case neg =>
    obtain rfl : i = l.length := by omega
    rw [qat_end _ (Nat.le_refl _)] at hq
    subst hq
    repeat' (first | (exfalso; omega) | refine zn ?_ | refine zK rfl ?_ | refine zP rfl ?_ | ((first | refine zm ?_ | skip); intro _; intros; simp (disch := first | exact zd | fail) only [↓yS, yT, gresults, gone, ↓reduceIte, Nat.reduceEqDiff, Nat.reduceAdd, Nat.reduceMul, reduceCtorEq, Int.reduceToNat, g77, f0, f5, f6, hls]; first | (rename_i K k; (first | refine yC (k _ _ ?_) | refine zg (k _ ?_)); clear k K) | (rename_i A B C D a b c d; (first | refine zx (a ?_) | refine zy (b ?_) | refine zz (fun hc => c ?_) (fun hc => d ?_) | refine zv (b ?_) | refine zw (a ?_)) <;> clear a b c d A B C D <;> try simp only [yL] at hc)) | refine zA ?_ | refine zB ?_ | refine zF ?_)
    exact hPost _
  have ej := fun k => strB_at (k := k) hil
  have hdl : ∀ k, k ≤ l.length → True := fun _ _ => trivial
  have hcellu : ∀ x : UInt8, (u8s (List.replicate 1 0)).set 0 (.int .u8 ((x.toNat : Nat) : Int)) = u8s [x] := fun x => rfl
  have hc10u : (u8s (List.replicate 1 0)).set 0 (.int .u8 (10 : Int)) = u8s [10] := rfl
  by_cases hi2 : i + 1 < l.length
  case neg =>
    have hi3 : i + 1 = l.length := by omega
    rw [qat_one _ hi3] at hq
    generalize l[i]! = b at *
    by_cases b34 : b = 34
    · have b34' := eq_true b34
      rw [if_pos b34] at hq
      subst hq
      repeat' (first | (exfalso; omega) | refine zn ?_ | refine zK rfl ?_ | refine zP rfl ?_ | ((first | refine zm ?_ | skip); intro _; intros; simp (disch := first | exact zd | fail) only [↓yS, yT, gresults, gone, ↓reduceIte, Nat.reduceEqDiff, Nat.reduceAdd, Nat.reduceMul, reduceCtorEq, Int.reduceToNat, g77, f0, f5, f6, hls, ej, by34, b34', decide_true, hst]; first | (rename_i K k; (first | refine yC (k _ _ ?_) | refine zg (k _ ?_)); clear k K) | (rename_i A B C D a b c d; (first | refine zx (a ?_) | refine zy (b ?_) | refine zz (fun hc => c ?_) (fun hc => d ?_) | refine zv (b ?_) | refine zw (a ?_)) <;> clear a b c d A B C D <;> try simp only [yL] at hc)) | refine zA ?_ | refine zB ?_ | refine zF ?_)
      exact hPost _
    have b34' := eq_false b34
    rw [if_neg b34] at hq
    by_cases b92 : b = 92
    · have b92' := eq_true b92
      rw [if_pos b92] at hq
      subst hq
      repeat' (first | (exfalso; omega) | refine zn ?_ | refine zK rfl ?_ | refine zP rfl ?_ | ((first | refine zm ?_ | skip); intro _; intros; simp (disch := first | exact zd | fail) only [↓yS, yT, gresults, gone, ↓reduceIte, Nat.reduceEqDiff, Nat.reduceAdd, Nat.reduceMul, reduceCtorEq, Int.reduceToNat, g77, f0, f5, f6, hls, ej, by34, b34', decide_false, by92, b92', decide_true, hi3]; first | (rename_i K k; (first | refine yC (k _ _ ?_) | refine zg (k _ ?_)); clear k K) | (rename_i A B C D a b c d; (first | refine zx (a ?_) | refine zy (b ?_) | refine zz (fun hc => c ?_) (fun hc => d ?_) | refine zv (b ?_) | refine zw (a ?_)) <;> clear a b c d A B C D <;> try simp only [yL] at hc)) | refine zA ?_ | refine zB ?_ | refine zF ?_)
      exact hPost _
    have b92' := eq_false b92
    rw [if_neg b92] at hq
    by_cases bc : b < 32
    · have bc' := eq_true bc
      rw [if_pos (.inl bc)] at hq
      subst hq
      repeat' (first | (exfalso; omega) | refine zn ?_ | refine zK rfl ?_ | refine zP rfl ?_ | ((first | refine zm ?_ | skip); intro _; intros; simp (disch := first | exact zd | fail) only [↓yS, yT, gresults, gone, ↓reduceIte, Nat.reduceEqDiff, Nat.reduceAdd, Nat.reduceMul, reduceCtorEq, Int.reduceToNat, g77, f0, f5, f6, hls, ej, by34, b34', decide_false, by92, b92', decide_true, lt32, bc']; first | (rename_i K k; (first | refine yC (k _ _ ?_) | refine zg (k _ ?_)); clear k K) | (rename_i A B C D a b c d; (first | refine zx (a ?_) | refine zy (b ?_) | refine zz (fun hc => c ?_) (fun hc => d ?_) | refine zv (b ?_) | refine zw (a ?_)) <;> clear a b c d A B C D <;> try simp only [yL] at hc)) | refine zA ?_ | refine zB ?_ | refine zF ?_)
      exact hPost _
    have bc' := eq_false bc
    by_cases b127 : b = 127
    · have b127' := eq_true b127
      rw [if_pos (.inr b127)] at hq
      subst hq
      repeat' (first | (exfalso; omega) | refine zn ?_ | refine zK rfl ?_ | refine zP rfl ?_ | ((first | refine zm ?_ | skip); intro _; intros; simp (disch := first | exact zd | fail) only [↓yS, yT, gresults, gone, ↓reduceIte, Nat.reduceEqDiff, Nat.reduceAdd, Nat.reduceMul, reduceCtorEq, Int.reduceToNat, g77, f0, f5, f6, hls, ej, by34, b34', decide_false, by92, b92', decide_true, lt32, bc', by127, b127']; first | (rename_i K k; (first | refine yC (k _ _ ?_) | refine zg (k _ ?_)); clear k K) | (rename_i A B C D a b c d; (first | refine zx (a ?_) | refine zy (b ?_) | refine zz (fun hc => c ?_) (fun hc => d ?_) | refine zv (b ?_) | refine zw (a ?_)) <;> clear a b c d A B C D <;> try simp only [yL] at hc)) | refine zA ?_ | refine zB ?_ | refine zF ?_)
      exact hPost _
    have b127' := eq_false b127
    rw [if_neg (fun h => h.elim bc b127)] at hq
    repeat' (first | (exfalso; omega) | refine zn ?_ | refine zK rfl ?_ | refine zP rfl ?_ | ((first | refine zm ?_ | skip); intro _; intros; simp (disch := first | exact zd | fail) only [↓yS, yT, gresults, gone, ↓reduceIte, Nat.reduceEqDiff, Nat.reduceAdd, Nat.reduceMul, reduceCtorEq, Int.reduceToNat, g77, f0, f5, f6, hls, ej, by34, b34', decide_false, by92, b92', decide_true, lt32, bc', by127, b127']; first | (rename_i K k; (first | refine yC (k _ _ ?_) | refine zg (k _ ?_)); clear k K) | (rename_i A B C D a b c d; (first | refine zx (a ?_) | refine zy (b ?_) | refine zz (fun hc => c ?_) (fun hc => d ?_) | refine zv (b ?_) | refine zw (a ?_)) <;> clear a b c d A B C D <;> try simp only [yL] at hc)) | refine zA ?_ | refine zB ?_ | refine zF ?_)
    rw [hcellu]
    refine Gw_s fun K' hK' => ?_
    simp (disch := first | exact zd | fail) only [↓yS, yT, ↓reduceIte, Nat.reduceEqDiff, Nat.reduceAdd, Nat.reduceMul, reduceCtorEq, Int.reduceToNat, f0, f5, f6]
    obtain ⟨v2, H3, e, hO2, hB2⟩ := hO.appB [b] (by simp only [List.length_cons, List.length_nil]; omega)
    refine G1_eq e (hK' _ _ ?_)
    clear hK' K' e
    repeat' (first | (exfalso; omega) | refine zn ?_ | refine zK rfl ?_ | refine zP rfl ?_ | ((first | refine zm ?_ | skip); intro _; intros; simp (disch := first | exact zd | fail) only [↓yS, yT, gresults, gone, ↓reduceIte, Nat.reduceEqDiff, Nat.reduceAdd, Nat.reduceMul, reduceCtorEq, Int.reduceToNat, g77, f0, f5, f6]; first | (rename_i K k; (first | refine yC (k _ _ ?_) | refine zg (k _ ?_)); clear k K) | (rename_i A B C D a b c d; (first | refine zx (a ?_) | refine zy (b ?_) | refine zz (fun hc => c ?_) (fun hc => d ?_) | refine zv (b ?_) | refine zw (a ?_)) <;> clear a b c d A B C D <;> try simp only [yL] at hc)) | refine zA ?_ | refine zB ?_ | refine zF ?_)
    refine hgo (i + 1) (o ++ [b]) v2 _ _ (by omega) (by omega) (by omega) (by simp; omega) ?_ ?_ ?_ ?_ ?_
    · simp only [↓yG, Nat.reduceEqDiff, ↓reduceIte, Int.natCast_add, Int.cast_ofNat_Int, Int.natCast_zero, true_and, and_true, Option.some.injEq, Value.int.injEq, f0, f5, f6]
    · simp only [↓yG, Nat.reduceEqDiff, ↓reduceIte, Int.natCast_add, Int.cast_ofNat_Int, Int.natCast_zero, true_and, and_true, Option.some.injEq, Value.int.injEq, f0, f5, f6]
    · simp only [↓yG, Nat.reduceEqDiff, ↓reduceIte, Int.natCast_add, Int.cast_ofNat_Int, Int.natCast_zero, true_and, and_true, Option.some.injEq, Value.int.injEq, f0, f5, f6]
    · rw [u8s_append, List.length_append]; exact hO2
    · rw [qat_end _ (by omega)]; exact hq
  have ej2 : ∀ k, gix none (.string (strB l)) (.int k ((i : Int) + 1)) = some (.int .u8 (l[i + 1]!.toNat : Nat)) := fun k => strB_at (k := k) (j := i + 1) hi2
  rw [qat_two _ hi2] at hq
  generalize l[i]! = b at *
  generalize l[i + 1]! = c at *
  by_cases b34 : b = 34
  · have b34' := eq_true b34
    rw [if_pos b34] at hq
    by_cases c32 : c = 32
    · have c32' := eq_true c32
      rw [if_pos c32] at hq
      subst hq
      repeat' (first | (exfalso; omega) | refine zn ?_ | refine zK rfl ?_ | refine zP rfl ?_ | ((first | refine zm ?_ | skip); intro _; intros; simp (disch := first | exact zd | fail) only [↓yS, yT, gresults, gone, ↓reduceIte, Nat.reduceEqDiff, Nat.reduceAdd, Nat.reduceMul, reduceCtorEq, Int.reduceToNat, g77, f0, f5, f6, hls, ej, by34, b34', decide_true, ej2, by32, c32', not_true_eq_false, decide_false, hst]; first | (rename_i K k; (first | refine yC (k _ _ ?_) | refine zg (k _ ?_)); clear k K) | (rename_i A B C D a b c d; (first | refine zx (a ?_) | refine zy (b ?_) | refine zz (fun hc => c ?_) (fun hc => d ?_) | refine zv (b ?_) | refine zw (a ?_)) <;> clear a b c d A B C D <;> try simp only [yL] at hc)) | refine zA ?_ | refine zB ?_ | refine zF ?_)
      exact hPost _
    · have c32' := eq_false c32
      rw [if_neg c32] at hq
      subst hq
      repeat' (first | (exfalso; omega) | refine zn ?_ | refine zK rfl ?_ | refine zP rfl ?_ | ((first | refine zm ?_ | skip); intro _; intros; simp (disch := first | exact zd | fail) only [↓yS, yT, gresults, gone, ↓reduceIte, Nat.reduceEqDiff, Nat.reduceAdd, Nat.reduceMul, reduceCtorEq, Int.reduceToNat, g77, f0, f5, f6, hls, ej, by34, b34', decide_true, ej2, by32, c32', not_false_eq_true, decide_false, hst]; first | (rename_i K k; (first | refine yC (k _ _ ?_) | refine zg (k _ ?_)); clear k K) | (rename_i A B C D a b c d; (first | refine zx (a ?_) | refine zy (b ?_) | refine zz (fun hc => c ?_) (fun hc => d ?_) | refine zv (b ?_) | refine zw (a ?_)) <;> clear a b c d A B C D <;> try simp only [yL] at hc)) | refine zA ?_ | refine zB ?_ | refine zF ?_)
      exact hPost _
  have b34' := eq_false b34
  rw [if_neg b34] at hq
  by_cases b92 : b = 92
  · have b92' := eq_true b92
    rw [if_pos b92] at hq
    have hne : ¬ ((i : Int) + 1 = l.length) := by omega
    have ne2 := eq_false hne
    have hin := ixb_neg c
    by_cases cE : c = 34 ∨ c = 92 ∨ c = 110
    · have cE' := eq_true cE
      rw [cE', not_true_eq_false] at hin
      repeat' (first | (exfalso; omega) | refine zn ?_ | refine zK rfl ?_ | refine zP rfl ?_ | ((first | refine zm ?_ | skip); intro _; intros; simp (disch := first | exact zd | fail) only [↓yS, yT, gresults, gone, ↓reduceIte, Nat.reduceEqDiff, Nat.reduceAdd, Nat.reduceMul, reduceCtorEq, Int.reduceToNat, g77, f0, f5, f6, hls, ej, by34, b34', decide_false, by92, b92', decide_true, ne2, ej2]; first | (rename_i K k; (first | refine yC (k _ _ ?_) | refine zg (k _ ?_)); clear k K) | (rename_i A B C D a b c d; (first | refine zx (a ?_) | refine zy (b ?_) | refine zz (fun hc => c ?_) (fun hc => d ?_) | refine zv (b ?_) | refine zw (a ?_)) <;> clear a b c d A B C D <;> try simp only [yL] at hc)) | refine zA ?_ | refine zB ?_ | refine zF ?_)
      intro K' hK'; refine G1_call (by simp only [gtarget, ↓GArg.ev, ↓evs, ↓Tr.get_set, Nat.reduceEqDiff, if_true, if_false, ↓reduceIte, Option.map_some, f0, f5, f6]; rfl) (one_of (ixb_ok (b := c) (by rfl) _)) fun r9 H9 hq9 => hK' _ _ ?_
      obtain ⟨rfl, rfl⟩ := hq9
      by_cases c110 : c = 110
      · have c110' := eq_true c110
        rw [if_neg (by subst c110; decide), if_pos c110] at hq
        repeat' (first | (exfalso; omega) | refine zn ?_ | refine zK rfl ?_ | refine zP rfl ?_ | ((first | refine zm ?_ | skip); intro _; intros; simp (disch := first | exact zd | fail) only [↓yS, yT, gresults, gone, ↓reduceIte, Nat.reduceEqDiff, Nat.reduceAdd, Nat.reduceMul, reduceCtorEq, Int.reduceToNat, g77, f0, f5, f6, hin, decide_false, ej2, by110, c110', decide_true]; first | (rename_i K k; (first | refine yC (k _ _ ?_) | refine zg (k _ ?_)); clear k K) | (rename_i A B C D a b c d; (first | refine zx (a ?_) | refine zy (b ?_) | refine zz (fun hc => c ?_) (fun hc => d ?_) | refine zv (b ?_) | refine zw (a ?_)) <;> clear a b c d A B C D <;> try simp only [yL] at hc)) | refine zA ?_ | refine zB ?_ | refine zF ?_)
        rw [hc10u]
        refine Gw_s fun K' hK' => ?_
        simp (disch := first | exact zd | fail) only [↓yS, yT, ↓reduceIte, Nat.reduceEqDiff, Nat.reduceAdd, Nat.reduceMul, reduceCtorEq, Int.reduceToNat, f0, f5, f6]
        obtain ⟨v2, H3, e, hO2, hB2⟩ := hO.appB [10] (by simp only [List.length_cons, List.length_nil]; omega)
        refine G1_eq e (hK' _ _ ?_)
        clear hK' K' e
        repeat' (first | (exfalso; omega) | refine zn ?_ | refine zK rfl ?_ | refine zP rfl ?_ | ((first | refine zm ?_ | skip); intro _; intros; simp (disch := first | exact zd | fail) only [↓yS, yT, gresults, gone, ↓reduceIte, Nat.reduceEqDiff, Nat.reduceAdd, Nat.reduceMul, reduceCtorEq, Int.reduceToNat, g77, f0, f5, f6]; first | (rename_i K k; (first | refine yC (k _ _ ?_) | refine zg (k _ ?_)); clear k K) | (rename_i A B C D a b c d; (first | refine zx (a ?_) | refine zy (b ?_) | refine zz (fun hc => c ?_) (fun hc => d ?_) | refine zv (b ?_) | refine zw (a ?_)) <;> clear a b c d A B C D <;> try simp only [yL] at hc)) | refine zA ?_ | refine zB ?_ | refine zF ?_)
        refine hgo (i + 2) (o ++ [10]) v2 _ _ (by omega) (by omega) (by omega) (by simp; omega) ?_ ?_ ?_ ?_ ?_
        · simp only [↓yG, Nat.reduceEqDiff, ↓reduceIte, Int.natCast_add, Int.cast_ofNat_Int, Int.natCast_zero, true_and, and_true, Option.some.injEq, Value.int.injEq, f0, f5, f6]
        · simp only [↓yG, Nat.reduceEqDiff, ↓reduceIte, Int.natCast_add, Int.cast_ofNat_Int, Int.natCast_zero, true_and, and_true, Option.some.injEq, Value.int.injEq, f0, f5, f6]
        · simp only [↓yG, Nat.reduceEqDiff, ↓reduceIte, Int.natCast_add, Int.cast_ofNat_Int, Int.natCast_zero, true_and, and_true, Option.some.injEq, Value.int.injEq, f0, f5, f6]
          omega
        · rw [u8s_append, List.length_append]; exact hO2
        · exact hq
      · have c110' := eq_false c110
        rw [if_pos (cE.elim .inl fun h => h.elim .inr fun h => absurd h c110)] at hq
        repeat' (first | (exfalso; omega) | refine zn ?_ | refine zK rfl ?_ | refine zP rfl ?_ | ((first | refine zm ?_ | skip); intro _; intros; simp (disch := first | exact zd | fail) only [↓yS, yT, gresults, gone, ↓reduceIte, Nat.reduceEqDiff, Nat.reduceAdd, Nat.reduceMul, reduceCtorEq, Int.reduceToNat, g77, f0, f5, f6, hin, decide_false, ej2, by110, c110', decide_true]; first | (rename_i K k; (first | refine yC (k _ _ ?_) | refine zg (k _ ?_)); clear k K) | (rename_i A B C D a b c d; (first | refine zx (a ?_) | refine zy (b ?_) | refine zz (fun hc => c ?_) (fun hc => d ?_) | refine zv (b ?_) | refine zw (a ?_)) <;> clear a b c d A B C D <;> try simp only [yL] at hc)) | refine zA ?_ | refine zB ?_ | refine zF ?_)
        rw [hcellu]
        refine Gw_s fun K' hK' => ?_
        simp (disch := first | exact zd | fail) only [↓yS, yT, ↓reduceIte, Nat.reduceEqDiff, Nat.reduceAdd, Nat.reduceMul, reduceCtorEq, Int.reduceToNat, f0, f5, f6]
        obtain ⟨v2, H3, e, hO2, hB2⟩ := hO.appB [c] (by simp only [List.length_cons, List.length_nil]; omega)
        refine G1_eq e (hK' _ _ ?_)
        clear hK' K' e
        repeat' (first | (exfalso; omega) | refine zn ?_ | refine zK rfl ?_ | refine zP rfl ?_ | ((first | refine zm ?_ | skip); intro _; intros; simp (disch := first | exact zd | fail) only [↓yS, yT, gresults, gone, ↓reduceIte, Nat.reduceEqDiff, Nat.reduceAdd, Nat.reduceMul, reduceCtorEq, Int.reduceToNat, g77, f0, f5, f6]; first | (rename_i K k; (first | refine yC (k _ _ ?_) | refine zg (k _ ?_)); clear k K) | (rename_i A B C D a b c d; (first | refine zx (a ?_) | refine zy (b ?_) | refine zz (fun hc => c ?_) (fun hc => d ?_) | refine zv (b ?_) | refine zw (a ?_)) <;> clear a b c d A B C D <;> try simp only [yL] at hc)) | refine zA ?_ | refine zB ?_ | refine zF ?_)
        refine hgo (i + 2) (o ++ [c]) v2 _ _ (by omega) (by omega) (by omega) (by simp; omega) ?_ ?_ ?_ ?_ ?_
        · simp only [↓yG, Nat.reduceEqDiff, ↓reduceIte, Int.natCast_add, Int.cast_ofNat_Int, Int.natCast_zero, true_and, and_true, Option.some.injEq, Value.int.injEq, f0, f5, f6]
        · simp only [↓yG, Nat.reduceEqDiff, ↓reduceIte, Int.natCast_add, Int.cast_ofNat_Int, Int.natCast_zero, true_and, and_true, Option.some.injEq, Value.int.injEq, f0, f5, f6]
        · simp only [↓yG, Nat.reduceEqDiff, ↓reduceIte, Int.natCast_add, Int.cast_ofNat_Int, Int.natCast_zero, true_and, and_true, Option.some.injEq, Value.int.injEq, f0, f5, f6]
          omega
        · rw [u8s_append, List.length_append]; exact hO2
        · exact hq
    · have cE' := eq_false cE
      rw [cE', not_false_eq_true] at hin
      rw [if_neg (fun h => cE (h.elim .inl fun h => .inr (.inl h))), if_neg (fun h => cE (.inr (.inr h)))] at hq
      subst hq
      repeat' (first | (exfalso; omega) | refine zn ?_ | refine zK rfl ?_ | refine zP rfl ?_ | ((first | refine zm ?_ | skip); intro _; intros; simp (disch := first | exact zd | fail) only [↓yS, yT, gresults, gone, ↓reduceIte, Nat.reduceEqDiff, Nat.reduceAdd, Nat.reduceMul, reduceCtorEq, Int.reduceToNat, g77, f0, f5, f6, hls, ej, by34, b34', decide_false, by92, b92', decide_true, ne2, ej2]; first | (rename_i K k; (first | refine yC (k _ _ ?_) | refine zg (k _ ?_)); clear k K) | (rename_i A B C D a b c d; (first | refine zx (a ?_) | refine zy (b ?_) | refine zz (fun hc => c ?_) (fun hc => d ?_) | refine zv (b ?_) | refine zw (a ?_)) <;> clear a b c d A B C D <;> try simp only [yL] at hc)) | refine zA ?_ | refine zB ?_ | refine zF ?_)
      intro K' hK'; refine G1_call (by simp only [gtarget, ↓GArg.ev, ↓evs, ↓Tr.get_set, Nat.reduceEqDiff, if_true, if_false, ↓reduceIte, Option.map_some, f0, f5, f6]; rfl) (one_of (ixb_ok (b := c) (by rfl) _)) fun r9 H9 hq9 => hK' _ _ ?_
      obtain ⟨rfl, rfl⟩ := hq9
      repeat' (first | (exfalso; omega) | refine zn ?_ | refine zK rfl ?_ | refine zP rfl ?_ | ((first | refine zm ?_ | skip); intro _; intros; simp (disch := first | exact zd | fail) only [↓yS, yT, gresults, gone, ↓reduceIte, Nat.reduceEqDiff, Nat.reduceAdd, Nat.reduceMul, reduceCtorEq, Int.reduceToNat, g77, f0, f5, f6, hin, decide_true]; first | (rename_i K k; (first | refine yC (k _ _ ?_) | refine zg (k _ ?_)); clear k K) | (rename_i A B C D a b c d; (first | refine zx (a ?_) | refine zy (b ?_) | refine zz (fun hc => c ?_) (fun hc => d ?_) | refine zv (b ?_) | refine zw (a ?_)) <;> clear a b c d A B C D <;> try simp only [yL] at hc)) | refine zA ?_ | refine zB ?_ | refine zF ?_)
      exact hPost _
  have b92' := eq_false b92
  rw [if_neg b92] at hq
  by_cases bc : b < 32
  · have bc' := eq_true bc
    rw [if_pos (.inl bc)] at hq
    subst hq
    repeat' (first | (exfalso; omega) | refine zn ?_ | refine zK rfl ?_ | refine zP rfl ?_ | ((first | refine zm ?_ | skip); intro _; intros; simp (disch := first | exact zd | fail) only [↓yS, yT, gresults, gone, ↓reduceIte, Nat.reduceEqDiff, Nat.reduceAdd, Nat.reduceMul, reduceCtorEq, Int.reduceToNat, g77, f0, f5, f6, hls, ej, by34, b34', decide_false, by92, b92', decide_true, lt32, bc']; first | (rename_i K k; (first | refine yC (k _ _ ?_) | refine zg (k _ ?_)); clear k K) | (rename_i A B C D a b c d; (first | refine zx (a ?_) | refine zy (b ?_) | refine zz (fun hc => c ?_) (fun hc => d ?_) | refine zv (b ?_) | refine zw (a ?_)) <;> clear a b c d A B C D <;> try simp only [yL] at hc)) | refine zA ?_ | refine zB ?_ | refine zF ?_)
    exact hPost _
  have bc' := eq_false bc
  by_cases b127 : b = 127
  · have b127' := eq_true b127
    rw [if_pos (.inr b127)] at hq
    subst hq
    repeat' (first | (exfalso; omega) | refine zn ?_ | refine zK rfl ?_ | refine zP rfl ?_ | ((first | refine zm ?_ | skip); intro _; intros; simp (disch := first | exact zd | fail) only [↓yS, yT, gresults, gone, ↓reduceIte, Nat.reduceEqDiff, Nat.reduceAdd, Nat.reduceMul, reduceCtorEq, Int.reduceToNat, g77, f0, f5, f6, hls, ej, by34, b34', decide_false, by92, b92', decide_true, lt32, bc', by127, b127']; first | (rename_i K k; (first | refine yC (k _ _ ?_) | refine zg (k _ ?_)); clear k K) | (rename_i A B C D a b c d; (first | refine zx (a ?_) | refine zy (b ?_) | refine zz (fun hc => c ?_) (fun hc => d ?_) | refine zv (b ?_) | refine zw (a ?_)) <;> clear a b c d A B C D <;> try simp only [yL] at hc)) | refine zA ?_ | refine zB ?_ | refine zF ?_)
    exact hPost _
  have b127' := eq_false b127
  rw [if_neg (fun h => h.elim bc b127)] at hq
  repeat' (first | (exfalso; omega) | refine zn ?_ | refine zK rfl ?_ | refine zP rfl ?_ | ((first | refine zm ?_ | skip); intro _; intros; simp (disch := first | exact zd | fail) only [↓yS, yT, gresults, gone, ↓reduceIte, Nat.reduceEqDiff, Nat.reduceAdd, Nat.reduceMul, reduceCtorEq, Int.reduceToNat, g77, f0, f5, f6, hls, ej, by34, b34', decide_false, by92, b92', decide_true, lt32, bc', by127, b127']; first | (rename_i K k; (first | refine yC (k _ _ ?_) | refine zg (k _ ?_)); clear k K) | (rename_i A B C D a b c d; (first | refine zx (a ?_) | refine zy (b ?_) | refine zz (fun hc => c ?_) (fun hc => d ?_) | refine zv (b ?_) | refine zw (a ?_)) <;> clear a b c d A B C D <;> try simp only [yL] at hc)) | refine zA ?_ | refine zB ?_ | refine zF ?_)
  rw [hcellu]
  refine Gw_s fun K' hK' => ?_
  simp (disch := first | exact zd | fail) only [↓yS, yT, ↓reduceIte, Nat.reduceEqDiff, Nat.reduceAdd, Nat.reduceMul, reduceCtorEq, Int.reduceToNat, f0, f5, f6]
  obtain ⟨v2, H3, e, hO2, hB2⟩ := hO.appB [b] (by simp only [List.length_cons, List.length_nil]; omega)
  refine G1_eq e (hK' _ _ ?_)
  clear hK' K' e
  repeat' (first | (exfalso; omega) | refine zn ?_ | refine zK rfl ?_ | refine zP rfl ?_ | ((first | refine zm ?_ | skip); intro _; intros; simp (disch := first | exact zd | fail) only [↓yS, yT, gresults, gone, ↓reduceIte, Nat.reduceEqDiff, Nat.reduceAdd, Nat.reduceMul, reduceCtorEq, Int.reduceToNat, g77, f0, f5, f6]; first | (rename_i K k; (first | refine yC (k _ _ ?_) | refine zg (k _ ?_)); clear k K) | (rename_i A B C D a b c d; (first | refine zx (a ?_) | refine zy (b ?_) | refine zz (fun hc => c ?_) (fun hc => d ?_) | refine zv (b ?_) | refine zw (a ?_)) <;> clear a b c d A B C D <;> try simp only [yL] at hc)) | refine zA ?_ | refine zB ?_ | refine zF ?_)
  refine hgo (i + 1) (o ++ [b]) v2 _ _ (by omega) (by omega) (by omega) (by simp; omega) ?_ ?_ ?_ ?_ ?_
  · simp only [↓yG, Nat.reduceEqDiff, ↓reduceIte, Int.natCast_add, Int.cast_ofNat_Int, Int.natCast_zero, true_and, and_true, Option.some.injEq, Value.int.injEq, f0, f5, f6]
  · simp only [↓yG, Nat.reduceEqDiff, ↓reduceIte, Int.natCast_add, Int.cast_ofNat_Int, Int.natCast_zero, true_and, and_true, Option.some.injEq, Value.int.injEq, f0, f5, f6]
  · simp only [↓yG, Nat.reduceEqDiff, ↓reduceIte, Int.natCast_add, Int.cast_ofNat_Int, Int.natCast_zero, true_and, and_true, Option.some.injEq, Value.int.injEq, f0, f5, f6]
  · rw [u8s_append, List.length_append]; exact hO2
  · exact hq
end Go.Gh
