/-
  lines and its reference, walked: words, the reference's quoted strings, the fields of a line.
-/
import Derived.Test.YtfldcmeecpgpeaaGreatDoorGlW5
namespace Go.Gh
set_option linter.unusedSimpArgs false
set_option linter.unusedVariables false
set_option maxHeartbeats 4000000
open Go.RowKit Go.Lib
set_option maxRecDepth 4000
theorem wordb_eq (b : UInt8) : wordb b = (decide (32 < (b.toNat : Int)) && decide ((b.toNat : Int) < 127) && decide (¬ (b.toNat : Int) = 34)) := by
  unfold wordb
  have h1 : (32 < b) = (32 < (b.toNat : Int)) := by
    apply propext; rw [UInt8.lt_iff_toNat_lt]
    have h : (32 : UInt8).toNat = 32 := rfl
    rw [h]; omega
  have h2 : (b < 127) = ((b.toNat : Int) < 127) := by
    apply propext; rw [UInt8.lt_iff_toNat_lt]
    have h : (127 : UInt8).toNat = 127 := rfl
    rw [h]; omega
  simp only [h1, h2, by34]
theorem isWord_ok {b : UInt8} (H : GHeap) : gev G 75 [.int .u8 (b.toNat : Nat)] H = some (.bool (wordb b), H) := by
  refine gev_GWP (f := 75) rfl rfl rfl (fun Post hPost => ?_) H
  have hP : ∀ c, wordb b = c → ∀ H', Post (.bool c) H' := fun c e => e ▸ hPost
  clear hPost
  simp only [frameOf, Nat.reduceAdd]
  repeat' (first | refine zn ?_ | refine zK rfl ?_ | refine zP rfl ?_ | ((first | refine zm ?_ | skip); intro _; intros; simp (disch := first | exact zd | fail) only [↓yS, yT, gresults, gone, ↓reduceIte, Nat.reduceEqDiff, Nat.reduceAdd, Nat.reduceMul, reduceCtorEq, Int.reduceToNat, g75]; first | (rename_i K k; (first | refine yC (k _ _ ?_) | refine zg (k _ ?_)); clear k K) | (rename_i A B C D a b c d; (first | refine zx (a ?_) | refine zy (b ?_) | refine zz (fun hc => c ?_) (fun hc => d ?_) | refine zv (b ?_) | refine zw (a ?_)) <;> clear a b c d A B C D <;> try simp only [yL] at hc)) | refine zA ?_ | refine zB ?_ | refine zF ?_)
  case refine_1.refine_1 => exact hP _ (by rw [wordb_eq, decide_eq_true (show 32 < (b.toNat : Int) by omega), decide_eq_true (show (b.toNat : Int) < 127 by omega)]; rfl) _
  case refine_1.refine_2 => exact hP _ (by rw [wordb_eq, decide_eq_false (show ¬ (b.toNat : Int) < 127 by omega), Bool.and_false, Bool.false_and]) _
  case refine_2 => exact hP _ (by rw [wordb_eq, decide_eq_false (show ¬ 32 < (b.toNat : Int) by omega), Bool.false_and, Bool.false_and]) _
def wrV : QR → Value
  | .ok _ j => .tuple #[.int .i64 j, .int .i64 (-1)]
  | .bad i => .tuple #[.int .i64 0, .int .i64 i]
theorem litWr (R : QR) : litVal (wrV R) = true := by cases R <;> simp [wrV, litVal, litOk, litFlat]
def wordQ (l : List UInt8) : QR := if l ≠ [] ∧ l[0]! = 35 then .bad 0 else wrd l 0 []
theorem word_ok {l : List UInt8} (hl : l.length ≤ 16777216) (H : GHeap) : gev G 53 [.string (strB l)] H = some (wrV (wordQ l), H) := by
  refine gev_GWP (f := 53) rfl rfl (litWr _) (fun Post hPost => ?_) H
  have hls := strB_size l
  by_cases h35 : l ≠ [] ∧ l[0]! = 35
  · have hpos := List.length_pos_iff.2 h35.1
    unfold wordQ at hPost
    rw [if_pos h35] at hPost
    simp only [frameOf, Nat.reduceAdd]
    repeat' (first | refine zn ?_ | refine zK rfl ?_ | refine zP rfl ?_ | ((first | refine zm ?_ | skip); intro _; intros; simp (disch := first | exact zd | fail) only [↓yS, yT, gresults, gone, ↓reduceIte, Nat.reduceEqDiff, Nat.reduceAdd, Nat.reduceMul, reduceCtorEq, Int.reduceToNat, g53, hls]; first | (rename_i K k; (first | refine yC (k _ _ ?_) | refine zg (k _ ?_)); clear k K) | (rename_i A B C D a b c d; (first | refine zx (a ?_) | refine zy (b ?_) | refine zz (fun hc => c ?_) (fun hc => d ?_) | refine zv (b ?_) | refine zw (a ?_)) <;> clear a b c d A B C D <;> try simp only [yL] at hc)) | refine zA ?_ | refine zB ?_ | refine zF ?_)
    refine GW_loop (fun k fr H1 => k = 1 ∧ fr.get 0 = some (.string (strB l)) ∧ fr.get 6 = some (.int .i64 l.length) ∧ fr.get 7 = some (.int .i64 0)) ?_ 1 ?_
    case refine_2 =>
      refine ⟨rfl, ?_⟩
      simp only [↓yG, Nat.reduceEqDiff, ↓reduceIte, Int.natCast_add, Int.cast_ofNat_Int, Int.natCast_zero, true_and, and_true, Option.some.injEq, Value.int.injEq]
    rintro k fr H1 ⟨rfl, f0, f6, f7⟩ J hJ
    have ej := fun k => strB_at (k := k) hpos
    have ej' : ∀ k, gix none (.string (strB l)) (.int k 0) = some (.int .u8 (l[0]!.toNat : Nat)) := ej
    have h35' := h35.2
    have h32 : ¬ l[0]! = 32 := by rw [h35']; decide
    generalize l[0]! = b at *
    have b35' := eq_true h35'
    have b32' := eq_false h32
    repeat' (first | (exfalso; omega) | refine zn ?_ | refine zK rfl ?_ | refine zP rfl ?_ | ((first | refine zm ?_ | skip); intro _; intros; simp (disch := first | exact zd | fail) only [↓yS, yT, gresults, gone, ↓reduceIte, Nat.reduceEqDiff, Nat.reduceAdd, Nat.reduceMul, reduceCtorEq, Int.reduceToNat, g53, f0, f6, f7, ej', by32, b32', decide_false]; first | (rename_i K k; (first | refine yC (k _ _ ?_) | refine zg (k _ ?_)); clear k K) | (rename_i A B C D a b c d; (first | refine zx (a ?_) | refine zy (b ?_) | refine zz (fun hc => c ?_) (fun hc => d ?_) | refine zv (b ?_) | refine zw (a ?_)) <;> clear a b c d A B C D <;> try simp only [yL] at hc)) | refine zA ?_ | refine zB ?_ | refine zF ?_)
    refine Gw_s fun K' hK' => G1_call (by simp only [gtarget, ↓GArg.ev, ↓evs, ↓Tr.get_set, Nat.reduceEqDiff, if_true, if_false, ↓reduceIte, Option.map_some, f0, f6, f7]; rfl) (one_of (isWord_ok (b := b) _)) fun r1 H2 hq => hK' _ _ ?_
    obtain ⟨rfl, rfl⟩ := hq
    have hwb : wordb b = true := by rw [h35']; decide
    rw [hwb]
    repeat' (first | (exfalso; omega) | refine zn ?_ | refine zK rfl ?_ | refine zP rfl ?_ | ((first | refine zm ?_ | skip); intro _; intros; simp (disch := first | exact zd | fail) only [↓yS, yT, gresults, gone, ↓reduceIte, Nat.reduceEqDiff, Nat.reduceAdd, Nat.reduceMul, reduceCtorEq, Int.reduceToNat, g53, f0, f6, f7, ej', by35, b35', decide_true]; first | (rename_i K k; (first | refine yC (k _ _ ?_) | refine zg (k _ ?_)); clear k K) | (rename_i A B C D a b c d; (first | refine zx (a ?_) | refine zy (b ?_) | refine zz (fun hc => c ?_) (fun hc => d ?_) | refine zv (b ?_) | refine zw (a ?_)) <;> clear a b c d A B C D <;> try simp only [yL] at hc)) | refine zA ?_ | refine zB ?_ | refine zF ?_)
    exact hPost _
  have hno : l = [] ∨ ¬ l[0]! = 35 := by
    by_cases h : l = []
    · exact .inl h
    · exact .inr fun e => h35 ⟨h, e⟩
  unfold wordQ at hPost
  rw [if_neg h35] at hPost
  generalize hR : wrd l 0 [] = R at hPost
  simp only [frameOf, Nat.reduceAdd]
  repeat' (first | refine zn ?_ | refine zK rfl ?_ | refine zP rfl ?_ | ((first | refine zm ?_ | skip); intro _; intros; simp (disch := first | exact zd | fail) only [↓yS, yT, gresults, gone, ↓reduceIte, Nat.reduceEqDiff, Nat.reduceAdd, Nat.reduceMul, reduceCtorEq, Int.reduceToNat, g53, hls]; first | (rename_i K k; (first | refine yC (k _ _ ?_) | refine zg (k _ ?_)); clear k K) | (rename_i A B C D a b c d; (first | refine zx (a ?_) | refine zy (b ?_) | refine zz (fun hc => c ?_) (fun hc => d ?_) | refine zv (b ?_) | refine zw (a ?_)) <;> clear a b c d A B C D <;> try simp only [yL] at hc)) | refine zA ?_ | refine zB ?_ | refine zF ?_)
  refine GW_loop (fun k fr H1 => ∃ (i : Nat) (o : List UInt8), k = l.length - i ∧ i ≤ l.length ∧ fr.get 0 = some (.string (strB l)) ∧ fr.get 6 = some (.int .i64 l.length) ∧ fr.get 7 = some (.int .i64 i) ∧ wrd (l.drop i) i o = R) ?_ l.length ?_
  case refine_2 =>
    refine ⟨0, [], by omega, by omega, ?_⟩
    simp only [↓yG, Nat.reduceEqDiff, ↓reduceIte, Int.natCast_add, Int.cast_ofNat_Int, Int.natCast_zero, true_and, and_true, Option.some.injEq, Value.int.injEq]
    exact hR
  rintro k fr H1 ⟨i, o, rfl, hi, f0, f6, f7, hq⟩ J hJ
  by_cases hil : i < l.length
  case neg =>
    obtain rfl : i = l.length := by omega
    rw [wat_end _ (Nat.le_refl _)] at hq
    subst hq
    repeat' (first | (exfalso; omega) | refine zn ?_ | refine zK rfl ?_ | refine zP rfl ?_ | ((first | refine zm ?_ | skip); intro _; intros; simp (disch := first | exact zd | fail) only [↓yS, yT, gresults, gone, ↓reduceIte, Nat.reduceEqDiff, Nat.reduceAdd, Nat.reduceMul, reduceCtorEq, Int.reduceToNat, g53, f0, f6, f7, hls]; first | (rename_i K k; (first | refine yC (k _ _ ?_) | refine zg (k _ ?_)); clear k K) | (rename_i A B C D a b c d; (first | refine zx (a ?_) | refine zy (b ?_) | refine zz (fun hc => c ?_) (fun hc => d ?_) | refine zv (b ?_) | refine zw (a ?_)) <;> clear a b c d A B C D <;> try simp only [yL] at hc)) | refine zA ?_ | refine zB ?_ | refine zF ?_)
    exact hPost _
  have ej := fun k => strB_at (k := k) hil
  have hn35 : i = 0 → ¬ l[i]! = 35 := fun e => by
    subst e
    rcases hno with rfl | h
    · simp at hil
    · exact h
  rw [wat _ hil] at hq
  generalize l[i]! = b at *
  by_cases b32 : b = 32
  · have b32' := eq_true b32
    rw [if_pos b32] at hq
    subst hq
    repeat' (first | (exfalso; omega) | refine zn ?_ | refine zK rfl ?_ | refine zP rfl ?_ | ((first | refine zm ?_ | skip); intro _; intros; simp (disch := first | exact zd | fail) only [↓yS, yT, gresults, gone, ↓reduceIte, Nat.reduceEqDiff, Nat.reduceAdd, Nat.reduceMul, reduceCtorEq, Int.reduceToNat, g53, f0, f6, f7, ej, by32, b32', decide_true]; first | (rename_i K k; (first | refine yC (k _ _ ?_) | refine zg (k _ ?_)); clear k K) | (rename_i A B C D a b c d; (first | refine zx (a ?_) | refine zy (b ?_) | refine zz (fun hc => c ?_) (fun hc => d ?_) | refine zv (b ?_) | refine zw (a ?_)) <;> clear a b c d A B C D <;> try simp only [yL] at hc)) | refine zA ?_ | refine zB ?_ | refine zF ?_)
    exact hPost _
  have b32' := eq_false b32
  rw [if_neg b32] at hq
  repeat' (first | (exfalso; omega) | refine zn ?_ | refine zK rfl ?_ | refine zP rfl ?_ | ((first | refine zm ?_ | skip); intro _; intros; simp (disch := first | exact zd | fail) only [↓yS, yT, gresults, gone, ↓reduceIte, Nat.reduceEqDiff, Nat.reduceAdd, Nat.reduceMul, reduceCtorEq, Int.reduceToNat, g53, f0, f6, f7, ej, by32, b32', decide_false]; first | (rename_i K k; (first | refine yC (k _ _ ?_) | refine zg (k _ ?_)); clear k K) | (rename_i A B C D a b c d; (first | refine zx (a ?_) | refine zy (b ?_) | refine zz (fun hc => c ?_) (fun hc => d ?_) | refine zv (b ?_) | refine zw (a ?_)) <;> clear a b c d A B C D <;> try simp only [yL] at hc)) | refine zA ?_ | refine zB ?_ | refine zF ?_)
  refine Gw_s fun K' hK' => G1_call (by simp only [gtarget, ↓GArg.ev, ↓evs, ↓Tr.get_set, Nat.reduceEqDiff, if_true, if_false, ↓reduceIte, Option.map_some, f0, f6, f7]; rfl) (one_of (isWord_ok (b := b) _)) fun r1 H2 hq2 => hK' _ _ ?_
  obtain ⟨rfl, rfl⟩ := hq2
  cases hwb : wordb b with
  | false =>
    rw [hwb, if_neg (by decide)] at hq
    subst hq
    repeat' (first | (exfalso; omega) | refine zn ?_ | refine zK rfl ?_ | refine zP rfl ?_ | ((first | refine zm ?_ | skip); intro _; intros; simp (disch := first | exact zd | fail) only [↓yS, yT, gresults, gone, ↓reduceIte, Nat.reduceEqDiff, Nat.reduceAdd, Nat.reduceMul, reduceCtorEq, Int.reduceToNat, g53, f0, f6, f7, ej]; first | (rename_i K k; (first | refine yC (k _ _ ?_) | refine zg (k _ ?_)); clear k K) | (rename_i A B C D a b c d; (first | refine zx (a ?_) | refine zy (b ?_) | refine zz (fun hc => c ?_) (fun hc => d ?_) | refine zv (b ?_) | refine zw (a ?_)) <;> clear a b c d A B C D <;> try simp only [yL] at hc)) | refine zA ?_ | refine zB ?_ | refine zF ?_)
    exact hPost _
  | true =>
    rw [hwb, if_pos rfl] at hq
    by_cases hi0 : i = 0
    · subst hi0
      have b35' := eq_false (hn35 rfl)
      have ej' : ∀ k, gix none (.string (strB l)) (.int k 0) = some (.int .u8 (b.toNat : Nat)) := ej
      have hz : ((0 : Nat) : Int) = 0 := rfl
      repeat' (first | (exfalso; omega) | refine zn ?_ | refine zK rfl ?_ | refine zP rfl ?_ | ((first | refine zm ?_ | skip); intro _; intros; simp (disch := first | exact zd | fail) only [↓yS, yT, gresults, gone, ↓reduceIte, Nat.reduceEqDiff, Nat.reduceAdd, Nat.reduceMul, reduceCtorEq, Int.reduceToNat, g53, f0, f6, f7, ej', by35, b35', decide_false, hz]; first | (rename_i K k; (first | refine yC (k _ _ ?_) | refine zg (k _ ?_)); clear k K) | (rename_i A B C D a b c d; (first | refine zx (a ?_) | refine zy (b ?_) | refine zz (fun hc => c ?_) (fun hc => d ?_) | refine zv (b ?_) | refine zw (a ?_)) <;> clear a b c d A B C D <;> try simp only [yL] at hc)) | refine zA ?_ | refine zB ?_ | refine zF ?_)
      refine hJ _ _ ⟨l.length - 1, by omega, 1, o ++ [b], rfl, by omega, ?_⟩
      simp only [↓yG, Nat.reduceEqDiff, ↓reduceIte, Int.natCast_add, Int.cast_ofNat_Int, Int.natCast_zero, true_and, and_true, Option.some.injEq, Value.int.injEq, f0, f6]
      exact ⟨rfl, hq⟩
    · repeat' (first | (exfalso; omega) | refine zn ?_ | refine zK rfl ?_ | refine zP rfl ?_ | ((first | refine zm ?_ | skip); intro _; intros; simp (disch := first | exact zd | fail) only [↓yS, yT, gresults, gone, ↓reduceIte, Nat.reduceEqDiff, Nat.reduceAdd, Nat.reduceMul, reduceCtorEq, Int.reduceToNat, g53, f0, f6, f7, ej]; first | (rename_i K k; (first | refine yC (k _ _ ?_) | refine zg (k _ ?_)); clear k K) | (rename_i A B C D a b c d; (first | refine zx (a ?_) | refine zy (b ?_) | refine zz (fun hc => c ?_) (fun hc => d ?_) | refine zv (b ?_) | refine zw (a ?_)) <;> clear a b c d A B C D <;> try simp only [yL] at hc)) | refine zA ?_ | refine zB ?_ | refine zF ?_)
      refine hJ _ _ ⟨l.length - (i + 1), by omega, i + 1, o ++ [b], rfl, by omega, ?_⟩
      simp only [↓yG, Nat.reduceEqDiff, ↓reduceIte, Int.natCast_add, Int.cast_ofNat_Int, Int.natCast_zero, true_and, and_true, Option.some.injEq, Value.int.injEq, f0, f6]
      exact hq
end Go.Gh
