/-
  lines and its reference, walked: words, the reference's quoted strings, the fields of a line.
-/
import Derived.Test.YtfldcmeecpgpeaaDoorGlW5
namespace Go.Gh
set_option linter.unusedSimpArgs false
set_option linter.unusedVariables false
open Go.RowKit Go.Lib
set_option maxRecDepth 4000
theorem wordb_eq (b : UInt8) : wordb b = (decide (32 < (b.toNat : Int)) && decide ((b.toNat : Int) < 127) && decide (¬ (b.toNat : Int) = 34)) := by
  unfold wordb
  have h1 : (32 < b) = (32 < (b.toNat : Int)) := by
    apply propext; rw [UInt8.lt_iff_toNat_lt]
    have h : (32 : UInt8).toNat = 32 := rfl
    rw [h]; omega
  have h2 : (b < 127) = ((b.toNat : Int) < 127) := by
    apply propext; rw [UInt8.lt_iff_toNat_lt]
    have h : (127 : UInt8).toNat = 127 := rfl
    rw [h]; omega
  simp only [h1, h2, by34]
theorem isWord_ok {b : UInt8} (H : GHeap) : gev G 104 [.int .u8 (b.toNat : Nat)] H = some (.bool (wordb b), H) := by
  refine gev_GWP (f := 104) rfl rfl rfl (fun Post hPost => ?_) H
  have hP : ∀ c, wordb b = c → ∀ H', Post (.bool c) H' := fun c e => e ▸ hPost
  clear hPost
  simp only [frameOf, Nat.reduceAdd]
  repeat' (first | refine zn ?_ | refine zK rfl ?_ | refine zP rfl ?_ | ((first | refine zm ?_ | skip); intro _; intros; simp (disch := first | exact zd | fail) only [↓yS, yT, ↓reduceIte, Nat.reduceEqDiff, Nat.reduceAdd, Nat.reduceMul, reduceCtorEq, Int.reduceToNat, g104]; first | (rename_i K k; refine yC (k _ _ ?_); clear k K) | (rename_i A B C D a b c d; (first | refine zX (a ?_) | refine zY (b ?_) | refine zZ (fun hc => c ?_) (fun hc => d ?_)) <;> clear a b c d A B C D <;> try simp only [yL] at hc)) | (refine yA ?_; intro A a; simp only [↓yG, Nat.reduceEqDiff, ↓reduceIte, g104]; refine yB (a ?_); clear a A) | (refine yD ?_; simp only [gresults, ↓yG, Nat.reduceEqDiff, ↓reduceIte, Option.bind_some, gld_1, gld_n, g104]; refine ⟨_, rfl, ?_⟩; simp only [gone]) | refine zA ?_ | refine zB ?_ | refine zF ?_)
  case refine_1.refine_1 => exact hP _ (by rw [wordb_eq, decide_eq_true (show 32 < (b.toNat : Int) by omega), decide_eq_true (show (b.toNat : Int) < 127 by omega)]; rfl) _
  case refine_1.refine_2 => exact hP _ (by rw [wordb_eq, decide_eq_false (show ¬ (b.toNat : Int) < 127 by omega), Bool.and_false, Bool.false_and]) _
  case refine_2 => exact hP _ (by rw [wordb_eq, decide_eq_false (show ¬ 32 < (b.toNat : Int) by omega), Bool.false_and, Bool.false_and]) _
theorem wordByte_ok {b : UInt8} (H : GHeap) : gev G 93 [.int .u8 (b.toNat : Nat)] H = some (.bool (wordb b), H) := by
  refine gev_GWP (f := 93) rfl rfl rfl (fun Post hPost => ?_) H
  have hP : ∀ c, wordb b = c → ∀ H', Post (.bool c) H' := fun c e => e ▸ hPost
  clear hPost
  simp only [frameOf, Nat.reduceAdd]
  repeat' (first | refine zn ?_ | refine zK rfl ?_ | refine zP rfl ?_ | ((first | refine zm ?_ | skip); intro _; intros; simp (disch := first | exact zd | fail) only [↓yS, yT, ↓reduceIte, Nat.reduceEqDiff, Nat.reduceAdd, Nat.reduceMul, reduceCtorEq, Int.reduceToNat, g93]; first | (rename_i K k; refine yC (k _ _ ?_); clear k K) | (rename_i A B C D a b c d; (first | refine zX (a ?_) | refine zY (b ?_) | refine zZ (fun hc => c ?_) (fun hc => d ?_)) <;> clear a b c d A B C D <;> try simp only [yL] at hc)) | (refine yA ?_; intro A a; simp only [↓yG, Nat.reduceEqDiff, ↓reduceIte, g93]; refine yB (a ?_); clear a A) | (refine yD ?_; simp only [gresults, ↓yG, Nat.reduceEqDiff, ↓reduceIte, Option.bind_some, gld_1, gld_n, g93]; refine ⟨_, rfl, ?_⟩; simp only [gone]) | refine zA ?_ | refine zB ?_ | refine zF ?_)
  case refine_1.refine_1 => exact hP _ (by rw [wordb_eq, decide_eq_true (show 32 < (b.toNat : Int) by omega), decide_eq_true (show (b.toNat : Int) < 127 by omega)]; rfl) _
  case refine_1.refine_2 => exact hP _ (by rw [wordb_eq, decide_eq_false (show ¬ (b.toNat : Int) < 127 by omega), Bool.and_false, Bool.false_and]) _
  case refine_2 => exact hP _ (by rw [wordb_eq, decide_eq_false (show ¬ 32 < (b.toNat : Int) by omega), Bool.false_and, Bool.false_and]) _
def wrV : QR → Value
  | .ok _ j => .tuple #[.int .i64 j, .int .i64 (-1)]
  | .bad i => .tuple #[.int .i64 0, .int .i64 i]
theorem litWr (R : QR) : litVal (wrV R) = true := by cases R <;> simp [wrV, litVal, litOk, litFlat]
def wordQ (l : List UInt8) : QR := if l ≠ [] ∧ l[0]! = 35 then .bad 0 else wrd l 0 []
theorem word_ok {l : List UInt8} (hl : l.length ≤ 16777216) (H : GHeap) : gev G 88 [.string (strB l)] H = some (wrV (wordQ l), H) := by
  refine gev_GWP (f := 88) rfl rfl (litWr _) (fun Post hPost => ?_) H
  have hls := strB_size l
  by_cases h35 : l ≠ [] ∧ l[0]! = 35
  · have hpos := List.length_pos_iff.2 h35.1
    unfold wordQ at hPost
    rw [if_pos h35] at hPost
    simp only [frameOf, Nat.reduceAdd]
    repeat' (first | refine zn ?_ | refine zK rfl ?_ | refine zP rfl ?_ | ((first | refine zm ?_ | skip); intro _; intros; simp (disch := first | exact zd | fail) only [↓yS, yT, ↓reduceIte, Nat.reduceEqDiff, Nat.reduceAdd, Nat.reduceMul, reduceCtorEq, Int.reduceToNat, g88, hls]; first | (rename_i K k; refine yC (k _ _ ?_); clear k K) | (rename_i A B C D a b c d; (first | refine zX (a ?_) | refine zY (b ?_) | refine zZ (fun hc => c ?_) (fun hc => d ?_)) <;> clear a b c d A B C D <;> try simp only [yL] at hc)) | (refine yA ?_; intro A a; simp only [↓yG, Nat.reduceEqDiff, ↓reduceIte, g88, hls]; refine yB (a ?_); clear a A) | (refine yD ?_; simp only [gresults, ↓yG, Nat.reduceEqDiff, ↓reduceIte, Option.bind_some, gld_1, gld_n, g88, hls]; refine ⟨_, rfl, ?_⟩; simp only [gone]) | refine zA ?_ | refine zB ?_ | refine zF ?_)
    refine GW_loop (fun k fr H1 => k = 1 ∧ fr.get 0 = some (.string (strB l)) ∧ fr.get 6 = some (.int .i64 l.length) ∧ fr.get 7 = some (.int .i64 0)) ?_ 1 ?_
    case refine_2 =>
      refine ⟨rfl, ?_⟩
      simp only [↓yG, Nat.reduceEqDiff, ↓reduceIte, Int.natCast_add, Int.cast_ofNat_Int, Int.natCast_zero, true_and, and_true, Option.some.injEq, Value.int.injEq]
    rintro k fr H1 ⟨rfl, f0, f6, f7⟩ J hJ
    have ej := fun k => strB_at (k := k) hpos
    have ej' : ∀ k, gix none (.string (strB l)) (.int k 0) = some (.int .u8 (l[0]!.toNat : Nat)) := ej
    have h35' := h35.2
    have h32 : ¬ l[0]! = 32 := by rw [h35']; decide
    generalize l[0]! = b at *
    have b35' := eq_true h35'
    have b32' := eq_false h32
    repeat' (first | (exfalso; omega) | refine zn ?_ | refine zK rfl ?_ | refine zP rfl ?_ | ((first | refine zm ?_ | skip); intro _; intros; simp (disch := first | exact zd | fail) only [↓yS, yT, ↓reduceIte, Nat.reduceEqDiff, Nat.reduceAdd, Nat.reduceMul, reduceCtorEq, Int.reduceToNat, g88, f0, f6, f7, ej', by32, b32', decide_false]; first | (rename_i K k; refine yC (k _ _ ?_); clear k K) | (rename_i A B C D a b c d; (first | refine zX (a ?_) | refine zY (b ?_) | refine zZ (fun hc => c ?_) (fun hc => d ?_)) <;> clear a b c d A B C D <;> try simp only [yL] at hc)) | (refine yA ?_; intro A a; simp only [↓yG, Nat.reduceEqDiff, ↓reduceIte, g88, f0, f6, f7, ej', by32, b32', decide_false]; refine yB (a ?_); clear a A) | (refine yD ?_; simp only [gresults, ↓yG, Nat.reduceEqDiff, ↓reduceIte, Option.bind_some, gld_1, gld_n, g88, f0, f6, f7, ej', by32, b32', decide_false]; refine ⟨_, rfl, ?_⟩; simp only [gone]) | refine zA ?_ | refine zB ?_ | refine zF ?_)
    refine Gw_s fun K' hK' => G1_call (by simp only [gtarget, ↓GArg.ev, ↓evs, ↓Tr.get_set, Nat.reduceEqDiff, if_true, if_false, ↓reduceIte, Option.map_some, f0, f6, f7]; rfl) (one_of (isWord_ok (b := b) _)) fun r1 H2 hq => hK' _ _ ?_
    obtain ⟨rfl, rfl⟩ := hq
    have hwb : wordb b = true := by rw [h35']; decide
    rw [hwb]
    repeat' (first | (exfalso; omega) | refine zn ?_ | refine zK rfl ?_ | refine zP rfl ?_ | ((first | refine zm ?_ | skip); intro _; intros; simp (disch := first | exact zd | fail) only [↓yS, yT, ↓reduceIte, Nat.reduceEqDiff, Nat.reduceAdd, Nat.reduceMul, reduceCtorEq, Int.reduceToNat, g88, f0, f6, f7, ej', by35, b35', decide_true]; first | (rename_i K k; refine yC (k _ _ ?_); clear k K) | (rename_i A B C D a b c d; (first | refine zX (a ?_) | refine zY (b ?_) | refine zZ (fun hc => c ?_) (fun hc => d ?_)) <;> clear a b c d A B C D <;> try simp only [yL] at hc)) | (refine yA ?_; intro A a; simp only [↓yG, Nat.reduceEqDiff, ↓reduceIte, g88, f0, f6, f7, ej', by35, b35', decide_true]; refine yB (a ?_); clear a A) | (refine yD ?_; simp only [gresults, ↓yG, Nat.reduceEqDiff, ↓reduceIte, Option.bind_some, gld_1, gld_n, g88, f0, f6, f7, ej', by35, b35', decide_true]; refine ⟨_, rfl, ?_⟩; simp only [gone]) | refine zA ?_ | refine zB ?_ | refine zF ?_)
    exact hPost _
  have hno : l = [] ∨ ¬ l[0]! = 35 := by
    by_cases h : l = []
    · exact .inl h
    · exact .inr fun e => h35 ⟨h, e⟩
  unfold wordQ at hPost
  rw [if_neg h35] at hPost
  generalize hR : wrd l 0 [] = R at hPost
  simp only [frameOf, Nat.reduceAdd]
  repeat' (first | refine zn ?_ | refine zK rfl ?_ | refine zP rfl ?_ | ((first | refine zm ?_ | skip); intro _; intros; simp (disch := first | exact zd | fail) only [↓yS, yT, ↓reduceIte, Nat.reduceEqDiff, Nat.reduceAdd, Nat.reduceMul, reduceCtorEq, Int.reduceToNat, g88, hls]; first | (rename_i K k; refine yC (k _ _ ?_); clear k K) | (rename_i A B C D a b c d; (first | refine zX (a ?_) | refine zY (b ?_) | refine zZ (fun hc => c ?_) (fun hc => d ?_)) <;> clear a b c d A B C D <;> try simp only [yL] at hc)) | (refine yA ?_; intro A a; simp only [↓yG, Nat.reduceEqDiff, ↓reduceIte, g88, hls]; refine yB (a ?_); clear a A) | (refine yD ?_; simp only [gresults, ↓yG, Nat.reduceEqDiff, ↓reduceIte, Option.bind_some, gld_1, gld_n, g88, hls]; refine ⟨_, rfl, ?_⟩; simp only [gone]) | refine zA ?_ | refine zB ?_ | refine zF ?_)
  refine GW_loop (fun k fr H1 => ∃ (i : Nat) (o : List UInt8), k = l.length - i ∧ i ≤ l.length ∧ fr.get 0 = some (.string (strB l)) ∧ fr.get 6 = some (.int .i64 l.length) ∧ fr.get 7 = some (.int .i64 i) ∧ wrd (l.drop i) i o = R) ?_ l.length ?_
  case refine_2 =>
    refine ⟨0, [], by omega, by omega, ?_⟩
    simp only [↓yG, Nat.reduceEqDiff, ↓reduceIte, Int.natCast_add, Int.cast_ofNat_Int, Int.natCast_zero, true_and, and_true, Option.some.injEq, Value.int.injEq]
    exact hR
  rintro k fr H1 ⟨i, o, rfl, hi, f0, f6, f7, hq⟩ J hJ
  by_cases hil : i < l.length
  case neg =>
    obtain rfl : i = l.length := by omega
    rw [wat_end _ (Nat.le_refl _)] at hq
    subst hq
    repeat' (first | (exfalso; omega) | refine zn ?_ | refine zK rfl ?_ | refine zP rfl ?_ | ((first | refine zm ?_ | skip); intro _; intros; simp (disch := first | exact zd | fail) only [↓yS, yT, ↓reduceIte, Nat.reduceEqDiff, Nat.reduceAdd, Nat.reduceMul, reduceCtorEq, Int.reduceToNat, g88, f0, f6, f7, hls]; first | (rename_i K k; refine yC (k _ _ ?_); clear k K) | (rename_i A B C D a b c d; (first | refine zX (a ?_) | refine zY (b ?_) | refine zZ (fun hc => c ?_) (fun hc => d ?_)) <;> clear a b c d A B C D <;> try simp only [yL] at hc)) | (refine yA ?_; intro A a; simp only [↓yG, Nat.reduceEqDiff, ↓reduceIte, g88, f0, f6, f7, hls]; refine yB (a ?_); clear a A) | (refine yD ?_; simp only [gresults, ↓yG, Nat.reduceEqDiff, ↓reduceIte, Option.bind_some, gld_1, gld_n, g88, f0, f6, f7, hls]; refine ⟨_, rfl, ?_⟩; simp only [gone]) | refine zA ?_ | refine zB ?_ | refine zF ?_)
    exact hPost _
  have ej := fun k => strB_at (k := k) hil
  have hn35 : i = 0 → ¬ l[i]! = 35 := fun e => by
    subst e
    rcases hno with rfl | h
    · simp at hil
    · exact h
  rw [wat _ hil] at hq
  generalize l[i]! = b at *
  by_cases b32 : b = 32
  · have b32' := eq_true b32
    rw [if_pos b32] at hq
    subst hq
    repeat' (first | (exfalso; omega) | refine zn ?_ | refine zK rfl ?_ | refine zP rfl ?_ | ((first | refine zm ?_ | skip); intro _; intros; simp (disch := first | exact zd | fail) only [↓yS, yT, ↓reduceIte, Nat.reduceEqDiff, Nat.reduceAdd, Nat.reduceMul, reduceCtorEq, Int.reduceToNat, g88, f0, f6, f7, ej, by32, b32', decide_true]; first | (rename_i K k; refine yC (k _ _ ?_); clear k K) | (rename_i A B C D a b c d; (first | refine zX (a ?_) | refine zY (b ?_) | refine zZ (fun hc => c ?_) (fun hc => d ?_)) <;> clear a b c d A B C D <;> try simp only [yL] at hc)) | (refine yA ?_; intro A a; simp only [↓yG, Nat.reduceEqDiff, ↓reduceIte, g88, f0, f6, f7, ej, by32, b32', decide_true]; refine yB (a ?_); clear a A) | (refine yD ?_; simp only [gresults, ↓yG, Nat.reduceEqDiff, ↓reduceIte, Option.bind_some, gld_1, gld_n, g88, f0, f6, f7, ej, by32, b32', decide_true]; refine ⟨_, rfl, ?_⟩; simp only [gone]) | refine zA ?_ | refine zB ?_ | refine zF ?_)
    exact hPost _
  have b32' := eq_false b32
  rw [if_neg b32] at hq
  repeat' (first | (exfalso; omega) | refine zn ?_ | refine zK rfl ?_ | refine zP rfl ?_ | ((first | refine zm ?_ | skip); intro _; intros; simp (disch := first | exact zd | fail) only [↓yS, yT, ↓reduceIte, Nat.reduceEqDiff, Nat.reduceAdd, Nat.reduceMul, reduceCtorEq, Int.reduceToNat, g88, f0, f6, f7, ej, by32, b32', decide_false]; first | (rename_i K k; refine yC (k _ _ ?_); clear k K) | (rename_i A B C D a b c d; (first | refine zX (a ?_) | refine zY (b ?_) | refine zZ (fun hc => c ?_) (fun hc => d ?_)) <;> clear a b c d A B C D <;> try simp only [yL] at hc)) | (refine yA ?_; intro A a; simp only [↓yG, Nat.reduceEqDiff, ↓reduceIte, g88, f0, f6, f7, ej, by32, b32', decide_false]; refine yB (a ?_); clear a A) | (refine yD ?_; simp only [gresults, ↓yG, Nat.reduceEqDiff, ↓reduceIte, Option.bind_some, gld_1, gld_n, g88, f0, f6, f7, ej, by32, b32', decide_false]; refine ⟨_, rfl, ?_⟩; simp only [gone]) | refine zA ?_ | refine zB ?_ | refine zF ?_)
  refine Gw_s fun K' hK' => G1_call (by simp only [gtarget, ↓GArg.ev, ↓evs, ↓Tr.get_set, Nat.reduceEqDiff, if_true, if_false, ↓reduceIte, Option.map_some, f0, f6, f7]; rfl) (one_of (isWord_ok (b := b) _)) fun r1 H2 hq2 => hK' _ _ ?_
  obtain ⟨rfl, rfl⟩ := hq2
  cases hwb : wordb b with
  | false =>
    rw [hwb, if_neg (by decide)] at hq
    subst hq
    repeat' (first | (exfalso; omega) | refine zn ?_ | refine zK rfl ?_ | refine zP rfl ?_ | ((first | refine zm ?_ | skip); intro _; intros; simp (disch := first | exact zd | fail) only [↓yS, yT, ↓reduceIte, Nat.reduceEqDiff, Nat.reduceAdd, Nat.reduceMul, reduceCtorEq, Int.reduceToNat, g88, f0, f6, f7, ej]; first | (rename_i K k; refine yC (k _ _ ?_); clear k K) | (rename_i A B C D a b c d; (first | refine zX (a ?_) | refine zY (b ?_) | refine zZ (fun hc => c ?_) (fun hc => d ?_)) <;> clear a b c d A B C D <;> try simp only [yL] at hc)) | (refine yA ?_; intro A a; simp only [↓yG, Nat.reduceEqDiff, ↓reduceIte, g88, f0, f6, f7, ej]; refine yB (a ?_); clear a A) | (refine yD ?_; simp only [gresults, ↓yG, Nat.reduceEqDiff, ↓reduceIte, Option.bind_some, gld_1, gld_n, g88, f0, f6, f7, ej]; refine ⟨_, rfl, ?_⟩; simp only [gone]) | refine zA ?_ | refine zB ?_ | refine zF ?_)
    exact hPost _
  | true =>
    rw [hwb, if_pos rfl] at hq
    by_cases hi0 : i = 0
    · subst hi0
      have b35' := eq_false (hn35 rfl)
      have ej' : ∀ k, gix none (.string (strB l)) (.int k 0) = some (.int .u8 (b.toNat : Nat)) := ej
      have hz : ((0 : Nat) : Int) = 0 := rfl
      repeat' (first | (exfalso; omega) | refine zn ?_ | refine zK rfl ?_ | refine zP rfl ?_ | ((first | refine zm ?_ | skip); intro _; intros; simp (disch := first | exact zd | fail) only [↓yS, yT, ↓reduceIte, Nat.reduceEqDiff, Nat.reduceAdd, Nat.reduceMul, reduceCtorEq, Int.reduceToNat, g88, f0, f6, f7, ej', by35, b35', decide_false, hz]; first | (rename_i K k; refine yC (k _ _ ?_); clear k K) | (rename_i A B C D a b c d; (first | refine zX (a ?_) | refine zY (b ?_) | refine zZ (fun hc => c ?_) (fun hc => d ?_)) <;> clear a b c d A B C D <;> try simp only [yL] at hc)) | (refine yA ?_; intro A a; simp only [↓yG, Nat.reduceEqDiff, ↓reduceIte, g88, f0, f6, f7, ej', by35, b35', decide_false, hz]; refine yB (a ?_); clear a A) | (refine yD ?_; simp only [gresults, ↓yG, Nat.reduceEqDiff, ↓reduceIte, Option.bind_some, gld_1, gld_n, g88, f0, f6, f7, ej', by35, b35', decide_false, hz]; refine ⟨_, rfl, ?_⟩; simp only [gone]) | refine zA ?_ | refine zB ?_ | refine zF ?_)
      refine hJ _ _ ⟨l.length - 1, by omega, 1, o ++ [b], rfl, by omega, ?_⟩
      simp only [↓yG, Nat.reduceEqDiff, ↓reduceIte, Int.natCast_add, Int.cast_ofNat_Int, Int.natCast_zero, true_and, and_true, Option.some.injEq, Value.int.injEq, f0, f6]
      exact ⟨rfl, hq⟩
    · repeat' (first | (exfalso; omega) | refine zn ?_ | refine zK rfl ?_ | refine zP rfl ?_ | ((first | refine zm ?_ | skip); intro _; intros; simp (disch := first | exact zd | fail) only [↓yS, yT, ↓reduceIte, Nat.reduceEqDiff, Nat.reduceAdd, Nat.reduceMul, reduceCtorEq, Int.reduceToNat, g88, f0, f6, f7, ej]; first | (rename_i K k; refine yC (k _ _ ?_); clear k K) | (rename_i A B C D a b c d; (first | refine zX (a ?_) | refine zY (b ?_) | refine zZ (fun hc => c ?_) (fun hc => d ?_)) <;> clear a b c d A B C D <;> try simp only [yL] at hc)) | (refine yA ?_; intro A a; simp only [↓yG, Nat.reduceEqDiff, ↓reduceIte, g88, f0, f6, f7, ej]; refine yB (a ?_); clear a A) | (refine yD ?_; simp only [gresults, ↓yG, Nat.reduceEqDiff, ↓reduceIte, Option.bind_some, gld_1, gld_n, g88, f0, f6, f7, ej]; refine ⟨_, rfl, ?_⟩; simp only [gone]) | refine zA ?_ | refine zB ?_ | refine zF ?_)
      refine hJ _ _ ⟨l.length - (i + 1), by omega, i + 1, o ++ [b], rfl, by omega, ?_⟩
      simp only [↓yG, Nat.reduceEqDiff, ↓reduceIte, Int.natCast_add, Int.cast_ofNat_Int, Int.natCast_zero, true_and, and_true, Option.some.injEq, Value.int.injEq, f0, f6]
      exact hq
theorem mid_one {l : List UInt8} {i : Nat} (h : i < l.length) : (l.take (i + 1)).drop i = [l[i]!] := by
  rw [List.take_succ_eq_append_getElem h, List.drop_left' (by simp; omega), getElem!_pos l i h]
theorem rquoted_ok {l : List UInt8} {s : Nat} (h0 : s < l.length) (hl : l.length ≤ 16777216) (H : GHeap) : gev G 92 [.string (strB l), .int .i64 s] H = some (qtV (qtd (l.drop (s + 1)) (s + 1) []), H) := by
  refine gev_GWP (f := 92) rfl rfl (litQt _) (fun Post hPost => ?_) H
  have hls := strB_size l
  generalize hR : qtd (l.drop (s + 1)) (s + 1) [] = R at hPost
  simp only [frameOf, Nat.reduceAdd]
  repeat' (first | refine zn ?_ | refine zK rfl ?_ | refine zP rfl ?_ | ((first | refine zm ?_ | skip); intro _; intros; simp (disch := first | exact zd | fail) only [↓yS, yT, ↓reduceIte, Nat.reduceEqDiff, Nat.reduceAdd, Nat.reduceMul, reduceCtorEq, Int.reduceToNat, g92]; first | (rename_i K k; refine yC (k _ _ ?_); clear k K) | (rename_i A B C D a b c d; (first | refine zX (a ?_) | refine zY (b ?_) | refine zZ (fun hc => c ?_) (fun hc => d ?_)) <;> clear a b c d A B C D <;> try simp only [yL] at hc)) | (refine yA ?_; intro A a; simp only [↓yG, Nat.reduceEqDiff, ↓reduceIte, g92]; refine yB (a ?_); clear a A) | (refine yD ?_; simp only [gresults, ↓yG, Nat.reduceEqDiff, ↓reduceIte, Option.bind_some, gld_1, gld_n, g92]; refine ⟨_, rfl, ?_⟩; simp only [gone]) | refine zA ?_ | refine zB ?_ | refine zF ?_)
  refine GW_loop (fun k fr H1 => ∃ (i : Nat) (o : List UInt8), k = l.length - i ∧ i ≤ l.length ∧ o.length ≤ i ∧ fr.get 0 = some (.string (strB l)) ∧ fr.get 1 = some (.int .i64 i) ∧ fr.get 7 = some (.string (strB o)) ∧ qtd (l.drop i) i o = R) ?_ (l.length - (s + 1)) ?_
  case refine_2 =>
    refine ⟨s + 1, [], by omega, by omega, by simp, ?_⟩
    have e0 : strB [] = ⟨#[]⟩ := rfl
    simp only [↓yG, Nat.reduceEqDiff, ↓reduceIte, Int.natCast_add, Int.cast_ofNat_Int, Int.natCast_zero, true_and, and_true, Option.some.injEq, Value.int.injEq, e0]
    exact hR
  rintro k fr H1 ⟨i, o, rfl, hi, ho, f0, f1, f7, hq⟩ J hJ
  by_cases hil : i < l.length
  case neg =>
    obtain rfl : i = l.length := by omega
    rw [qat_end _ (Nat.le_refl _)] at hq
    subst hq
    repeat' (first | (exfalso; omega) | refine zn ?_ | refine zK rfl ?_ | refine zP rfl ?_ | ((first | refine zm ?_ | skip); intro _; intros; simp (disch := first | exact zd | fail) only [↓yS, yT, ↓reduceIte, Nat.reduceEqDiff, Nat.reduceAdd, Nat.reduceMul, reduceCtorEq, Int.reduceToNat, g92, f0, f1, f7, hls]; first | (rename_i K k; refine yC (k _ _ ?_); clear k K) | (rename_i A B C D a b c d; (first | refine zX (a ?_) | refine zY (b ?_) | refine zZ (fun hc => c ?_) (fun hc => d ?_)) <;> clear a b c d A B C D <;> try simp only [yL] at hc)) | (refine yA ?_; intro A a; simp only [↓yG, Nat.reduceEqDiff, ↓reduceIte, g92, f0, f1, f7, hls]; refine yB (a ?_); clear a A) | (refine yD ?_; simp only [gresults, ↓yG, Nat.reduceEqDiff, ↓reduceIte, Option.bind_some, gld_1, gld_n, g92, f0, f1, f7, hls]; refine ⟨_, rfl, ?_⟩; simp only [gone]) | refine zA ?_ | refine zB ?_ | refine zF ?_)
    exact hPost _
  have ej := fun k => strB_at (k := k) hil
  have hsl1 : ∀ H k k', gslice .str H (.string (strB l)) (some (.int k (i : Int))) (some (.int k' ((i : Int) + 1))) none = some (.string (strB [l[i]!])) := fun H k k' => by
    have h1 := sl_mid (H := H) (l := l) (k := k) (k' := k') (a := i) (b := (i : Int) + 1) (by omega) (by omega) (by omega)
    rw [h1, Int.toNat_natCast, show ((i : Int) + 1).toNat = i + 1 by omega, mid_one hil]
  have had : ∀ x : UInt8, ∀ e, gbin .add e (.string (strB o)) (.string (strB [x])) = some (.string (strB (o ++ [x]))) := fun x e => gb_addB (by simp only [List.length_cons, List.length_nil]; omega)
  have had10 : ∀ e, gbin .add e (.string (strB o)) (.string ⟨#[10]⟩) = some (.string (strB (o ++ [10]))) := fun e => add_c (by rfl) (by simp only [List.length_cons, List.length_nil]; omega)
  by_cases hi2 : i + 1 < l.length
  case neg =>
    have hi3 : i + 1 = l.length := by omega
    rw [qat_one _ hi3] at hq
    generalize l[i]! = b at *
    by_cases b34 : b = 34
    · have b34' := eq_true b34
      rw [if_pos b34] at hq
      subst hq
      repeat' (first | (exfalso; omega) | refine zn ?_ | refine zK rfl ?_ | refine zP rfl ?_ | ((first | refine zm ?_ | skip); intro _; intros; simp (disch := first | exact zd | fail) only [↓yS, yT, ↓reduceIte, Nat.reduceEqDiff, Nat.reduceAdd, Nat.reduceMul, reduceCtorEq, Int.reduceToNat, g92, f0, f1, f7, hls, ej, by34, b34', decide_true]; first | (rename_i K k; refine yC (k _ _ ?_); clear k K) | (rename_i A B C D a b c d; (first | refine zX (a ?_) | refine zY (b ?_) | refine zZ (fun hc => c ?_) (fun hc => d ?_)) <;> clear a b c d A B C D <;> try simp only [yL] at hc)) | (refine yA ?_; intro A a; simp only [↓yG, Nat.reduceEqDiff, ↓reduceIte, g92, f0, f1, f7, hls, ej, by34, b34', decide_true]; refine yB (a ?_); clear a A) | (refine yD ?_; simp only [gresults, ↓yG, Nat.reduceEqDiff, ↓reduceIte, Option.bind_some, gld_1, gld_n, g92, f0, f1, f7, hls, ej, by34, b34', decide_true]; refine ⟨_, rfl, ?_⟩; simp only [gone]) | refine zA ?_ | refine zB ?_ | refine zF ?_)
      exact hPost _
    have b34' := eq_false b34
    rw [if_neg b34] at hq
    by_cases b92 : b = 92
    · have b92' := eq_true b92
      rw [if_pos b92] at hq
      subst hq
      have b127' : (b = 127) = False := eq_false (by rw [b92]; decide)
      have bc' : (b < 32) = False := eq_false (by rw [b92]; decide)
      repeat' (first | (exfalso; omega) | refine zn ?_ | refine zK rfl ?_ | refine zP rfl ?_ | ((first | refine zm ?_ | skip); intro _; intros; simp (disch := first | exact zd | fail) only [↓yS, yT, ↓reduceIte, Nat.reduceEqDiff, Nat.reduceAdd, Nat.reduceMul, reduceCtorEq, Int.reduceToNat, g92, f0, f1, f7, hls, ej, by34, b34', decide_false, by92, b92', decide_true, not_true_eq_false, hi3, lt32, bc', by127, b127']; first | (rename_i K k; refine yC (k _ _ ?_); clear k K) | (rename_i A B C D a b c d; (first | refine zX (a ?_) | refine zY (b ?_) | refine zZ (fun hc => c ?_) (fun hc => d ?_)) <;> clear a b c d A B C D <;> try simp only [yL] at hc)) | (refine yA ?_; intro A a; simp only [↓yG, Nat.reduceEqDiff, ↓reduceIte, g92, f0, f1, f7, hls, ej, by34, b34', decide_false, by92, b92', decide_true, not_true_eq_false, hi3, lt32, bc', by127, b127']; refine yB (a ?_); clear a A) | (refine yD ?_; simp only [gresults, ↓yG, Nat.reduceEqDiff, ↓reduceIte, Option.bind_some, gld_1, gld_n, g92, f0, f1, f7, hls, ej, by34, b34', decide_false, by92, b92', decide_true, not_true_eq_false, hi3, lt32, bc', by127, b127']; refine ⟨_, rfl, ?_⟩; simp only [gone]) | refine zA ?_ | refine zB ?_ | refine zF ?_)
      exact hPost _
    have b92' := eq_false b92
    rw [if_neg b92] at hq
    by_cases bc : b < 32
    · have bc' := eq_true bc
      rw [if_pos (.inl bc)] at hq
      subst hq
      repeat' (first | (exfalso; omega) | refine zn ?_ | refine zK rfl ?_ | refine zP rfl ?_ | ((first | refine zm ?_ | skip); intro _; intros; simp (disch := first | exact zd | fail) only [↓yS, yT, ↓reduceIte, Nat.reduceEqDiff, Nat.reduceAdd, Nat.reduceMul, reduceCtorEq, Int.reduceToNat, g92, f0, f1, f7, hls, ej, by34, b34', decide_false, decide_true, lt32, bc']; first | (rename_i K k; refine yC (k _ _ ?_); clear k K) | (rename_i A B C D a b c d; (first | refine zX (a ?_) | refine zY (b ?_) | refine zZ (fun hc => c ?_) (fun hc => d ?_)) <;> clear a b c d A B C D <;> try simp only [yL] at hc)) | (refine yA ?_; intro A a; simp only [↓yG, Nat.reduceEqDiff, ↓reduceIte, g92, f0, f1, f7, hls, ej, by34, b34', decide_false, decide_true, lt32, bc']; refine yB (a ?_); clear a A) | (refine yD ?_; simp only [gresults, ↓yG, Nat.reduceEqDiff, ↓reduceIte, Option.bind_some, gld_1, gld_n, g92, f0, f1, f7, hls, ej, by34, b34', decide_false, decide_true, lt32, bc']; refine ⟨_, rfl, ?_⟩; simp only [gone]) | refine zA ?_ | refine zB ?_ | refine zF ?_)
      exact hPost _
    have bc' := eq_false bc
    by_cases b127 : b = 127
    · have b127' := eq_true b127
      rw [if_pos (.inr b127)] at hq
      subst hq
      repeat' (first | (exfalso; omega) | refine zn ?_ | refine zK rfl ?_ | refine zP rfl ?_ | ((first | refine zm ?_ | skip); intro _; intros; simp (disch := first | exact zd | fail) only [↓yS, yT, ↓reduceIte, Nat.reduceEqDiff, Nat.reduceAdd, Nat.reduceMul, reduceCtorEq, Int.reduceToNat, g92, f0, f1, f7, hls, ej, by34, b34', decide_false, decide_true, lt32, bc', by127, b127']; first | (rename_i K k; refine yC (k _ _ ?_); clear k K) | (rename_i A B C D a b c d; (first | refine zX (a ?_) | refine zY (b ?_) | refine zZ (fun hc => c ?_) (fun hc => d ?_)) <;> clear a b c d A B C D <;> try simp only [yL] at hc)) | (refine yA ?_; intro A a; simp only [↓yG, Nat.reduceEqDiff, ↓reduceIte, g92, f0, f1, f7, hls, ej, by34, b34', decide_false, decide_true, lt32, bc', by127, b127']; refine yB (a ?_); clear a A) | (refine yD ?_; simp only [gresults, ↓yG, Nat.reduceEqDiff, ↓reduceIte, Option.bind_some, gld_1, gld_n, g92, f0, f1, f7, hls, ej, by34, b34', decide_false, decide_true, lt32, bc', by127, b127']; refine ⟨_, rfl, ?_⟩; simp only [gone]) | refine zA ?_ | refine zB ?_ | refine zF ?_)
      exact hPost _
    have b127' := eq_false b127
    rw [if_neg (fun h => h.elim bc b127)] at hq
    repeat' (first | (exfalso; omega) | refine zn ?_ | refine zK rfl ?_ | refine zP rfl ?_ | ((first | refine zm ?_ | skip); intro _; intros; simp (disch := first | exact zd | fail) only [↓yS, yT, ↓reduceIte, Nat.reduceEqDiff, Nat.reduceAdd, Nat.reduceMul, reduceCtorEq, Int.reduceToNat, g92, f0, f1, f7, hls, ej, by34, b34', decide_false, by92, b92', not_false_eq_true, decide_true, lt32, bc', by127, b127', hsl1, had]; first | (rename_i K k; refine yC (k _ _ ?_); clear k K) | (rename_i A B C D a b c d; (first | refine zX (a ?_) | refine zY (b ?_) | refine zZ (fun hc => c ?_) (fun hc => d ?_)) <;> clear a b c d A B C D <;> try simp only [yL] at hc)) | (refine yA ?_; intro A a; simp only [↓yG, Nat.reduceEqDiff, ↓reduceIte, g92, f0, f1, f7, hls, ej, by34, b34', decide_false, by92, b92', not_false_eq_true, decide_true, lt32, bc', by127, b127', hsl1, had]; refine yB (a ?_); clear a A) | (refine yD ?_; simp only [gresults, ↓yG, Nat.reduceEqDiff, ↓reduceIte, Option.bind_some, gld_1, gld_n, g92, f0, f1, f7, hls, ej, by34, b34', decide_false, by92, b92', not_false_eq_true, decide_true, lt32, bc', by127, b127', hsl1, had]; refine ⟨_, rfl, ?_⟩; simp only [gone]) | refine zA ?_ | refine zB ?_ | refine zF ?_)
    refine hJ _ _ ⟨l.length - (i + 1), by omega, i + 1, o ++ [b], rfl, by omega, by simp; omega, ?_⟩
    simp only [↓yG, Nat.reduceEqDiff, ↓reduceIte, Int.natCast_add, Int.cast_ofNat_Int, Int.natCast_zero, true_and, and_true, Option.some.injEq, Value.int.injEq, f0, f1]
    rw [qat_end _ (by omega)]; exact hq
  have ej2 : ∀ k, gix none (.string (strB l)) (.int k ((i : Int) + 1)) = some (.int .u8 (l[i + 1]!.toNat : Nat)) := fun k => strB_at (k := k) (j := i + 1) hi2
  have hsl2 : ∀ H k k', gslice .str H (.string (strB l)) (some (.int k ((i : Int) + 1))) (some (.int k' ((i : Int) + 2))) none = some (.string (strB [l[i + 1]!])) := fun H k k' => by
    have h1 := sl_mid (H := H) (l := l) (k := k) (k' := k') (a := (i : Int) + 1) (b := (i : Int) + 2) (by omega) (by omega) (by omega)
    rw [h1, show ((i : Int) + 1).toNat = i + 1 by omega, show ((i : Int) + 2).toNat = (i + 1) + 1 by omega, mid_one hi2]
  rw [qat_two _ hi2] at hq
  generalize l[i]! = b at *
  generalize l[i + 1]! = c at *
  by_cases b34 : b = 34
  · have b34' := eq_true b34
    rw [if_pos b34] at hq
    by_cases c32 : c = 32
    · have c32' := eq_true c32
      rw [if_pos c32] at hq
      subst hq
      repeat' (first | (exfalso; omega) | refine zn ?_ | refine zK rfl ?_ | refine zP rfl ?_ | ((first | refine zm ?_ | skip); intro _; intros; simp (disch := first | exact zd | fail) only [↓yS, yT, ↓reduceIte, Nat.reduceEqDiff, Nat.reduceAdd, Nat.reduceMul, reduceCtorEq, Int.reduceToNat, g92, f0, f1, f7, hls, ej, by34, b34', decide_true, ej2, by32, c32', not_true_eq_false, decide_false]; first | (rename_i K k; refine yC (k _ _ ?_); clear k K) | (rename_i A B C D a b c d; (first | refine zX (a ?_) | refine zY (b ?_) | refine zZ (fun hc => c ?_) (fun hc => d ?_)) <;> clear a b c d A B C D <;> try simp only [yL] at hc)) | (refine yA ?_; intro A a; simp only [↓yG, Nat.reduceEqDiff, ↓reduceIte, g92, f0, f1, f7, hls, ej, by34, b34', decide_true, ej2, by32, c32', not_true_eq_false, decide_false]; refine yB (a ?_); clear a A) | (refine yD ?_; simp only [gresults, ↓yG, Nat.reduceEqDiff, ↓reduceIte, Option.bind_some, gld_1, gld_n, g92, f0, f1, f7, hls, ej, by34, b34', decide_true, ej2, by32, c32', not_true_eq_false, decide_false]; refine ⟨_, rfl, ?_⟩; simp only [gone]) | refine zA ?_ | refine zB ?_ | refine zF ?_)
      exact hPost _
    · have c32' := eq_false c32
      rw [if_neg c32] at hq
      subst hq
      repeat' (first | (exfalso; omega) | refine zn ?_ | refine zK rfl ?_ | refine zP rfl ?_ | ((first | refine zm ?_ | skip); intro _; intros; simp (disch := first | exact zd | fail) only [↓yS, yT, ↓reduceIte, Nat.reduceEqDiff, Nat.reduceAdd, Nat.reduceMul, reduceCtorEq, Int.reduceToNat, g92, f0, f1, f7, hls, ej, by34, b34', decide_true, ej2, by32, c32', not_false_eq_true, decide_false]; first | (rename_i K k; refine yC (k _ _ ?_); clear k K) | (rename_i A B C D a b c d; (first | refine zX (a ?_) | refine zY (b ?_) | refine zZ (fun hc => c ?_) (fun hc => d ?_)) <;> clear a b c d A B C D <;> try simp only [yL] at hc)) | (refine yA ?_; intro A a; simp only [↓yG, Nat.reduceEqDiff, ↓reduceIte, g92, f0, f1, f7, hls, ej, by34, b34', decide_true, ej2, by32, c32', not_false_eq_true, decide_false]; refine yB (a ?_); clear a A) | (refine yD ?_; simp only [gresults, ↓yG, Nat.reduceEqDiff, ↓reduceIte, Option.bind_some, gld_1, gld_n, g92, f0, f1, f7, hls, ej, by34, b34', decide_true, ej2, by32, c32', not_false_eq_true, decide_false]; refine ⟨_, rfl, ?_⟩; simp only [gone]) | refine zA ?_ | refine zB ?_ | refine zF ?_)
      exact hPost _
  have b34' := eq_false b34
  rw [if_neg b34] at hq
  by_cases b92 : b = 92
  · have b92' := eq_true b92
    rw [if_pos b92] at hq
    have b127' : (b = 127) = False := eq_false (by rw [b92]; decide)
    have bc' : (b < 32) = False := eq_false (by rw [b92]; decide)
    have hne : ¬ ((l.length : Int) ≤ (i : Int) + 1) := by omega
    by_cases c34 : c = 34
    · have c34' := eq_true c34
      rw [if_pos (.inl c34)] at hq
      repeat' (first | (exfalso; omega) | refine zn ?_ | refine zK rfl ?_ | refine zP rfl ?_ | ((first | refine zm ?_ | skip); intro _; intros; simp (disch := first | exact zd | fail) only [↓yS, yT, ↓reduceIte, Nat.reduceEqDiff, Nat.reduceAdd, Nat.reduceMul, reduceCtorEq, Int.reduceToNat, g92, f0, f1, f7, hls, ej, by34, b34', decide_false, by92, b92', decide_true, not_true_eq_false, lt32, bc', by127, b127', ej2, c34', hsl2, had]; first | (rename_i K k; refine yC (k _ _ ?_); clear k K) | (rename_i A B C D a b c d; (first | refine zX (a ?_) | refine zY (b ?_) | refine zZ (fun hc => c ?_) (fun hc => d ?_)) <;> clear a b c d A B C D <;> try simp only [yL] at hc)) | (refine yA ?_; intro A a; simp only [↓yG, Nat.reduceEqDiff, ↓reduceIte, g92, f0, f1, f7, hls, ej, by34, b34', decide_false, by92, b92', decide_true, not_true_eq_false, lt32, bc', by127, b127', ej2, c34', hsl2, had]; refine yB (a ?_); clear a A) | (refine yD ?_; simp only [gresults, ↓yG, Nat.reduceEqDiff, ↓reduceIte, Option.bind_some, gld_1, gld_n, g92, f0, f1, f7, hls, ej, by34, b34', decide_false, by92, b92', decide_true, not_true_eq_false, lt32, bc', by127, b127', ej2, c34', hsl2, had]; refine ⟨_, rfl, ?_⟩; simp only [gone]) | refine zA ?_ | refine zB ?_ | refine zF ?_)
      refine hJ _ _ ⟨l.length - (i + 2), by omega, i + 2, o ++ [c], rfl, by omega, by simp; omega, ?_⟩
      simp only [↓yG, Nat.reduceEqDiff, ↓reduceIte, Int.natCast_add, Int.cast_ofNat_Int, Int.natCast_zero, true_and, and_true, Option.some.injEq, Value.int.injEq, f0, f1]
      exact hq
    have c34' := eq_false c34
    by_cases c92 : c = 92
    · have c92' := eq_true c92
      rw [if_pos (.inr c92)] at hq
      repeat' (first | (exfalso; omega) | refine zn ?_ | refine zK rfl ?_ | refine zP rfl ?_ | ((first | refine zm ?_ | skip); intro _; intros; simp (disch := first | exact zd | fail) only [↓yS, yT, ↓reduceIte, Nat.reduceEqDiff, Nat.reduceAdd, Nat.reduceMul, reduceCtorEq, Int.reduceToNat, g92, f0, f1, f7, hls, ej, by34, b34', decide_false, by92, b92', decide_true, not_true_eq_false, lt32, bc', by127, b127', ej2, c34', c92', hsl2, had]; first | (rename_i K k; refine yC (k _ _ ?_); clear k K) | (rename_i A B C D a b c d; (first | refine zX (a ?_) | refine zY (b ?_) | refine zZ (fun hc => c ?_) (fun hc => d ?_)) <;> clear a b c d A B C D <;> try simp only [yL] at hc)) | (refine yA ?_; intro A a; simp only [↓yG, Nat.reduceEqDiff, ↓reduceIte, g92, f0, f1, f7, hls, ej, by34, b34', decide_false, by92, b92', decide_true, not_true_eq_false, lt32, bc', by127, b127', ej2, c34', c92', hsl2, had]; refine yB (a ?_); clear a A) | (refine yD ?_; simp only [gresults, ↓yG, Nat.reduceEqDiff, ↓reduceIte, Option.bind_some, gld_1, gld_n, g92, f0, f1, f7, hls, ej, by34, b34', decide_false, by92, b92', decide_true, not_true_eq_false, lt32, bc', by127, b127', ej2, c34', c92', hsl2, had]; refine ⟨_, rfl, ?_⟩; simp only [gone]) | refine zA ?_ | refine zB ?_ | refine zF ?_)
      refine hJ _ _ ⟨l.length - (i + 2), by omega, i + 2, o ++ [c], rfl, by omega, by simp; omega, ?_⟩
      simp only [↓yG, Nat.reduceEqDiff, ↓reduceIte, Int.natCast_add, Int.cast_ofNat_Int, Int.natCast_zero, true_and, and_true, Option.some.injEq, Value.int.injEq, f0, f1]
      exact hq
    have c92' := eq_false c92
    rw [if_neg (fun h => h.elim c34 c92)] at hq
    by_cases c110 : c = 110
    · have c110' := eq_true c110
      rw [if_pos c110] at hq
      repeat' (first | (exfalso; omega) | refine zn ?_ | refine zK rfl ?_ | refine zP rfl ?_ | ((first | refine zm ?_ | skip); intro _; intros; simp (disch := first | exact zd | fail) only [↓yS, yT, ↓reduceIte, Nat.reduceEqDiff, Nat.reduceAdd, Nat.reduceMul, reduceCtorEq, Int.reduceToNat, g92, f0, f1, f7, hls, ej, by34, b34', decide_false, by92, b92', decide_true, not_true_eq_false, lt32, bc', by127, b127', ej2, c34', c92', by110, c110', had10]; first | (rename_i K k; refine yC (k _ _ ?_); clear k K) | (rename_i A B C D a b c d; (first | refine zX (a ?_) | refine zY (b ?_) | refine zZ (fun hc => c ?_) (fun hc => d ?_)) <;> clear a b c d A B C D <;> try simp only [yL] at hc)) | (refine yA ?_; intro A a; simp only [↓yG, Nat.reduceEqDiff, ↓reduceIte, g92, f0, f1, f7, hls, ej, by34, b34', decide_false, by92, b92', decide_true, not_true_eq_false, lt32, bc', by127, b127', ej2, c34', c92', by110, c110', had10]; refine yB (a ?_); clear a A) | (refine yD ?_; simp only [gresults, ↓yG, Nat.reduceEqDiff, ↓reduceIte, Option.bind_some, gld_1, gld_n, g92, f0, f1, f7, hls, ej, by34, b34', decide_false, by92, b92', decide_true, not_true_eq_false, lt32, bc', by127, b127', ej2, c34', c92', by110, c110', had10]; refine ⟨_, rfl, ?_⟩; simp only [gone]) | refine zA ?_ | refine zB ?_ | refine zF ?_)
      refine hJ _ _ ⟨l.length - (i + 2), by omega, i + 2, o ++ [10], rfl, by omega, by simp; omega, ?_⟩
      simp only [↓yG, Nat.reduceEqDiff, ↓reduceIte, Int.natCast_add, Int.cast_ofNat_Int, Int.natCast_zero, true_and, and_true, Option.some.injEq, Value.int.injEq, f0, f1]
      exact hq
    · have c110' := eq_false c110
      rw [if_neg c110] at hq
      subst hq
      repeat' (first | (exfalso; omega) | refine zn ?_ | refine zK rfl ?_ | refine zP rfl ?_ | ((first | refine zm ?_ | skip); intro _; intros; simp (disch := first | exact zd | fail) only [↓yS, yT, ↓reduceIte, Nat.reduceEqDiff, Nat.reduceAdd, Nat.reduceMul, reduceCtorEq, Int.reduceToNat, g92, f0, f1, f7, hls, ej, by34, b34', decide_false, by92, b92', decide_true, not_true_eq_false, lt32, bc', by127, b127', ej2, c34', c92', by110, c110']; first | (rename_i K k; refine yC (k _ _ ?_); clear k K) | (rename_i A B C D a b c d; (first | refine zX (a ?_) | refine zY (b ?_) | refine zZ (fun hc => c ?_) (fun hc => d ?_)) <;> clear a b c d A B C D <;> try simp only [yL] at hc)) | (refine yA ?_; intro A a; simp only [↓yG, Nat.reduceEqDiff, ↓reduceIte, g92, f0, f1, f7, hls, ej, by34, b34', decide_false, by92, b92', decide_true, not_true_eq_false, lt32, bc', by127, b127', ej2, c34', c92', by110, c110']; refine yB (a ?_); clear a A) | (refine yD ?_; simp only [gresults, ↓yG, Nat.reduceEqDiff, ↓reduceIte, Option.bind_some, gld_1, gld_n, g92, f0, f1, f7, hls, ej, by34, b34', decide_false, by92, b92', decide_true, not_true_eq_false, lt32, bc', by127, b127', ej2, c34', c92', by110, c110']; refine ⟨_, rfl, ?_⟩; simp only [gone]) | refine zA ?_ | refine zB ?_ | refine zF ?_)
      exact hPost _
  have b92' := eq_false b92
  rw [if_neg b92] at hq
  by_cases bc : b < 32
  · have bc' := eq_true bc
    rw [if_pos (.inl bc)] at hq
    subst hq
    repeat' (first | (exfalso; omega) | refine zn ?_ | refine zK rfl ?_ | refine zP rfl ?_ | ((first | refine zm ?_ | skip); intro _; intros; simp (disch := first | exact zd | fail) only [↓yS, yT, ↓reduceIte, Nat.reduceEqDiff, Nat.reduceAdd, Nat.reduceMul, reduceCtorEq, Int.reduceToNat, g92, f0, f1, f7, hls, ej, by34, b34', decide_false, decide_true, lt32, bc']; first | (rename_i K k; refine yC (k _ _ ?_); clear k K) | (rename_i A B C D a b c d; (first | refine zX (a ?_) | refine zY (b ?_) | refine zZ (fun hc => c ?_) (fun hc => d ?_)) <;> clear a b c d A B C D <;> try simp only [yL] at hc)) | (refine yA ?_; intro A a; simp only [↓yG, Nat.reduceEqDiff, ↓reduceIte, g92, f0, f1, f7, hls, ej, by34, b34', decide_false, decide_true, lt32, bc']; refine yB (a ?_); clear a A) | (refine yD ?_; simp only [gresults, ↓yG, Nat.reduceEqDiff, ↓reduceIte, Option.bind_some, gld_1, gld_n, g92, f0, f1, f7, hls, ej, by34, b34', decide_false, decide_true, lt32, bc']; refine ⟨_, rfl, ?_⟩; simp only [gone]) | refine zA ?_ | refine zB ?_ | refine zF ?_)
    exact hPost _
  have bc' := eq_false bc
  by_cases b127 : b = 127
  · have b127' := eq_true b127
    rw [if_pos (.inr b127)] at hq
    subst hq
    repeat' (first | (exfalso; omega) | refine zn ?_ | refine zK rfl ?_ | refine zP rfl ?_ | ((first | refine zm ?_ | skip); intro _; intros; simp (disch := first | exact zd | fail) only [↓yS, yT, ↓reduceIte, Nat.reduceEqDiff, Nat.reduceAdd, Nat.reduceMul, reduceCtorEq, Int.reduceToNat, g92, f0, f1, f7, hls, ej, by34, b34', decide_false, decide_true, lt32, bc', by127, b127']; first | (rename_i K k; refine yC (k _ _ ?_); clear k K) | (rename_i A B C D a b c d; (first | refine zX (a ?_) | refine zY (b ?_) | refine zZ (fun hc => c ?_) (fun hc => d ?_)) <;> clear a b c d A B C D <;> try simp only [yL] at hc)) | (refine yA ?_; intro A a; simp only [↓yG, Nat.reduceEqDiff, ↓reduceIte, g92, f0, f1, f7, hls, ej, by34, b34', decide_false, decide_true, lt32, bc', by127, b127']; refine yB (a ?_); clear a A) | (refine yD ?_; simp only [gresults, ↓yG, Nat.reduceEqDiff, ↓reduceIte, Option.bind_some, gld_1, gld_n, g92, f0, f1, f7, hls, ej, by34, b34', decide_false, decide_true, lt32, bc', by127, b127']; refine ⟨_, rfl, ?_⟩; simp only [gone]) | refine zA ?_ | refine zB ?_ | refine zF ?_)
    exact hPost _
  have b127' := eq_false b127
  rw [if_neg (fun h => h.elim bc b127)] at hq
  repeat' (first | (exfalso; omega) | refine zn ?_ | refine zK rfl ?_ | refine zP rfl ?_ | ((first | refine zm ?_ | skip); intro _; intros; simp (disch := first | exact zd | fail) only [↓yS, yT, ↓reduceIte, Nat.reduceEqDiff, Nat.reduceAdd, Nat.reduceMul, reduceCtorEq, Int.reduceToNat, g92, f0, f1, f7, hls, ej, by34, b34', decide_false, by92, b92', not_false_eq_true, decide_true, lt32, bc', by127, b127', hsl1, had]; first | (rename_i K k; refine yC (k _ _ ?_); clear k K) | (rename_i A B C D a b c d; (first | refine zX (a ?_) | refine zY (b ?_) | refine zZ (fun hc => c ?_) (fun hc => d ?_)) <;> clear a b c d A B C D <;> try simp only [yL] at hc)) | (refine yA ?_; intro A a; simp only [↓yG, Nat.reduceEqDiff, ↓reduceIte, g92, f0, f1, f7, hls, ej, by34, b34', decide_false, by92, b92', not_false_eq_true, decide_true, lt32, bc', by127, b127', hsl1, had]; refine yB (a ?_); clear a A) | (refine yD ?_; simp only [gresults, ↓yG, Nat.reduceEqDiff, ↓reduceIte, Option.bind_some, gld_1, gld_n, g92, f0, f1, f7, hls, ej, by34, b34', decide_false, by92, b92', not_false_eq_true, decide_true, lt32, bc', by127, b127', hsl1, had]; refine ⟨_, rfl, ?_⟩; simp only [gone]) | refine zA ?_ | refine zB ?_ | refine zF ?_)
  refine hJ _ _ ⟨l.length - (i + 1), by omega, i + 1, o ++ [b], rfl, by omega, by simp; omega, ?_⟩
  simp only [↓yG, Nat.reduceEqDiff, ↓reduceIte, Int.natCast_add, Int.cast_ofNat_Int, Int.natCast_zero, true_and, and_true, Option.some.injEq, Value.int.injEq, f0, f1]
  exact hq
end Go.Gh
