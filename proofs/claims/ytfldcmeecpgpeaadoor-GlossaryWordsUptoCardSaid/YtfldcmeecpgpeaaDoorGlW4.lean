/-
  glossary: the laws Judges and Words; arguments that came in.
-/
import Derived.Test.YtfldcmeecpgpeaaDoorGlW3
import Derived.Test.YtfldcmeecpgpeaaDoorGlP1
namespace Go.Gh
set_option linter.unusedSimpArgs false
set_option linter.unusedVariables false
open Go.RowKit Go.Lib
set_option maxRecDepth 4000

/-! ### the law Words -/
def UPJ (cs : List Nat) (j : Nat) : List UInt8 := upB (cs.take j)
theorem UPJ_succ {cs : List Nat} {j : Nat} (h : j < cs.length) : UPJ cs (j + 1) = UPJ cs j ++ encL (uppN cs[j]!) := by
  unfold UPJ upB
  rw [List.take_succ_eq_append_getElem h, List.map_append, List.flatMap_append, getElem!_pos cs j h]
  simp
theorem UPJ_len {cs : List Nat} (hm : ∀ x ∈ cs, x ∈ REP) (j : Nat) : (UPJ cs j).length ≤ 3 * j := by
  induction j with
  | zero => simp [UPJ, upB]
  | succ j ih =>
    by_cases h : j < cs.length
    · rw [UPJ_succ h, List.length_append]
      have h1 := (encL_len (upp_char (hm _ (bang_mem h))).1).1
      omega
    · unfold UPJ at *
      rw [List.take_of_length_le (by omega)] at ih ⊢
      omega
theorem RL_rd {H : GHeap} {v : Value} {l : List Nat} (h : GRd H 1 v l.length (RL l)) {j : Nat} (hj : j < l.length) : H.rd (blk v) (ofs v + j) = some (.int .i32 (l[j]! : Nat)) := by
  rw [h.rd (by rw [RL_len]; exact hj)]; exact RL_at hj
set_option maxHeartbeats 4000000 in
theorem words_ok {H : GHeap} (hw : H.wf) {b t a : List UInt8} (hb : b.length ≤ 1048576) (ht : t.length ≤ 1048576) (ha : a.length ≤ 1048576) : ∃ r H', gev G 4 [.string (strB b), .string (strB t), .string (strB a)] H = some (r, H') ∧ r = .bool true := by
  refine gev_GW (f := 4) rfl fun Post hPost => ?_
  have hP : ∀ H', Post (.bool true) H' := fun H' => hPost _ _ rfl
  simp only [frameOf, Nat.reduceAdd]
  repeat' (first | refine zA ?_ | refine zB ?_ | refine zC ?_ | refine zD ?_ | refine zE ?_ | refine zF ?_ | refine zG ?_ | refine zH ?_ | refine zI ?_ | refine zJ ?_ | refine zK rfl ?_ | refine zL ?_ | refine zM ?_ | refine zN ?_ | refine zO ?_ | refine zP rfl ?_ | refine zQ ?_ | ((first | refine zR ?_ | refine zS ?_ | refine zT ?_ | skip); intro K k; simp (disch := (first | (simp only [yD2, beq_self_eq_true, Nat.reduceLT, Nat.reduceAdd]; done) | ((fail_if_success (apply Bool.eq_iff_iff.2)); first | omega | (simp only [yD2, beq_self_eq_true, Nat.reduceLT, Nat.reduceAdd] <;> omega)) | fail)) only [↓yS, yT, ↓reduceIte, Nat.reduceEqDiff, Nat.reduceAdd, Nat.reduceMul, reduceCtorEq, Int.reduceToNat, g4]; refine yC (k _ _ ?_); clear k K) | ((first | refine zU ?_ | refine zV ?_ | refine zW ?_); intro A B C D a b c d; simp only [↓yG, Nat.reduceEqDiff, ↓reduceIte, g4]; (first | refine zX (a ?_) | refine zY (b ?_) | refine zZ (fun hc => c ?_) (fun hc => d ?_)) <;> clear a b c d A B C D <;> try simp only [yL] at hc) | (refine yA ?_; intro A a; simp only [↓yG, Nat.reduceEqDiff, ↓reduceIte, g4]; refine yB (a ?_); clear a A) | (refine yD ?_; simp only [gresults, ↓yG, Nat.reduceEqDiff, ↓reduceIte, Option.bind_some, gld_1, gld_n, g4]; refine ⟨_, rfl, ?_⟩; simp only [gone]))
  refine Gw_s fun K' hK' => G1_call (by simp only [gtarget, ↓GArg.ev, ↓evs, ↓Tr.get_set, Nat.reduceEqDiff, if_true, if_false, ↓reduceIte, Option.map_some]; rfl) (awake_ok _) fun r1 H1 hq => hK' _ _ ?_
  obtain ⟨rfl, rfl⟩ := hq
  repeat' (first | refine zA ?_ | refine zB ?_ | refine zC ?_ | refine zD ?_ | refine zE ?_ | refine zF ?_ | refine zG ?_ | refine zH ?_ | refine zI ?_ | refine zJ ?_ | refine zK rfl ?_ | refine zL ?_ | refine zM ?_ | refine zN ?_ | refine zO ?_ | refine zP rfl ?_ | refine zQ ?_ | ((first | refine zR ?_ | refine zS ?_ | refine zT ?_ | skip); intro K k; simp (disch := (first | (simp only [yD2, beq_self_eq_true, Nat.reduceLT, Nat.reduceAdd]; done) | ((fail_if_success (apply Bool.eq_iff_iff.2)); first | omega | (simp only [yD2, beq_self_eq_true, Nat.reduceLT, Nat.reduceAdd] <;> omega)) | fail)) only [↓yS, yT, ↓reduceIte, Nat.reduceEqDiff, Nat.reduceAdd, Nat.reduceMul, reduceCtorEq, Int.reduceToNat, g4]; refine yC (k _ _ ?_); clear k K) | ((first | refine zU ?_ | refine zV ?_ | refine zW ?_); intro A B C D a b c d; simp only [↓yG, Nat.reduceEqDiff, ↓reduceIte, g4]; (first | refine zX (a ?_) | refine zY (b ?_) | refine zZ (fun hc => c ?_) (fun hc => d ?_)) <;> clear a b c d A B C D <;> try simp only [yL] at hc) | (refine yA ?_; intro A a; simp only [↓yG, Nat.reduceEqDiff, ↓reduceIte, g4]; refine yB (a ?_); clear a A) | (refine yD ?_; simp only [gresults, ↓yG, Nat.reduceEqDiff, ↓reduceIte, Option.bind_some, gld_1, gld_n, g4]; refine ⟨_, rfl, ?_⟩; simp only [gone]))
  refine Gw_s fun K' hK' => G1_call (by simp only [gtarget, ↓GArg.ev, ↓evs, ↓Tr.get_set, Nat.reduceEqDiff, if_true, if_false, ↓reduceIte, Option.map_some]; rfl) (one_of (len_ok (s := strB b) (by rw [strB_size]; omega) _)) fun r1 H1 hq => hK' _ _ ?_
  obtain ⟨rfl, rfl⟩ := hq
  have h0 : lenN (strB b) < 0 ∨ vldB (strB b) = true ∧ 0 ≤ lenN (strB b) := by
    unfold lenN; split
    · rename_i h; exact .inr ⟨h, by omega⟩
    · exact .inl (by omega)
  have h1 : lenN (strB a) < 0 ∨ vldB (strB a) = true ∧ 0 ≤ lenN (strB a) := by
    unfold lenN; split
    · rename_i h; exact .inr ⟨h, by omega⟩
    · exact .inl (by omega)
  rcases h0 with h0 | ⟨hvb, h0⟩
  · repeat' (first | (exfalso; omega) | refine zA ?_ | refine zB ?_ | refine zC ?_ | refine zD ?_ | refine zE ?_ | refine zF ?_ | refine zG ?_ | refine zH ?_ | refine zI ?_ | refine zJ ?_ | refine zK rfl ?_ | refine zL ?_ | refine zM ?_ | refine zN ?_ | refine zO ?_ | refine zP rfl ?_ | refine zQ ?_ | ((first | refine zR ?_ | refine zS ?_ | refine zT ?_ | skip); intro K k; simp (disch := (first | (simp only [yD2, beq_self_eq_true, Nat.reduceLT, Nat.reduceAdd]; done) | ((fail_if_success (apply Bool.eq_iff_iff.2)); first | omega | (simp only [yD2, beq_self_eq_true, Nat.reduceLT, Nat.reduceAdd] <;> omega)) | fail)) only [↓yS, yT, ↓reduceIte, Nat.reduceEqDiff, Nat.reduceAdd, Nat.reduceMul, reduceCtorEq, Int.reduceToNat, g4]; refine yC (k _ _ ?_); clear k K) | ((first | refine zU ?_ | refine zV ?_ | refine zW ?_); intro A B C D a b c d; simp only [↓yG, Nat.reduceEqDiff, ↓reduceIte, g4]; (first | refine zX (a ?_) | refine zY (b ?_) | refine zZ (fun hc => c ?_) (fun hc => d ?_)) <;> clear a b c d A B C D <;> try simp only [yL] at hc) | (refine yA ?_; intro A a; simp only [↓yG, Nat.reduceEqDiff, ↓reduceIte, g4]; refine yB (a ?_); clear a A) | (refine yD ?_; simp only [gresults, ↓yG, Nat.reduceEqDiff, ↓reduceIte, Option.bind_some, gld_1, gld_n, g4]; refine ⟨_, rfl, ?_⟩; simp only [gone]))
    exact hP _
  repeat' (first | (exfalso; omega) | refine zA ?_ | refine zB ?_ | refine zC ?_ | refine zD ?_ | refine zE ?_ | refine zF ?_ | refine zG ?_ | refine zH ?_ | refine zI ?_ | refine zJ ?_ | refine zK rfl ?_ | refine zL ?_ | refine zM ?_ | refine zN ?_ | refine zO ?_ | refine zP rfl ?_ | refine zQ ?_ | ((first | refine zR ?_ | refine zS ?_ | refine zT ?_ | skip); intro K k; simp (disch := (first | (simp only [yD2, beq_self_eq_true, Nat.reduceLT, Nat.reduceAdd]; done) | ((fail_if_success (apply Bool.eq_iff_iff.2)); first | omega | (simp only [yD2, beq_self_eq_true, Nat.reduceLT, Nat.reduceAdd] <;> omega)) | fail)) only [↓yS, yT, ↓reduceIte, Nat.reduceEqDiff, Nat.reduceAdd, Nat.reduceMul, reduceCtorEq, Int.reduceToNat, g4]; refine yC (k _ _ ?_); clear k K) | ((first | refine zU ?_ | refine zV ?_ | refine zW ?_); intro A B C D a b c d; simp only [↓yG, Nat.reduceEqDiff, ↓reduceIte, g4]; (first | refine zX (a ?_) | refine zY (b ?_) | refine zZ (fun hc => c ?_) (fun hc => d ?_)) <;> clear a b c d A B C D <;> try simp only [yL] at hc) | (refine yA ?_; intro A a; simp only [↓yG, Nat.reduceEqDiff, ↓reduceIte, g4]; refine yB (a ?_); clear a A) | (refine yD ?_; simp only [gresults, ↓yG, Nat.reduceEqDiff, ↓reduceIte, Option.bind_some, gld_1, gld_n, g4]; refine ⟨_, rfl, ?_⟩; simp only [gone]))
  intro K' hK'; refine G1_call (by simp only [gtarget, ↓GArg.ev, ↓evs, ↓Tr.get_set, Nat.reduceEqDiff, if_true, if_false, ↓reduceIte, Option.map_some]; rfl) (one_of (len_ok (s := strB a) (by rw [strB_size]; omega) _)) fun r1 H1 hq => hK' _ _ ?_
  obtain ⟨rfl, rfl⟩ := hq
  rcases h1 with h1 | ⟨hva, h1⟩
  · repeat' (first | (exfalso; omega) | refine zA ?_ | refine zB ?_ | refine zC ?_ | refine zD ?_ | refine zE ?_ | refine zF ?_ | refine zG ?_ | refine zH ?_ | refine zI ?_ | refine zJ ?_ | refine zK rfl ?_ | refine zL ?_ | refine zM ?_ | refine zN ?_ | refine zO ?_ | refine zP rfl ?_ | refine zQ ?_ | ((first | refine zR ?_ | refine zS ?_ | refine zT ?_ | skip); intro K k; simp (disch := (first | (simp only [yD2, beq_self_eq_true, Nat.reduceLT, Nat.reduceAdd]; done) | ((fail_if_success (apply Bool.eq_iff_iff.2)); first | omega | (simp only [yD2, beq_self_eq_true, Nat.reduceLT, Nat.reduceAdd] <;> omega)) | fail)) only [↓yS, yT, ↓reduceIte, Nat.reduceEqDiff, Nat.reduceAdd, Nat.reduceMul, reduceCtorEq, Int.reduceToNat, g4]; refine yC (k _ _ ?_); clear k K) | ((first | refine zU ?_ | refine zV ?_ | refine zW ?_); intro A B C D a b c d; simp only [↓yG, Nat.reduceEqDiff, ↓reduceIte, g4]; (first | refine zX (a ?_) | refine zY (b ?_) | refine zZ (fun hc => c ?_) (fun hc => d ?_)) <;> clear a b c d A B C D <;> try simp only [yL] at hc) | (refine yA ?_; intro A a; simp only [↓yG, Nat.reduceEqDiff, ↓reduceIte, g4]; refine yB (a ?_); clear a A) | (refine yD ?_; simp only [gresults, ↓yG, Nat.reduceEqDiff, ↓reduceIte, Option.bind_some, gld_1, gld_n, g4]; refine ⟨_, rfl, ?_⟩; simp only [gone]))
    exact hP _
  repeat' (first | (exfalso; omega) | refine zA ?_ | refine zB ?_ | refine zC ?_ | refine zD ?_ | refine zE ?_ | refine zF ?_ | refine zG ?_ | refine zH ?_ | refine zI ?_ | refine zJ ?_ | refine zK rfl ?_ | refine zL ?_ | refine zM ?_ | refine zN ?_ | refine zO ?_ | refine zP rfl ?_ | refine zQ ?_ | ((first | refine zR ?_ | refine zS ?_ | refine zT ?_ | skip); intro K k; simp (disch := (first | (simp only [yD2, beq_self_eq_true, Nat.reduceLT, Nat.reduceAdd]; done) | ((fail_if_success (apply Bool.eq_iff_iff.2)); first | omega | (simp only [yD2, beq_self_eq_true, Nat.reduceLT, Nat.reduceAdd] <;> omega)) | fail)) only [↓yS, yT, ↓reduceIte, Nat.reduceEqDiff, Nat.reduceAdd, Nat.reduceMul, reduceCtorEq, Int.reduceToNat, g4]; refine yC (k _ _ ?_); clear k K) | ((first | refine zU ?_ | refine zV ?_ | refine zW ?_); intro A B C D a b c d; simp only [↓yG, Nat.reduceEqDiff, ↓reduceIte, g4]; (first | refine zX (a ?_) | refine zY (b ?_) | refine zZ (fun hc => c ?_) (fun hc => d ?_)) <;> clear a b c d A B C D <;> try simp only [yL] at hc) | (refine yA ?_; intro A a; simp only [↓yG, Nat.reduceEqDiff, ↓reduceIte, g4]; refine yB (a ?_); clear a A) | (refine yD ?_; simp only [gresults, ↓yG, Nat.reduceEqDiff, ↓reduceIte, Option.bind_some, gld_1, gld_n, g4]; refine ⟨_, rfl, ?_⟩; simp only [gone]))
  intro K' hK'; refine G1_call (by simp only [gtarget, ↓GArg.ev, ↓evs, ↓Tr.get_set, Nat.reduceEqDiff, if_true, if_false, ↓reduceIte, Option.map_some]; rfl) (one_of (Contains_ok (x := t) (t := t) (by omega) (by omega) _)) fun r1 H1 hq => hK' _ _ ?_
  obtain ⟨rfl, rfl⟩ := hq
  cases hc : conB t t with
  | false =>
    repeat' (first | (exfalso; omega) | refine zA ?_ | refine zB ?_ | refine zC ?_ | refine zD ?_ | refine zE ?_ | refine zF ?_ | refine zG ?_ | refine zH ?_ | refine zI ?_ | refine zJ ?_ | refine zK rfl ?_ | refine zL ?_ | refine zM ?_ | refine zN ?_ | refine zO ?_ | refine zP rfl ?_ | refine zQ ?_ | ((first | refine zR ?_ | refine zS ?_ | refine zT ?_ | skip); intro K k; simp (disch := (first | (simp only [yD2, beq_self_eq_true, Nat.reduceLT, Nat.reduceAdd]; done) | ((fail_if_success (apply Bool.eq_iff_iff.2)); first | omega | (simp only [yD2, beq_self_eq_true, Nat.reduceLT, Nat.reduceAdd] <;> omega)) | fail)) only [↓yS, yT, ↓reduceIte, Nat.reduceEqDiff, Nat.reduceAdd, Nat.reduceMul, reduceCtorEq, Int.reduceToNat, g4]; refine yC (k _ _ ?_); clear k K) | ((first | refine zU ?_ | refine zV ?_ | refine zW ?_); intro A B C D a b c d; simp only [↓yG, Nat.reduceEqDiff, ↓reduceIte, g4]; (first | refine zX (a ?_) | refine zY (b ?_) | refine zZ (fun hc => c ?_) (fun hc => d ?_)) <;> clear a b c d A B C D <;> try simp only [yL] at hc) | (refine yA ?_; intro A a; simp only [↓yG, Nat.reduceEqDiff, ↓reduceIte, g4]; refine yB (a ?_); clear a A) | (refine yD ?_; simp only [gresults, ↓yG, Nat.reduceEqDiff, ↓reduceIte, Option.bind_some, gld_1, gld_n, g4]; refine ⟨_, rfl, ?_⟩; simp only [gone]))
    exact hP _
  | true =>
  have hph := conB_phr hc
  obtain ⟨hvt, hne, hlt⟩ := phr_vld hph
  have w1 := words_1 hvb hva hph
  have w2 := words_2 hvb hva hph
  have w3 := words_3 hvb hva hph
  have w4 := words_4 hph
  repeat' (first | (exfalso; omega) | refine zA ?_ | refine zB ?_ | refine zC ?_ | refine zD ?_ | refine zE ?_ | refine zF ?_ | refine zG ?_ | refine zH ?_ | refine zI ?_ | refine zJ ?_ | refine zK rfl ?_ | refine zL ?_ | refine zM ?_ | refine zN ?_ | refine zO ?_ | refine zP rfl ?_ | refine zQ ?_ | ((first | refine zR ?_ | refine zS ?_ | refine zT ?_ | skip); intro K k; simp (disch := (first | (simp only [yD2, beq_self_eq_true, Nat.reduceLT, Nat.reduceAdd]; done) | ((fail_if_success (apply Bool.eq_iff_iff.2)); first | omega | (simp only [yD2, beq_self_eq_true, Nat.reduceLT, Nat.reduceAdd] <;> omega)) | fail)) only [↓yS, yT, ↓reduceIte, Nat.reduceEqDiff, Nat.reduceAdd, Nat.reduceMul, reduceCtorEq, Int.reduceToNat, g4]; refine yC (k _ _ ?_); clear k K) | ((first | refine zU ?_ | refine zV ?_ | refine zW ?_); intro A B C D a b c d; simp only [↓yG, Nat.reduceEqDiff, ↓reduceIte, g4]; (first | refine zX (a ?_) | refine zY (b ?_) | refine zZ (fun hc => c ?_) (fun hc => d ?_)) <;> clear a b c d A B C D <;> try simp only [yL] at hc) | (refine yA ?_; intro A a; simp only [↓yG, Nat.reduceEqDiff, ↓reduceIte, g4]; refine yB (a ?_); clear a A) | (refine yD ?_; simp only [gresults, ↓yG, Nat.reduceEqDiff, ↓reduceIte, Option.bind_some, gld_1, gld_n, g4]; refine ⟨_, rfl, ?_⟩; simp only [gone]))
  refine Gw_s fun K' hK' => G1_call (by simp only [gtarget, ↓GArg.ev, ↓evs, ↓Tr.get_set, Nat.reduceEqDiff, if_true, if_false, ↓reduceIte, Option.map_some]; rfl) (chars_ok (s := strB t) (by rw [strB_size]; omega) hw) fun cv H1 hC => hK' _ _ ?_
  have hcm := charL_mem (strB t)
  have hcl := charL_len (strB t)
  rw [strB_size] at hcl
  have hul := UPJ_len hcm (charL (strB t)).length
  have hua : UPJ (charL (strB t)) (charL (strB t)).length = upB (charL (strB t)) := by unfold UPJ; rw [List.take_length]
  rw [← hua] at w2 w3
  generalize charL (strB t) = cs at *
  have hslc := hC.rd.isSl
  have hrd := fun j (hj : j < cs.length) => RL_rd hC.rd hj
  have hw1 := hC.same.wf
  clear hC
  repeat' (first | (exfalso; omega) | refine zA ?_ | refine zB ?_ | refine zC ?_ | refine zD ?_ | refine zE ?_ | refine zF ?_ | refine zG ?_ | refine zH ?_ | refine zI ?_ | refine zJ ?_ | refine zK rfl ?_ | refine zL ?_ | refine zM ?_ | refine zN ?_ | refine zO ?_ | refine zP rfl ?_ | refine zQ ?_ | ((first | refine zR ?_ | refine zS ?_ | refine zT ?_ | skip); intro K k; simp (disch := (first | (simp only [yD2, beq_self_eq_true, Nat.reduceLT, Nat.reduceAdd]; done) | ((fail_if_success (apply Bool.eq_iff_iff.2)); first | omega | (simp only [yD2, beq_self_eq_true, Nat.reduceLT, Nat.reduceAdd] <;> omega)) | fail)) only [↓yS, yT, ↓reduceIte, Nat.reduceEqDiff, Nat.reduceAdd, Nat.reduceMul, reduceCtorEq, Int.reduceToNat, g4, hslc.len]; refine yC (k _ _ ?_); clear k K) | ((first | refine zU ?_ | refine zV ?_ | refine zW ?_); intro A B C D a b c d; simp only [↓yG, Nat.reduceEqDiff, ↓reduceIte, g4, hslc.len]; (first | refine zX (a ?_) | refine zY (b ?_) | refine zZ (fun hc => c ?_) (fun hc => d ?_)) <;> clear a b c d A B C D <;> try simp only [yL] at hc) | (refine yA ?_; intro A a; simp only [↓yG, Nat.reduceEqDiff, ↓reduceIte, g4, hslc.len]; refine yB (a ?_); clear a A) | (refine yD ?_; simp only [gresults, ↓yG, Nat.reduceEqDiff, ↓reduceIte, Option.bind_some, gld_1, gld_n, g4, hslc.len]; refine ⟨_, rfl, ?_⟩; simp only [gone]))
  refine GW_loop (fun k fr H2 => ∃ (j : Nat), k = cs.length - j ∧ j ≤ cs.length ∧ fr.get 0 = some (.string (strB b)) ∧ fr.get 1 = some (.string (strB t)) ∧ fr.get 2 = some (.string (strB a)) ∧ fr.get 7 = some (.string (strB (UPJ cs j))) ∧ fr.get 28 = some (cv) ∧ fr.get 29 = some (.int .i64 cs.length) ∧ fr.get 30 = some (.int .i64 j) ∧ H2 = H1) ?_ cs.length ?_
  rotate_left
  · refine ⟨0, by omega, by omega, ?_⟩
    have e0 : strB (UPJ cs 0) = ⟨#[]⟩ := rfl
    simp only [↓yG, Nat.reduceEqDiff, ↓reduceIte, Int.natCast_add, Int.cast_ofNat_Int, Int.natCast_zero, true_and, and_true, Option.some.injEq, Value.int.injEq, e0]
  rintro k fr H2 ⟨j, rfl, hj, f0, f1, f2, f7, f28, f29, f30, rfl⟩ J hJ
  by_cases hj1 : j < cs.length
  · have e1 := hrd j hj1
    have hm := hcm _ (bang_mem hj1)
    have hrl := rep_le hm
    have hsu := UPJ_succ hj1
    have huj := UPJ_len hcm j
    generalize cs[j]! = x at *
    obtain ⟨hu1, hu2, _, _⟩ := upp_char hm
    have hel := (encL_len hu1).1
    repeat' (first | (exfalso; omega) | refine zA ?_ | refine zB ?_ | refine zC ?_ | refine zD ?_ | refine zE ?_ | refine zF ?_ | refine zG ?_ | refine zH ?_ | refine zI ?_ | refine zJ ?_ | refine zK rfl ?_ | refine zL ?_ | refine zM ?_ | refine zN ?_ | refine zO ?_ | refine zP rfl ?_ | refine zQ ?_ | ((first | refine zR ?_ | refine zS ?_ | refine zT ?_ | skip); intro K k; simp (disch := (first | (simp only [yD2, beq_self_eq_true, Nat.reduceLT, Nat.reduceAdd]; done) | ((fail_if_success (apply Bool.eq_iff_iff.2)); first | omega | (simp only [yD2, beq_self_eq_true, Nat.reduceLT, Nat.reduceAdd] <;> omega)) | fail)) only [↓yS, yT, ↓reduceIte, Nat.reduceEqDiff, Nat.reduceAdd, Nat.reduceMul, reduceCtorEq, Int.reduceToNat, g4, f0, f1, f2, f7, f28, f29, f30, hslc.ia, e1]; refine yC (k _ _ ?_); clear k K) | ((first | refine zU ?_ | refine zV ?_ | refine zW ?_); intro A B C D a b c d; simp only [↓yG, Nat.reduceEqDiff, ↓reduceIte, g4, f0, f1, f2, f7, f28, f29, f30, hslc.ia, e1]; (first | refine zX (a ?_) | refine zY (b ?_) | refine zZ (fun hc => c ?_) (fun hc => d ?_)) <;> clear a b c d A B C D <;> try simp only [yL] at hc) | (refine yA ?_; intro A a; simp only [↓yG, Nat.reduceEqDiff, ↓reduceIte, g4, f0, f1, f2, f7, f28, f29, f30, hslc.ia, e1]; refine yB (a ?_); clear a A) | (refine yD ?_; simp only [gresults, ↓yG, Nat.reduceEqDiff, ↓reduceIte, Option.bind_some, gld_1, gld_n, g4, f0, f1, f2, f7, f28, f29, f30, hslc.ia, e1]; refine ⟨_, rfl, ?_⟩; simp only [gone]))
    refine Gw_s fun K' hK' => G1_call (by simp only [gtarget, ↓GArg.ev, ↓evs, ↓Tr.get_set, Nat.reduceEqDiff, if_true, if_false, ↓reduceIte, Option.map_some, f0, f1, f2, f7, f28, f29, f30]; rfl) (one_of (upper_ok (r := (x : Int)) (by omega) _)) fun r2 H3 hq => hK' _ _ ?_
    obtain ⟨rfl, rfl⟩ := hq
    rw [hu2]
    have hadd : ∀ e, gbin .add e (.string (strB (UPJ cs j))) (.string (Utf8.encode ((uppN x : Nat) : Int))) = some (.string (strB (UPJ cs (j + 1)))) := fun e => by
      rw [gb_addE (by omega), hsu]
    repeat' (first | (exfalso; omega) | refine zA ?_ | refine zB ?_ | refine zC ?_ | refine zD ?_ | refine zE ?_ | refine zF ?_ | refine zG ?_ | refine zH ?_ | refine zI ?_ | refine zJ ?_ | refine zK rfl ?_ | refine zL ?_ | refine zM ?_ | refine zN ?_ | refine zO ?_ | refine zP rfl ?_ | refine zQ ?_ | ((first | refine zR ?_ | refine zS ?_ | refine zT ?_ | skip); intro K k; simp (disch := (first | (simp only [yD2, beq_self_eq_true, Nat.reduceLT, Nat.reduceAdd]; done) | ((fail_if_success (apply Bool.eq_iff_iff.2)); first | omega | (simp only [yD2, beq_self_eq_true, Nat.reduceLT, Nat.reduceAdd] <;> omega)) | fail)) only [↓yS, yT, ↓reduceIte, Nat.reduceEqDiff, Nat.reduceAdd, Nat.reduceMul, reduceCtorEq, Int.reduceToNat, g4, f0, f1, f2, f7, f28, f29, f30, gcv_str, hadd]; refine yC (k _ _ ?_); clear k K) | ((first | refine zU ?_ | refine zV ?_ | refine zW ?_); intro A B C D a b c d; simp only [↓yG, Nat.reduceEqDiff, ↓reduceIte, g4, f0, f1, f2, f7, f28, f29, f30, gcv_str, hadd]; (first | refine zX (a ?_) | refine zY (b ?_) | refine zZ (fun hc => c ?_) (fun hc => d ?_)) <;> clear a b c d A B C D <;> try simp only [yL] at hc) | (refine yA ?_; intro A a; simp only [↓yG, Nat.reduceEqDiff, ↓reduceIte, g4, f0, f1, f2, f7, f28, f29, f30, gcv_str, hadd]; refine yB (a ?_); clear a A) | (refine yD ?_; simp only [gresults, ↓yG, Nat.reduceEqDiff, ↓reduceIte, Option.bind_some, gld_1, gld_n, g4, f0, f1, f2, f7, f28, f29, f30, gcv_str, hadd]; refine ⟨_, rfl, ?_⟩; simp only [gone]))
    refine hJ _ _ ⟨cs.length - (j + 1), by omega, j + 1, rfl, by omega, ?_⟩
    simp only [↓yG, Nat.reduceEqDiff, ↓reduceIte, Int.natCast_add, Int.cast_ofNat_Int, Int.natCast_zero, true_and, and_true, Option.some.injEq, Value.int.injEq, f0, f1, f2, f28, f29]
  · obtain rfl : j = cs.length := by omega
    have lb : (b ++ [32]).length = b.length + 1 := by simp
    have lbt : (b ++ [32] ++ t).length = b.length + 1 + t.length := by simp; omega
    have lbt2 : (b ++ [32] ++ t ++ [32]).length = b.length + 1 + t.length + 1 := by simp; omega
    have lx : (b ++ [32] ++ t ++ [32] ++ a).length = b.length + 1 + t.length + 1 + a.length := by simp; omega
    have a1 : ∀ e, gbin .add e (.string (strB b)) (.string ⟨#[32]⟩) = some (.string (strB (b ++ [32]))) := fun e => add_c (by rfl) (by simp only [List.length_cons, List.length_nil]; omega)
    have a2 : ∀ e, gbin .add e (.string (strB (b ++ [32]))) (.string (strB t)) = some (.string (strB (b ++ [32] ++ t))) := fun e => gb_addB (by omega)
    have a3 : ∀ e, gbin .add e (.string (strB (b ++ [32] ++ t))) (.string ⟨#[32]⟩) = some (.string (strB (b ++ [32] ++ t ++ [32]))) := fun e => add_c (by rfl) (by simp only [List.length_cons, List.length_nil] at lbt ⊢; omega)
    have a4 : ∀ e, gbin .add e (.string (strB (b ++ [32] ++ t ++ [32]))) (.string (strB a)) = some (.string (strB (b ++ [32] ++ t ++ [32] ++ a))) := fun e => gb_addB (by omega)
    generalize hX : b ++ [32] ++ t ++ [32] ++ a = X at *
    generalize hU : UPJ cs cs.length = U at *
    have mb : (b ++ [10]).length = b.length + 1 := by simp
    have mu : (b ++ [10] ++ U).length = b.length + 1 + U.length := by simp; omega
    have mu2 : (b ++ [10] ++ U ++ [46]).length = b.length + 1 + U.length + 1 := by simp; omega
    have my : (b ++ [10] ++ U ++ [46] ++ a).length = b.length + 1 + U.length + 1 + a.length := by simp; omega
    have c1 : ∀ e, gbin .add e (.string (strB b)) (.string ⟨#[10]⟩) = some (.string (strB (b ++ [10]))) := fun e => add_c (by rfl) (by simp only [List.length_cons, List.length_nil]; omega)
    have c2 : ∀ e, gbin .add e (.string (strB (b ++ [10]))) (.string (strB U)) = some (.string (strB (b ++ [10] ++ U))) := fun e => gb_addB (by omega)
    have c3 : ∀ e, gbin .add e (.string (strB (b ++ [10] ++ U))) (.string ⟨#[46]⟩) = some (.string (strB (b ++ [10] ++ U ++ [46]))) := fun e => add_c (by rfl) (by simp only [List.length_cons, List.length_nil] at mu ⊢; omega)
    have c4 : ∀ e, gbin .add e (.string (strB (b ++ [10] ++ U ++ [46]))) (.string (strB a)) = some (.string (strB (b ++ [10] ++ U ++ [46] ++ a))) := fun e => gb_addB (by omega)
    generalize hY : b ++ [10] ++ U ++ [46] ++ a = Y at *
    have x1 : ∀ e, gbin .add e (.string (strB t)) (.string ⟨#[120]⟩) = some (.string (strB (t ++ [120]))) := fun e => add_c (by rfl) (by simp only [List.length_cons, List.length_nil]; omega)
    have lx1 : (t ++ [120]).length = t.length + 1 := by simp
    generalize hZ : t ++ [120] = Z at *
    repeat' (first | (exfalso; omega) | refine zA ?_ | refine zB ?_ | refine zC ?_ | refine zD ?_ | refine zE ?_ | refine zF ?_ | refine zG ?_ | refine zH ?_ | refine zI ?_ | refine zJ ?_ | refine zK rfl ?_ | refine zL ?_ | refine zM ?_ | refine zN ?_ | refine zO ?_ | refine zP rfl ?_ | refine zQ ?_ | ((first | refine zR ?_ | refine zS ?_ | refine zT ?_ | skip); intro K k; simp (disch := (first | (simp only [yD2, beq_self_eq_true, Nat.reduceLT, Nat.reduceAdd]; done) | ((fail_if_success (apply Bool.eq_iff_iff.2)); first | omega | (simp only [yD2, beq_self_eq_true, Nat.reduceLT, Nat.reduceAdd] <;> omega)) | fail)) only [↓yS, yT, ↓reduceIte, Nat.reduceEqDiff, Nat.reduceAdd, Nat.reduceMul, reduceCtorEq, Int.reduceToNat, g4, f0, f1, f2, f7, f28, f29, f30, a1, a2, a3, a4]; refine yC (k _ _ ?_); clear k K) | ((first | refine zU ?_ | refine zV ?_ | refine zW ?_); intro A B C D a b c d; simp only [↓yG, Nat.reduceEqDiff, ↓reduceIte, g4, f0, f1, f2, f7, f28, f29, f30, a1, a2, a3, a4]; (first | refine zX (a ?_) | refine zY (b ?_) | refine zZ (fun hc => c ?_) (fun hc => d ?_)) <;> clear a b c d A B C D <;> try simp only [yL] at hc) | (refine yA ?_; intro A a; simp only [↓yG, Nat.reduceEqDiff, ↓reduceIte, g4, f0, f1, f2, f7, f28, f29, f30, a1, a2, a3, a4]; refine yB (a ?_); clear a A) | (refine yD ?_; simp only [gresults, ↓yG, Nat.reduceEqDiff, ↓reduceIte, Option.bind_some, gld_1, gld_n, g4, f0, f1, f2, f7, f28, f29, f30, a1, a2, a3, a4]; refine ⟨_, rfl, ?_⟩; simp only [gone]))
    refine Gw_s fun K' hK' => G1_call (by simp only [gtarget, ↓GArg.ev, ↓evs, ↓Tr.get_set, Nat.reduceEqDiff, if_true, if_false, ↓reduceIte, Option.map_some, f0, f1, f2, f7, f28, f29, f30]; rfl) (one_of (Contains_ok (x := X) (t := t) (by omega) (by omega) _)) fun r3 H3 hq => hK' _ _ ?_
    obtain ⟨rfl, rfl⟩ := hq
    rw [w1]
    repeat' (first | (exfalso; omega) | refine zA ?_ | refine zB ?_ | refine zC ?_ | refine zD ?_ | refine zE ?_ | refine zF ?_ | refine zG ?_ | refine zH ?_ | refine zI ?_ | refine zJ ?_ | refine zK rfl ?_ | refine zL ?_ | refine zM ?_ | refine zN ?_ | refine zO ?_ | refine zP rfl ?_ | refine zQ ?_ | ((first | refine zR ?_ | refine zS ?_ | refine zT ?_ | skip); intro K k; simp (disch := (first | (simp only [yD2, beq_self_eq_true, Nat.reduceLT, Nat.reduceAdd]; done) | ((fail_if_success (apply Bool.eq_iff_iff.2)); first | omega | (simp only [yD2, beq_self_eq_true, Nat.reduceLT, Nat.reduceAdd] <;> omega)) | fail)) only [↓yS, yT, ↓reduceIte, Nat.reduceEqDiff, Nat.reduceAdd, Nat.reduceMul, reduceCtorEq, Int.reduceToNat, g4, f0, f1, f2, f7, f28, f29, f30]; refine yC (k _ _ ?_); clear k K) | ((first | refine zU ?_ | refine zV ?_ | refine zW ?_); intro A B C D a b c d; simp only [↓yG, Nat.reduceEqDiff, ↓reduceIte, g4, f0, f1, f2, f7, f28, f29, f30]; (first | refine zX (a ?_) | refine zY (b ?_) | refine zZ (fun hc => c ?_) (fun hc => d ?_)) <;> clear a b c d A B C D <;> try simp only [yL] at hc) | (refine yA ?_; intro A a; simp only [↓yG, Nat.reduceEqDiff, ↓reduceIte, g4, f0, f1, f2, f7, f28, f29, f30]; refine yB (a ?_); clear a A) | (refine yD ?_; simp only [gresults, ↓yG, Nat.reduceEqDiff, ↓reduceIte, Option.bind_some, gld_1, gld_n, g4, f0, f1, f2, f7, f28, f29, f30]; refine ⟨_, rfl, ?_⟩; simp only [gone]))
    intro K' hK'; refine G1_call (by simp only [gtarget, ↓GArg.ev, ↓evs, ↓Tr.get_set, Nat.reduceEqDiff, if_true, if_false, ↓reduceIte, Option.map_some, f0, f1, f2, f7, f28, f29, f30]; rfl) (one_of (Contains_ok (x := X) (t := U) (by omega) (by omega) _)) fun r3 H3 hq => hK' _ _ ?_
    obtain ⟨rfl, rfl⟩ := hq
    rw [w2]
    repeat' (first | (exfalso; omega) | refine zA ?_ | refine zB ?_ | refine zC ?_ | refine zD ?_ | refine zE ?_ | refine zF ?_ | refine zG ?_ | refine zH ?_ | refine zI ?_ | refine zJ ?_ | refine zK rfl ?_ | refine zL ?_ | refine zM ?_ | refine zN ?_ | refine zO ?_ | refine zP rfl ?_ | refine zQ ?_ | ((first | refine zR ?_ | refine zS ?_ | refine zT ?_ | skip); intro K k; simp (disch := (first | (simp only [yD2, beq_self_eq_true, Nat.reduceLT, Nat.reduceAdd]; done) | ((fail_if_success (apply Bool.eq_iff_iff.2)); first | omega | (simp only [yD2, beq_self_eq_true, Nat.reduceLT, Nat.reduceAdd] <;> omega)) | fail)) only [↓yS, yT, ↓reduceIte, Nat.reduceEqDiff, Nat.reduceAdd, Nat.reduceMul, reduceCtorEq, Int.reduceToNat, g4, f0, f1, f2, f7, f28, f29, f30, c1, c2, c3, c4]; refine yC (k _ _ ?_); clear k K) | ((first | refine zU ?_ | refine zV ?_ | refine zW ?_); intro A B C D a b c d; simp only [↓yG, Nat.reduceEqDiff, ↓reduceIte, g4, f0, f1, f2, f7, f28, f29, f30, c1, c2, c3, c4]; (first | refine zX (a ?_) | refine zY (b ?_) | refine zZ (fun hc => c ?_) (fun hc => d ?_)) <;> clear a b c d A B C D <;> try simp only [yL] at hc) | (refine yA ?_; intro A a; simp only [↓yG, Nat.reduceEqDiff, ↓reduceIte, g4, f0, f1, f2, f7, f28, f29, f30, c1, c2, c3, c4]; refine yB (a ?_); clear a A) | (refine yD ?_; simp only [gresults, ↓yG, Nat.reduceEqDiff, ↓reduceIte, Option.bind_some, gld_1, gld_n, g4, f0, f1, f2, f7, f28, f29, f30, c1, c2, c3, c4]; refine ⟨_, rfl, ?_⟩; simp only [gone]))
    intro K' hK'; refine G1_call (by simp only [gtarget, ↓GArg.ev, ↓evs, ↓Tr.get_set, Nat.reduceEqDiff, if_true, if_false, ↓reduceIte, Option.map_some, f0, f1, f2, f7, f28, f29, f30]; rfl) (one_of (Contains_ok (x := Y) (t := t) (by omega) (by omega) _)) fun r3 H3 hq => hK' _ _ ?_
    obtain ⟨rfl, rfl⟩ := hq
    rw [w3]
    repeat' (first | (exfalso; omega) | refine zA ?_ | refine zB ?_ | refine zC ?_ | refine zD ?_ | refine zE ?_ | refine zF ?_ | refine zG ?_ | refine zH ?_ | refine zI ?_ | refine zJ ?_ | refine zK rfl ?_ | refine zL ?_ | refine zM ?_ | refine zN ?_ | refine zO ?_ | refine zP rfl ?_ | refine zQ ?_ | ((first | refine zR ?_ | refine zS ?_ | refine zT ?_ | skip); intro K k; simp (disch := (first | (simp only [yD2, beq_self_eq_true, Nat.reduceLT, Nat.reduceAdd]; done) | ((fail_if_success (apply Bool.eq_iff_iff.2)); first | omega | (simp only [yD2, beq_self_eq_true, Nat.reduceLT, Nat.reduceAdd] <;> omega)) | fail)) only [↓yS, yT, ↓reduceIte, Nat.reduceEqDiff, Nat.reduceAdd, Nat.reduceMul, reduceCtorEq, Int.reduceToNat, g4, f0, f1, f2, f7, f28, f29, f30, x1]; refine yC (k _ _ ?_); clear k K) | ((first | refine zU ?_ | refine zV ?_ | refine zW ?_); intro A B C D a b c d; simp only [↓yG, Nat.reduceEqDiff, ↓reduceIte, g4, f0, f1, f2, f7, f28, f29, f30, x1]; (first | refine zX (a ?_) | refine zY (b ?_) | refine zZ (fun hc => c ?_) (fun hc => d ?_)) <;> clear a b c d A B C D <;> try simp only [yL] at hc) | (refine yA ?_; intro A a; simp only [↓yG, Nat.reduceEqDiff, ↓reduceIte, g4, f0, f1, f2, f7, f28, f29, f30, x1]; refine yB (a ?_); clear a A) | (refine yD ?_; simp only [gresults, ↓yG, Nat.reduceEqDiff, ↓reduceIte, Option.bind_some, gld_1, gld_n, g4, f0, f1, f2, f7, f28, f29, f30, x1]; refine ⟨_, rfl, ?_⟩; simp only [gone]))
    intro K' hK'; refine G1_call (by simp only [gtarget, ↓GArg.ev, ↓evs, ↓Tr.get_set, Nat.reduceEqDiff, if_true, if_false, ↓reduceIte, Option.map_some, f0, f1, f2, f7, f28, f29, f30]; rfl) (one_of (Contains_ok (x := Z) (t := t) (by omega) (by omega) _)) fun r3 H3 hq => hK' _ _ ?_
    obtain ⟨rfl, rfl⟩ := hq
    rw [w4]
    repeat' (first | (exfalso; omega) | refine zA ?_ | refine zB ?_ | refine zC ?_ | refine zD ?_ | refine zE ?_ | refine zF ?_ | refine zG ?_ | refine zH ?_ | refine zI ?_ | refine zJ ?_ | refine zK rfl ?_ | refine zL ?_ | refine zM ?_ | refine zN ?_ | refine zO ?_ | refine zP rfl ?_ | refine zQ ?_ | ((first | refine zR ?_ | refine zS ?_ | refine zT ?_ | skip); intro K k; simp (disch := (first | (simp only [yD2, beq_self_eq_true, Nat.reduceLT, Nat.reduceAdd]; done) | ((fail_if_success (apply Bool.eq_iff_iff.2)); first | omega | (simp only [yD2, beq_self_eq_true, Nat.reduceLT, Nat.reduceAdd] <;> omega)) | fail)) only [↓yS, yT, ↓reduceIte, Nat.reduceEqDiff, Nat.reduceAdd, Nat.reduceMul, reduceCtorEq, Int.reduceToNat, g4, f0, f1, f2, f7, f28, f29, f30]; refine yC (k _ _ ?_); clear k K) | ((first | refine zU ?_ | refine zV ?_ | refine zW ?_); intro A B C D a b c d; simp only [↓yG, Nat.reduceEqDiff, ↓reduceIte, g4, f0, f1, f2, f7, f28, f29, f30]; (first | refine zX (a ?_) | refine zY (b ?_) | refine zZ (fun hc => c ?_) (fun hc => d ?_)) <;> clear a b c d A B C D <;> try simp only [yL] at hc) | (refine yA ?_; intro A a; simp only [↓yG, Nat.reduceEqDiff, ↓reduceIte, g4, f0, f1, f2, f7, f28, f29, f30]; refine yB (a ?_); clear a A) | (refine yD ?_; simp only [gresults, ↓yG, Nat.reduceEqDiff, ↓reduceIte, Option.bind_some, gld_1, gld_n, g4, f0, f1, f2, f7, f28, f29, f30]; refine ⟨_, rfl, ?_⟩; simp only [gone]))
    have hwT := ((Same.refl hw1).add (.cells (tmC ⟨t, .slice none 0 0, []⟩) 2 true)).wf
    have hT : TR (H3.add (some (.cells (tmC ⟨t, .slice none 0 0, []⟩) 2 true))) (.slice (some ⟨H3.len, 0, none⟩) 1 2) [⟨t, .slice none 0 0, []⟩] :=
      ⟨OwnG.arg hwT (u := 2) ⟨rfl, .inr ⟨H3.len, 2, rfl, .inr rfl, mine_add_eq rfl hw1.1⟩⟩ (.inr rfl), fun x hx => by
        rw [List.mem_singleton] at hx; subst hx; exact RB.nil, by simp, fun x hx => by
        rw [List.mem_singleton] at hx; subst hx; exact ⟨by simp only; omega, by simp, by simp⟩⟩
    have hfi : findF [⟨t, .slice none 0 0, []⟩] X [(⟨t, .slice none 0 0, []⟩ : Tm)].length = [0] := by
      have : conB X ([(⟨t, .slice none 0 0, []⟩ : Tm)][0]!).s = true := w1
      unfold findF
      rw [show List.range [(⟨t, .slice none 0 0, []⟩ : Tm)].length = [0] from rfl, List.filter_cons, if_pos this]; rfl
    intro K' hK'; refine G1_call (by simp only [gtarget, ↓GArg.ev, ↓evs, ↓Tr.get_set, Nat.reduceEqDiff, if_true, if_false, ↓reduceIte, Option.map_some, f0, f1, f2, f7, f28, f29, f30]; rfl) (Find_ok hwT hT (x := X) (by omega)) fun fv H5 hF => hK' _ _ ?_
    rw [hfi] at hF
    have hslF := hF.rd.isSl
    repeat' (first | (exfalso; omega) | refine zA ?_ | refine zB ?_ | refine zC ?_ | refine zD ?_ | refine zE ?_ | refine zF ?_ | refine zG ?_ | refine zH ?_ | refine zI ?_ | refine zJ ?_ | refine zK rfl ?_ | refine zL ?_ | refine zM ?_ | refine zN ?_ | refine zO ?_ | refine zP rfl ?_ | refine zQ ?_ | ((first | refine zR ?_ | refine zS ?_ | refine zT ?_ | skip); intro K k; simp (disch := (first | (simp only [yD2, beq_self_eq_true, Nat.reduceLT, Nat.reduceAdd]; done) | ((fail_if_success (apply Bool.eq_iff_iff.2)); first | omega | (simp only [yD2, beq_self_eq_true, Nat.reduceLT, Nat.reduceAdd] <;> omega)) | fail)) only [↓yS, yT, ↓reduceIte, Nat.reduceEqDiff, Nat.reduceAdd, Nat.reduceMul, reduceCtorEq, Int.reduceToNat, g4, f0, f1, f2, f7, f28, f29, f30, hslF.len]; refine yC (k _ _ ?_); clear k K) | ((first | refine zU ?_ | refine zV ?_ | refine zW ?_); intro A B C D a b c d; simp only [↓yG, Nat.reduceEqDiff, ↓reduceIte, g4, f0, f1, f2, f7, f28, f29, f30, hslF.len]; (first | refine zX (a ?_) | refine zY (b ?_) | refine zZ (fun hc => c ?_) (fun hc => d ?_)) <;> clear a b c d A B C D <;> try simp only [yL] at hc) | (refine yA ?_; intro A a; simp only [↓yG, Nat.reduceEqDiff, ↓reduceIte, g4, f0, f1, f2, f7, f28, f29, f30, hslF.len]; refine yB (a ?_); clear a A) | (refine yD ?_; simp only [gresults, ↓yG, Nat.reduceEqDiff, ↓reduceIte, Option.bind_some, gld_1, gld_n, g4, f0, f1, f2, f7, f28, f29, f30, hslF.len]; refine ⟨_, rfl, ?_⟩; simp only [gone]))
    exact hP _
/-! ### arguments that came in -/
theorem str_of {Q : Nat → Prop} {H : GHeap} {r : List Value} (h : RdSQ Q H .str r) : ∃ b : List UInt8, r = [.string (strB b)] ∧ Q b.length := by
  simp only [RdSQ] at h
  obtain ⟨s, rfl, _, h⟩ := h
  refine ⟨s.data.toList, by rw [strB_of], ?_⟩
  have : s.data.toList.length = s.size := rfl
  rw [this]; exact h
theorem strA_of {Q : Nat → Prop} {H : GHeap} {v : Value} (h : RdAQ Q H .str v) : ∃ b : List UInt8, v = .string (strB b) ∧ Q b.length := by
  obtain ⟨b, e, h⟩ := str_of (by simpa only [RdAQ] using h)
  exact ⟨b, by simpa using e, h⟩
theorem strs_flat (l : List (List UInt8)) : l.flatMap (fun b => [Value.string (strB b)]) = strs l := by
  unfold strs
  induction l with
  | nil => rfl
  | cons b l ih => rw [List.flatMap_cons, ih]; rfl
theorem strs_of {Q : Nat → Prop} {H : GHeap} {v : Value} (h : RdAQ Q H (.sl .str) v) : ∃ g : List (List UInt8), SRd H v g ∧ Q g.length ∧ ∀ t ∈ g, Q t.length := by
  obtain ⟨l, k1, k2, k3⟩ := h.slQ_ (f := fun b => [Value.string (strB b)]) fun r hr => by
    obtain ⟨b, e, _⟩ := str_of hr; exact ⟨b, e⟩
  refine ⟨l, ?_, k2.2.2, fun t ht => ?_⟩
  · rw [strs_flat] at k1; exact k1
  · obtain ⟨b, e, hb⟩ := str_of (k3 t ht)
    simp only [List.cons.injEq, Value.string.injEq, and_true] at e
    have : t = b := congrArg (fun s : ByteArray => s.data.toList) e
    rw [this]; exact hb
abbrev termShp : Shp := .st [.str, .sl .str]
theorem terms_of {H : GHeap} {gv : Value} (h : RdAQ (fun m => m ≤ 1048576) H (.sl termShp) gv) : ∃ l : List Tm, TR H gv l ∧ l.length ≤ 1048576 ∧ ∀ x ∈ l, x.s.length ≤ 1048576 ∧ x.g.length ≤ 1048576 ∧ ∀ t ∈ x.g, t.length ≤ 1048576 := by
  have key : ∀ r, RdSQ (fun m => m ≤ 1048576) H termShp r → ∃ (s : List UInt8) (v : Value) (g : List (List UInt8)), r = [.string (strB s), v] ∧ SRd H v g ∧ s.length ≤ 1048576 ∧ g.length ≤ 1048576 ∧ ∀ t ∈ g, t.length ≤ 1048576 := by
    intro r hr
    simp only [termShp, RdSQ, RdSsQ] at hr
    obtain ⟨a, b, rfl, ⟨s, rfl, _, hs⟩, c, d, rfl, hc, rfl⟩ := hr
    obtain ⟨v, rows, rfl, h1, h2, h3⟩ := hc
    obtain ⟨g, k1, k2, k3⟩ := strs_of (Q := fun m => m ≤ 1048576) (H := H) (v := v) (by
      simp only [RdAQ, RdSQ]
      exact ⟨v, rows, rfl, h1, h2, h3⟩)
    refine ⟨s.data.toList, v, g, by rw [strB_of]; rfl, k1, hs, k2, k3⟩
  obtain ⟨l, k1, k2, k3⟩ := h.slQ_ (f := fun (x : List UInt8 × Value) => [Value.string (strB x.1), x.2]) fun r hr => by
    obtain ⟨s, v, g, e, _⟩ := key r hr; exact ⟨(s, v), e⟩
  have h2 : ∀ l : List (List UInt8 × Value), (∀ x ∈ l, RdSQ (fun m => m ≤ 1048576) H termShp [Value.string (strB x.1), x.2]) → ∃ L : List Tm, L.length = l.length ∧ l.flatMap (fun (x : List UInt8 × Value) => [Value.string (strB x.1), x.2]) = TmC L ∧ ∀ x ∈ L, SRd H x.v x.g ∧ x.s.length ≤ 1048576 ∧ x.g.length ≤ 1048576 ∧ ∀ t ∈ x.g, t.length ≤ 1048576 := by
    intro l
    induction l with
    | nil => intro _; exact ⟨[], rfl, rfl, by simp⟩
    | cons y l ih =>
      intro hl
      obtain ⟨L, e1, e2, e3⟩ := ih fun x hx => hl x (by simp [hx])
      obtain ⟨s, v, g, e, h4⟩ := key _ (hl y (by simp))
      simp only [List.cons.injEq, Value.string.injEq, and_true] at e
      have es : y.1 = s := congrArg (fun s : ByteArray => s.data.toList) e.1
      refine ⟨⟨y.1, y.2, g⟩ :: L, by simp [e1], ?_, fun x hx => ?_⟩
      · rw [List.flatMap_cons, e2]; rfl
      · rcases List.mem_cons.1 hx with rfl | hx
        · rw [e.2]; simp only; rw [es]; exact h4
        · exact e3 x hx
  obtain ⟨L, e1, e2, e3⟩ := h2 l k3
  have k22 : l.length ≤ 1048576 := k2.2.2
  refine ⟨L, ⟨?_, fun x hx => (e3 x hx).1, by omega, fun x hx => ?_⟩, by omega, fun x hx => (e3 x hx).2⟩
  · rw [e2, ← e1] at k1; exact k1
  · have := (e3 x hx).2
    exact ⟨by omega, by omega, fun t ht => by have := this.2.2 t ht; omega⟩
theorem judges_law {H : GHeap} (hw : H.wf) {gvs : List Value} (h : RdAsQ (fun m => m ≤ 1048576) H [.sl termShp, .str, .str] gvs) : ∃ v H2, gev G 3 gvs H = some (v, H2) ∧ v = .bool true := by
  obtain ⟨v, _, rfl, h1, w, _, rfl, h2, u, _, rfl, h3, rfl⟩ := h
  obtain ⟨l, hl, _, _⟩ := terms_of h1
  obtain ⟨x, rfl, hx⟩ := strA_of h2
  obtain ⟨y, rfl, hy⟩ := strA_of h3
  exact judges_ok hw hl (by omega) (by omega)
theorem words_law {H : GHeap} (hw : H.wf) {gvs : List Value} (h : RdAsQ (fun m => m ≤ 1048576) H [.str, .str, .str] gvs) : ∃ v H2, gev G 4 gvs H = some (v, H2) ∧ v = .bool true := by
  obtain ⟨v, _, rfl, h1, w, _, rfl, h2, u, _, rfl, h3, rfl⟩ := h
  obtain ⟨b, rfl, hb⟩ := strA_of h1
  obtain ⟨t, rfl, ht⟩ := strA_of h2
  obtain ⟨a, rfl, ha⟩ := strA_of h3
  exact words_ok hw hb ht ha
end Go.Gh
