/-
  lines' reference, walked: the lines of a text and its diagnostics.
-/
import Derived.Test.YtfldcmeecpgpeaaDoorGlW8
import Derived.Test.YtfldcmeecpgpeaaDoorGlWC
namespace Go.Gh
set_option linter.unusedSimpArgs false
set_option linter.unusedVariables false
open Go.RowKit Go.Lib
set_option maxRecDepth 4000
theorem DgR.pre {H : GHeap} (hw : H.wf) {v : Value} {D : List Dg} (h : GArg1 H 3 v D.length (DgC D)) {b : Nat} (hb : b ≤ D.length) :
    ∃ v', (∀ H', Same H H' → gslice (.sl 3) H' v none (some (.int .i64 (b : Int))) none = some v') ∧ GArg1 H 3 v' (D.take b).length (DgC (D.take b)) := by
  obtain ⟨v', e, h1⟩ := h.preI hw hb
  refine ⟨v', e, ?_⟩
  rw [DgC_take] at h1
  rw [List.length_take, Nat.min_eq_left hb]; exact h1
theorem nil_slice {H : GHeap} : gslice (.sl 3) H (.slice none 0 0) none (some (.int .i64 0)) none = some (.slice none 0 0) := by
  simp [gslice, gbounds]
set_option maxHeartbeats 2000000 in
theorem rSplit_ok {H : GHeap} (hw : H.wf) {src : List UInt8} (hl : src.length ≤ 140737488355328) : ∃ r H', gev G 42 [.string (strB src)] H = some (r, H') ∧ SpOut H H' r src := by
  refine gev_GW (f := 42) rfl fun Post hPost => ?_
  have hls := strB_size src
  have hlim := hw.1
  have hS0 := Same.refl hw
  simp only [frameOf, Nat.reduceAdd]
  by_cases h262 : 262144 < src.length
  · repeat' (first | (exfalso; omega) | refine zn ?_ | refine zK rfl ?_ | refine zP rfl ?_ | ((first | refine zm ?_ | skip); intro _; intros; simp (disch := first | exact zd | fail) only [↓yS, yT, ↓reduceIte, Nat.reduceEqDiff, Nat.reduceAdd, Nat.reduceMul, reduceCtorEq, Int.reduceToNat, g42, hls]; first | (rename_i K k; refine yC (k _ _ ?_); clear k K) | (rename_i A B C D a b c d; (first | refine zX (a ?_) | refine zY (b ?_) | refine zZ (fun hc => c ?_) (fun hc => d ?_)) <;> clear a b c d A B C D <;> try simp only [yL] at hc)) | (refine yA ?_; intro A a; simp only [↓yG, Nat.reduceEqDiff, ↓reduceIte, g42, hls]; refine yB (a ?_); clear a A) | (refine yD ?_; simp only [gresults, ↓yG, Nat.reduceEqDiff, ↓reduceIte, Option.bind_some, gld_1, gld_n, g42, hls]; refine ⟨_, rfl, ?_⟩; simp only [gone]) | refine zA ?_ | refine zB ?_ | refine zF ?_)
    have hO := OS.made' (s := 3) (u := 3) (n := 1) (cs := [.int .i64 1, .int .i64 1, .int .i64 9]) hS0 rfl
    exact hPost _ _ ⟨_, _, [], rfl, LOut.nil hO.same, by rw [(splD_big h262).2]; rfl, by rw [(splD_big h262).1]; exact hO.arg, fun e => by rw [(splD_big h262).1] at e; cases e⟩
  have hl : src.length ≤ 16777216 := by omega
  have hD : splD src = (dgF (lns src) (lns src).length).take 50 := if_neg h262
  have hL : splO src = outF (lns src) (lns src).length := if_neg h262
  obtain ⟨hlen, hlin⟩ := lns_len src
  have hI0 : SrI src (lns src) 0 0 0 := ⟨.inl ⟨by omega, by omega, rfl, by simp⟩⟩
  generalize lns src = M at *
  repeat' (first | (exfalso; omega) | refine zn ?_ | refine zK rfl ?_ | refine zP rfl ?_ | ((first | refine zm ?_ | skip); intro _; intros; simp (disch := first | exact zd | fail) only [↓yS, yT, ↓reduceIte, Nat.reduceEqDiff, Nat.reduceAdd, Nat.reduceMul, reduceCtorEq, Int.reduceToNat, g42, hls]; first | (rename_i K k; refine yC (k _ _ ?_); clear k K) | (rename_i A B C D a b c d; (first | refine zX (a ?_) | refine zY (b ?_) | refine zZ (fun hc => c ?_) (fun hc => d ?_)) <;> clear a b c d A B C D <;> try simp only [yL] at hc)) | (refine yA ?_; intro A a; simp only [↓yG, Nat.reduceEqDiff, ↓reduceIte, g42, hls]; refine yB (a ?_); clear a A) | (refine yD ?_; simp only [gresults, ↓yG, Nat.reduceEqDiff, ↓reduceIte, Option.bind_some, gld_1, gld_n, g42, hls]; refine ⟨_, rfl, ?_⟩; simp only [gone]) | refine zA ?_ | refine zB ?_ | refine zF ?_)
  refine GW_loop (fun k fr H2 => ∃ (i s j : Nat) (ov dv : Value) (L : List LV), k = src.length + 1 - i ∧ i ≤ src.length + 1 ∧ s ≤ src.length + 1 ∧ j ≤ M.length ∧ fr.get 0 = some (.string (strB src)) ∧ fr.get 4 = some (ov) ∧ fr.get 5 = some (dv) ∧ fr.get 6 = some (.int .i64 ((j : Int) + 1)) ∧ fr.get 7 = some (.int .i64 s) ∧ fr.get 8 = some (.int .i64 i) ∧ SpI H H2 ov dv L (outF M j) (dgF M j) ∧ SrI src M i s j) ?_ (src.length + 1) ?_
  rotate_left
  · refine ⟨0, 0, 0, .slice none 0 0, .slice none 0 0, [], by omega, by omega, by omega, by omega, ?_⟩
    simp only [↓yG, Nat.reduceEqDiff, ↓reduceIte, Int.natCast_add, Int.cast_ofNat_Int, Int.natCast_zero, true_and, and_true, Option.some.injEq, Value.int.injEq]
    first | exact ⟨⟨LOut.nil hS0, rfl, OS.nil hS0, fun _ => rfl⟩, hI0⟩ | exact ⟨by omega, ⟨LOut.nil hS0, rfl, OS.nil hS0, fun _ => rfl⟩, hI0⟩
  rintro k fr H2 ⟨i, s, j, ov, dv, L, rfl, hi, hs, hj, f0, f4, f5, f6, f7, f8, hI, hR⟩ J hJ
  have hS2 := hI.dg.same
  have hw2 := hS2.wf
  have hlim2 := hw2.1
  obtain ⟨hLs, hDs⟩ := hI.small
  have hslD := hI.dg.rd.isSl
  by_cases hend : i = src.length + 1
  · subst hend
    have hjM : j = M.length := by
      rcases hR.at_ with ⟨h, _⟩ | ⟨_, h⟩
      · omega
      · exact h
    subst hjM
    have hle50 : min (dgF M M.length).length 50 ≤ (dgF M M.length).length := Nat.min_le_left _ _
    obtain ⟨v', hv', hg'⟩ := DgR.pre hw2 hI.dg.arg hle50
    have hv2 := hv' _ (Same.refl hw2)
    have htk : (dgF M M.length).take (min (dgF M M.length).length 50) = (dgF M M.length).take 50 := by
      rcases Nat.le_total (dgF M M.length).length 50 with h | h
      · rw [Nat.min_eq_left h, List.take_of_length_le (Nat.le_refl _), List.take_of_length_le h]
      · rw [Nat.min_eq_right h]
    rw [htk] at hg'
    have hmin : ((min (dgF M M.length).length 50 : Nat) : Int) = min ((dgF M M.length).length : Int) 50 := by omega
    rw [hmin] at hv2
    have hnil : (dgF M M.length).take 50 = [] → v' = .slice none 0 0 := fun e => by
      have h0 : dgF M M.length = [] := by
        cases h : dgF M M.length with
        | nil => rfl
        | cons x l => rw [h] at e; simp at e
      rw [h0] at hv2
      have := hI.nil h0
      subst this
      simp only [List.length_nil] at hv2
      have h5 : min ((0 : Nat) : Int) 50 = 0 := by omega
      rw [h5, nil_slice] at hv2
      exact (Option.some.inj hv2).symm
    repeat' (first | (exfalso; omega) | refine zn ?_ | refine zK rfl ?_ | refine zP rfl ?_ | ((first | refine zm ?_ | skip); intro _; intros; simp (disch := first | exact zd | fail) only [↓yS, yT, ↓reduceIte, Nat.reduceEqDiff, Nat.reduceAdd, Nat.reduceMul, reduceCtorEq, Int.reduceToNat, g42, f0, f4, f5, f6, f7, f8, hls, hslD.len, hv2]; first | (rename_i K k; refine yC (k _ _ ?_); clear k K) | (rename_i A B C D a b c d; (first | refine zX (a ?_) | refine zY (b ?_) | refine zZ (fun hc => c ?_) (fun hc => d ?_)) <;> clear a b c d A B C D <;> try simp only [yL] at hc)) | (refine yA ?_; intro A a; simp only [↓yG, Nat.reduceEqDiff, ↓reduceIte, g42, f0, f4, f5, f6, f7, f8, hls, hslD.len, hv2]; refine yB (a ?_); clear a A) | (refine yD ?_; simp only [gresults, ↓yG, Nat.reduceEqDiff, ↓reduceIte, Option.bind_some, gld_1, gld_n, g42, f0, f4, f5, f6, f7, f8, hls, hslD.len, hv2]; refine ⟨_, rfl, ?_⟩; simp only [gone]) | refine zA ?_ | refine zB ?_ | refine zF ?_)
    exact hPost _ _ ⟨ov, v', L, rfl, hI.out, by rw [hL]; exact hI.map, by rw [hD]; exact hg', by rw [hD]; exact hnil⟩
  have hcase : (i < src.length ∧ ¬ src[i]! = 10) ∨ (j < M.length ∧ s ≤ i ∧ M[j]! = (src.take i).drop s ∧ SrI src M (i + 1) (i + 1) (j + 1) ∧ ((i < src.length ∧ src[i]! = 10) ∨ i = src.length)) := by
    have hsi : s ≤ i := by
      rcases hR.at_ with ⟨_, h, _⟩ | ⟨h, _⟩
      · exact h
      · omega
    by_cases hil : i < src.length
    · by_cases hb : src[i]! = 10
      · obtain ⟨h1, h2, h3⟩ := hR.hit hil hb
        exact .inr ⟨h1, hsi, h2, h3, .inl ⟨hil, hb⟩⟩
      · exact .inl ⟨hil, hb⟩
    · obtain rfl : i = src.length := by omega
      obtain ⟨h1, h2, h3⟩ := hR.last
      exact .inr ⟨h1, hsi, by rw [List.take_length]; exact h2, h3, .inr rfl⟩
  rcases hcase with ⟨hil, hb⟩ | ⟨hjM, hsi, hMj, hR2, hstop⟩
  · have hR2 := hR.next hil hb
    have ej := fun k => strB_at (k := k) hil
    have b10' := eq_false hb
    repeat' (first | (exfalso; omega) | refine zn ?_ | refine zK rfl ?_ | refine zP rfl ?_ | ((first | refine zm ?_ | skip); intro _; intros; simp (disch := first | exact zd | fail) only [↓yS, yT, ↓reduceIte, Nat.reduceEqDiff, Nat.reduceAdd, Nat.reduceMul, reduceCtorEq, Int.reduceToNat, g42, f0, f4, f5, f6, f7, f8, hls, ej, by10, b10', not_false_eq_true, decide_true]; first | (rename_i K k; refine yC (k _ _ ?_); clear k K) | (rename_i A B C D a b c d; (first | refine zX (a ?_) | refine zY (b ?_) | refine zZ (fun hc => c ?_) (fun hc => d ?_)) <;> clear a b c d A B C D <;> try simp only [yL] at hc)) | (refine yA ?_; intro A a; simp only [↓yG, Nat.reduceEqDiff, ↓reduceIte, g42, f0, f4, f5, f6, f7, f8, hls, ej, by10, b10', not_false_eq_true, decide_true]; refine yB (a ?_); clear a A) | (refine yD ?_; simp only [gresults, ↓yG, Nat.reduceEqDiff, ↓reduceIte, Option.bind_some, gld_1, gld_n, g42, f0, f4, f5, f6, f7, f8, hls, ej, by10, b10', not_false_eq_true, decide_true]; refine ⟨_, rfl, ?_⟩; simp only [gone]) | refine zA ?_ | refine zB ?_ | refine zF ?_)
    refine hJ _ _ ⟨src.length + 1 - (i + 1), by omega, i + 1, s, j, ov, dv, L, rfl, by omega, by omega, by omega, ?_⟩
    simp only [↓yG, Nat.reduceEqDiff, ↓reduceIte, Int.natCast_add, Int.cast_ofNat_Int, Int.natCast_zero, true_and, and_true, Option.some.injEq, Value.int.injEq, f0, f4, f5, f6, f7]
    exact ⟨hI, hR2⟩
  have hmid : ∀ H k k', gslice .str H (.string (strB src)) (some (.int k (s : Int))) (some (.int k' (i : Int))) none = some (.string (strB M[j]!)) := fun H k k' => by
    have h1 := sl_mid (H := H) (l := src) (k := k) (k' := k') (a := s) (b := i) (by omega) (by omega) (by omega)
    rw [h1, Int.toNat_natCast, Int.toNat_natCast, hMj]
  have hsl := hlin _ (bang_mem hjM)
  have hoS := outF_succ M j
  have hdS := dgF_succ M j
  have hgo : ∀ (ov' dv' : Value) (L' : List LV) fr H3, fr.get 0 = some (.string (strB src)) → fr.get 4 = some ov' → fr.get 5 = some dv' → fr.get 6 = some (.int .i64 ((j : Int) + 1 + 1)) → fr.get 7 = some (.int .i64 ((i : Int) + 1)) → fr.get 8 = some (.int .i64 ((i : Int) + 1)) → SpI H H3 ov' dv' L' (outF M (j + 1)) (dgF M (j + 1)) → J fr H3 := fun ov' dv' L' fr H3 a1 a2 a3 a4 a5 a6 a7 =>
    hJ _ _ ⟨src.length + 1 - (i + 1), by omega, i + 1, i + 1, j + 1, ov', dv', L', rfl, by omega, by omega, by omega, a1, a2, a3, by rw [a4]; rfl, by rw [a5]; rfl, by rw [a6]; rfl, a7, hR2⟩
  clear hJ
  generalize M[j]! = ln at *
  have hlsS := strB_size ln
  have hb10 : i < src.length → ∀ k, gix none (.string (strB src)) (.int k (i : Int)) = some (.int .u8 ((10 : UInt8).toNat : Nat)) := fun h k => by
    rcases hstop with ⟨h1, h2⟩ | h1
    · rw [strB_at h1, h2]
    · omega
  have t10 : ((((10 : UInt8).toNat : Nat) : Int) = 10) = True := eq_true rfl
  by_cases hlong : 1000 < ln.length
  · have hlr := lineR_long hlong
    rw [hlr] at hoS hdS
    simp only [List.append_nil] at hoS
    have key : ∀ v2 H4, SpI H H4 ov v2 L (outF M j) (dgF M j ++ [⟨j + 1, 1001, 9⟩]) → SpI H H4 ov v2 L (outF M (j + 1)) (dgF M (j + 1)) := fun v2 H4 h => by rw [hdS, hoS]; exact h
    rcases hstop with ⟨hil, hb⟩ | hil
    all_goals
      first | (have hb2 := hb10 hil) | (have hb2 : True := trivial)
      repeat' (first | (exfalso; omega) | refine zn ?_ | refine zK rfl ?_ | refine zP rfl ?_ | ((first | refine zm ?_ | skip); intro _; intros; simp (disch := first | exact zd | fail) only [↓yS, yT, ↓reduceIte, Nat.reduceEqDiff, Nat.reduceAdd, Nat.reduceMul, reduceCtorEq, Int.reduceToNat, g42, f0, f4, f5, f6, f7, f8, hls, hb2, t10, not_true_eq_false, decide_false, hmid, hlsS]; first | (rename_i K k; refine yC (k _ _ ?_); clear k K) | (rename_i A B C D a b c d; (first | refine zX (a ?_) | refine zY (b ?_) | refine zZ (fun hc => c ?_) (fun hc => d ?_)) <;> clear a b c d A B C D <;> try simp only [yL] at hc)) | (refine yA ?_; intro A a; simp only [↓yG, Nat.reduceEqDiff, ↓reduceIte, g42, f0, f4, f5, f6, f7, f8, hls, hb2, t10, not_true_eq_false, decide_false, hmid, hlsS]; refine yB (a ?_); clear a A) | (refine yD ?_; simp only [gresults, ↓yG, Nat.reduceEqDiff, ↓reduceIte, Option.bind_some, gld_1, gld_n, g42, f0, f4, f5, f6, f7, f8, hls, hb2, t10, not_true_eq_false, decide_false, hmid, hlsS]; refine ⟨_, rfl, ?_⟩; simp only [gone]) | refine zA ?_ | refine zB ?_ | refine zF ?_)
      rw [dg_cells (a := j + 1) (b := 1001) (c := 9) (A := (j : Int) + 1) (B := 1001) (C := 9) (by omega) (by omega) (by omega)]
      refine Gw_s fun K' hK' => ?_
      simp (disch := first | exact zd | fail) only [↓yS, yT, ↓reduceIte, Nat.reduceEqDiff, Nat.reduceAdd, Nat.reduceMul, reduceCtorEq, Int.reduceToNat, f0, f4, f5, f6, f7, f8]
      obtain ⟨v2, H4, e, hI4⟩ := hI.addD ⟨j + 1, 1001, 9⟩ (by omega)
      refine G1_eq e (hK' _ _ ?_)
      clear hK' K' e
      repeat' (first | (exfalso; omega) | refine zn ?_ | refine zK rfl ?_ | refine zP rfl ?_ | ((first | refine zm ?_ | skip); intro _; intros; simp (disch := first | exact zd | fail) only [↓yS, yT, ↓reduceIte, Nat.reduceEqDiff, Nat.reduceAdd, Nat.reduceMul, reduceCtorEq, Int.reduceToNat, g42, f0, f4, f5, f6, f7, f8]; first | (rename_i K k; refine yC (k _ _ ?_); clear k K) | (rename_i A B C D a b c d; (first | refine zX (a ?_) | refine zY (b ?_) | refine zZ (fun hc => c ?_) (fun hc => d ?_)) <;> clear a b c d A B C D <;> try simp only [yL] at hc)) | (refine yA ?_; intro A a; simp only [↓yG, Nat.reduceEqDiff, ↓reduceIte, g42, f0, f4, f5, f6, f7, f8]; refine yB (a ?_); clear a A) | (refine yD ?_; simp only [gresults, ↓yG, Nat.reduceEqDiff, ↓reduceIte, Option.bind_some, gld_1, gld_n, g42, f0, f4, f5, f6, f7, f8]; refine ⟨_, rfl, ?_⟩; simp only [gone]) | refine zA ?_ | refine zB ?_ | refine zF ?_)
      refine hgo ov v2 L _ _ ?_ ?_ ?_ ?_ ?_ ?_ (key _ _ hI4)
      all_goals first
        | (simp only [↓yG, Nat.reduceEqDiff, ↓reduceIte, Int.natCast_add, Int.cast_ofNat_Int, Int.natCast_zero, true_and, and_true, Option.some.injEq, Value.int.injEq, f0, f4, f5, f6, f7, f8]; done)
        | (simp only [↓yG, Nat.reduceEqDiff, ↓reduceIte, Int.natCast_add, Int.cast_ofNat_Int, Int.natCast_zero, true_and, and_true, Option.some.injEq, Value.int.injEq, f0, f4, f5, f6, f7, f8]; first | rfl | omega)
  rcases hstop with ⟨hil, hb⟩ | hil
  all_goals
    first | (have hb2 := hb10 hil) | (have hb2 : True := trivial)
    repeat' (first | (exfalso; omega) | refine zn ?_ | refine zK rfl ?_ | refine zP rfl ?_ | ((first | refine zm ?_ | skip); intro _; intros; simp (disch := first | exact zd | fail) only [↓yS, yT, ↓reduceIte, Nat.reduceEqDiff, Nat.reduceAdd, Nat.reduceMul, reduceCtorEq, Int.reduceToNat, g42, f0, f4, f5, f6, f7, f8, hls, hb2, t10, not_true_eq_false, decide_false, hmid, hlsS]; first | (rename_i K k; refine yC (k _ _ ?_); clear k K) | (rename_i A B C D a b c d; (first | refine zX (a ?_) | refine zY (b ?_) | refine zZ (fun hc => c ?_) (fun hc => d ?_)) <;> clear a b c d A B C D <;> try simp only [yL] at hc)) | (refine yA ?_; intro A a; simp only [↓yG, Nat.reduceEqDiff, ↓reduceIte, g42, f0, f4, f5, f6, f7, f8, hls, hb2, t10, not_true_eq_false, decide_false, hmid, hlsS]; refine yB (a ?_); clear a A) | (refine yD ?_; simp only [gresults, ↓yG, Nat.reduceEqDiff, ↓reduceIte, Option.bind_some, gld_1, gld_n, g42, f0, f4, f5, f6, f7, f8, hls, hb2, t10, not_true_eq_false, decide_false, hmid, hlsS]; refine ⟨_, rfl, ?_⟩; simp only [gone]) | refine zA ?_ | refine zB ?_ | refine zF ?_)
    refine Gw_s fun K' hK' => G1_call (by simp only [gtarget, ↓GArg.ev, ↓evs, ↓Tr.get_set, Nat.reduceEqDiff, if_true, if_false, ↓reduceIte, Option.map_some, f0, f4, f5, f6, f7, f8]; rfl) (rfields_ok hw2 (l := ln) (by omega)) fun r4 H4 hq => hK' _ _ ?_
    have hS4 : Same H2 H4 := by
      cases hfl : flds ln 0 with
      | ok F => rw [hfl] at hq; obtain ⟨_, _, h⟩ := hq; exact h.same
      | bad i => rw [hfl] at hq; exact hq.2
    have hI4 := hI.later hS4
    have hw4 := hS4.wf
    have hlim4 := hw4.1
    cases hfl : flds ln 0 with
    | bad q =>
      have hlr := lineR_bad hlong hfl
      rw [hfl] at hq
      obtain ⟨rfl, _⟩ := hq
      rw [hlr] at hoS hdS
      simp only [List.append_nil] at hoS
      have hib := flds_bad _ 0 q (Nat.le_refl _) hfl
      have key : ∀ v2 H4, SpI H H4 ov v2 L (outF M j) (dgF M j ++ [⟨j + 1, q + 1, 4⟩]) → SpI H H4 ov v2 L (outF M (j + 1)) (dgF M (j + 1)) := fun v2 H4 h => by rw [hdS, hoS]; exact h
      repeat' (first | (exfalso; omega) | refine zn ?_ | refine zK rfl ?_ | refine zP rfl ?_ | ((first | refine zm ?_ | skip); intro _; intros; simp (disch := first | exact zd | fail) only [↓yS, yT, ↓reduceIte, Nat.reduceEqDiff, Nat.reduceAdd, Nat.reduceMul, reduceCtorEq, Int.reduceToNat, g42, f0, f4, f5, f6, f7, f8, Int.add_zero]; first | (rename_i K k; refine yC (k _ _ ?_); clear k K) | (rename_i A B C D a b c d; (first | refine zX (a ?_) | refine zY (b ?_) | refine zZ (fun hc => c ?_) (fun hc => d ?_)) <;> clear a b c d A B C D <;> try simp only [yL] at hc)) | (refine yA ?_; intro A a; simp only [↓yG, Nat.reduceEqDiff, ↓reduceIte, g42, f0, f4, f5, f6, f7, f8, Int.add_zero]; refine yB (a ?_); clear a A) | (refine yD ?_; simp only [gresults, ↓yG, Nat.reduceEqDiff, ↓reduceIte, Option.bind_some, gld_1, gld_n, g42, f0, f4, f5, f6, f7, f8, Int.add_zero]; refine ⟨_, rfl, ?_⟩; simp only [gone]) | refine zA ?_ | refine zB ?_ | refine zF ?_)
      rw [dg_cells (a := j + 1) (b := q + 1) (c := 4) (A := (j : Int) + 1) (B := (q : Int) + 1) (C := 4) (by omega) (by omega) (by omega)]
      refine Gw_s fun K' hK' => ?_
      simp (disch := first | exact zd | fail) only [↓yS, yT, ↓reduceIte, Nat.reduceEqDiff, Nat.reduceAdd, Nat.reduceMul, reduceCtorEq, Int.reduceToNat, f0, f4, f5, f6, f7, f8]
      obtain ⟨v2, H6, e, hI6⟩ := hI4.addD ⟨j + 1, q + 1, 4⟩ (by omega)
      refine G1_eq e (hK' _ _ ?_)
      clear hK' K' e
      repeat' (first | (exfalso; omega) | refine zn ?_ | refine zK rfl ?_ | refine zP rfl ?_ | ((first | refine zm ?_ | skip); intro _; intros; simp (disch := first | exact zd | fail) only [↓yS, yT, ↓reduceIte, Nat.reduceEqDiff, Nat.reduceAdd, Nat.reduceMul, reduceCtorEq, Int.reduceToNat, g42, f0, f4, f5, f6, f7, f8]; first | (rename_i K k; refine yC (k _ _ ?_); clear k K) | (rename_i A B C D a b c d; (first | refine zX (a ?_) | refine zY (b ?_) | refine zZ (fun hc => c ?_) (fun hc => d ?_)) <;> clear a b c d A B C D <;> try simp only [yL] at hc)) | (refine yA ?_; intro A a; simp only [↓yG, Nat.reduceEqDiff, ↓reduceIte, g42, f0, f4, f5, f6, f7, f8]; refine yB (a ?_); clear a A) | (refine yD ?_; simp only [gresults, ↓yG, Nat.reduceEqDiff, ↓reduceIte, Option.bind_some, gld_1, gld_n, g42, f0, f4, f5, f6, f7, f8]; refine ⟨_, rfl, ?_⟩; simp only [gone]) | refine zA ?_ | refine zB ?_ | refine zF ?_)
      refine hgo ov v2 L _ _ ?_ ?_ ?_ ?_ ?_ ?_ (key _ _ hI6)
      all_goals first
        | (simp only [↓yG, Nat.reduceEqDiff, ↓reduceIte, Int.natCast_add, Int.cast_ofNat_Int, Int.natCast_zero, true_and, and_true, Option.some.injEq, Value.int.injEq, f0, f4, f5, f6, f7, f8]; done)
        | (simp only [↓yG, Nat.reduceEqDiff, ↓reduceIte, Int.natCast_add, Int.cast_ofNat_Int, Int.natCast_zero, true_and, and_true, Option.some.injEq, Value.int.injEq, f0, f4, f5, f6, f7, f8]; first | rfl | omega)
    | ok F =>
      have hlr := lineR_ok hlong hfl
      rw [hfl] at hq
      obtain ⟨fv, rfl, hF⟩ := hq
      rw [hlr] at hoS hdS
      simp only [List.append_nil] at hdS
      have hslF := hF.rd.isSl
      have hF5 := hF.weaken hS2
      have hFn := (flds_size _ 0 F (Nat.le_refl _) hfl).1
      have hFl : F.length ≤ 1000 := by split at hFn <;> omega
      cases F with
      | nil =>
        simp only [List.append_nil] at hoS
        have key : SpI H H4 ov dv L (outF M (j + 1)) (dgF M (j + 1)) := by rw [hdS, hoS]; exact hI4
        repeat' (first | (exfalso; omega) | refine zn ?_ | refine zK rfl ?_ | refine zP rfl ?_ | ((first | refine zm ?_ | skip); intro _; intros; simp (disch := first | exact zd | fail) only [↓yS, yT, ↓reduceIte, Nat.reduceEqDiff, Nat.reduceAdd, Nat.reduceMul, reduceCtorEq, Int.reduceToNat, g42, f0, f4, f5, f6, f7, f8, hslF.len, List.length_nil]; first | (rename_i K k; refine yC (k _ _ ?_); clear k K) | (rename_i A B C D a b c d; (first | refine zX (a ?_) | refine zY (b ?_) | refine zZ (fun hc => c ?_) (fun hc => d ?_)) <;> clear a b c d A B C D <;> try simp only [yL] at hc)) | (refine yA ?_; intro A a; simp only [↓yG, Nat.reduceEqDiff, ↓reduceIte, g42, f0, f4, f5, f6, f7, f8, hslF.len, List.length_nil]; refine yB (a ?_); clear a A) | (refine yD ?_; simp only [gresults, ↓yG, Nat.reduceEqDiff, ↓reduceIte, Option.bind_some, gld_1, gld_n, g42, f0, f4, f5, f6, f7, f8, hslF.len, List.length_nil]; refine ⟨_, rfl, ?_⟩; simp only [gone]) | refine zA ?_ | refine zB ?_ | refine zF ?_)
        refine hgo ov dv L _ _ ?_ ?_ ?_ ?_ ?_ ?_ (key)
        all_goals first
          | (simp only [↓yG, Nat.reduceEqDiff, ↓reduceIte, Int.natCast_add, Int.cast_ofNat_Int, Int.natCast_zero, true_and, and_true, Option.some.injEq, Value.int.injEq, f0, f4, f5, f6, f7, f8]; done)
          | (simp only [↓yG, Nat.reduceEqDiff, ↓reduceIte, Int.natCast_add, Int.cast_ofNat_Int, Int.natCast_zero, true_and, and_true, Option.some.injEq, Value.int.injEq, f0, f4, f5, f6, f7, f8]; first | rfl | omega)
      | cons f F =>
        have hFp : 1 ≤ (f :: F).length := by simp
        simp only at hoS
        generalize hFF : f :: F = F' at *
        have hne : F' ≠ [] := by rw [← hFF]; simp
        have hff := hF.flat
        have hb1 := fun k => build_ln (k := k) hff
        have hb3 := fun k => fill_lnv (k := k) hff
        repeat' (first | (exfalso; omega) | refine zn ?_ | refine zK rfl ?_ | refine zP rfl ?_ | ((first | refine zm ?_ | skip); intro _; intros; simp (disch := first | exact zd | fail) only [↓yS, yT, ↓reduceIte, Nat.reduceEqDiff, Nat.reduceAdd, Nat.reduceMul, reduceCtorEq, Int.reduceToNat, g42, f0, f4, f5, f6, f7, f8, hslF.len, hb1, hb3]; first | (rename_i K k; refine yC (k _ _ ?_); clear k K) | (rename_i A B C D a b c d; (first | refine zX (a ?_) | refine zY (b ?_) | refine zZ (fun hc => c ?_) (fun hc => d ?_)) <;> clear a b c d A B C D <;> try simp only [yL] at hc)) | (refine yA ?_; intro A a; simp only [↓yG, Nat.reduceEqDiff, ↓reduceIte, g42, f0, f4, f5, f6, f7, f8, hslF.len, hb1, hb3]; refine yB (a ?_); clear a A) | (refine yD ?_; simp only [gresults, ↓yG, Nat.reduceEqDiff, ↓reduceIte, Option.bind_some, gld_1, gld_n, g42, f0, f4, f5, f6, f7, f8, hslF.len, hb1, hb3]; refine ⟨_, rfl, ?_⟩; simp only [gone]) | refine zA ?_ | refine zB ?_ | refine zF ?_)
        have hcl : ([.int .i64 ((j : Int) + 1), fv] : List Value) = lnC (fv, ⟨j + 1, F'⟩) := rfl
        rw [hcl]
        refine Gw_s fun K' hK' => ?_
        simp (disch := first | exact zd | fail) only [↓yS, yT, ↓reduceIte, Nat.reduceEqDiff, Nat.reduceAdd, Nat.reduceMul, reduceCtorEq, Int.reduceToNat, f0, f4, f5, f6, f7, f8]
        obtain ⟨v2, H6, e, hI6⟩ := hI4.addL (x := ⟨j + 1, F'⟩) hF5 hne (by omega)
        refine G1_eq e (hK' _ _ ?_)
        clear hK' K' e
        have key : SpI H H6 v2 dv (L ++ [(fv, ⟨j + 1, F'⟩)]) (outF M (j + 1)) (dgF M (j + 1)) := by rw [hdS, hoS]; exact hI6
        repeat' (first | (exfalso; omega) | refine zn ?_ | refine zK rfl ?_ | refine zP rfl ?_ | ((first | refine zm ?_ | skip); intro _; intros; simp (disch := first | exact zd | fail) only [↓yS, yT, ↓reduceIte, Nat.reduceEqDiff, Nat.reduceAdd, Nat.reduceMul, reduceCtorEq, Int.reduceToNat, g42, f0, f4, f5, f6, f7, f8]; first | (rename_i K k; refine yC (k _ _ ?_); clear k K) | (rename_i A B C D a b c d; (first | refine zX (a ?_) | refine zY (b ?_) | refine zZ (fun hc => c ?_) (fun hc => d ?_)) <;> clear a b c d A B C D <;> try simp only [yL] at hc)) | (refine yA ?_; intro A a; simp only [↓yG, Nat.reduceEqDiff, ↓reduceIte, g42, f0, f4, f5, f6, f7, f8]; refine yB (a ?_); clear a A) | (refine yD ?_; simp only [gresults, ↓yG, Nat.reduceEqDiff, ↓reduceIte, Option.bind_some, gld_1, gld_n, g42, f0, f4, f5, f6, f7, f8]; refine ⟨_, rfl, ?_⟩; simp only [gone]) | refine zA ?_ | refine zB ?_ | refine zF ?_)
        refine hgo v2 dv (L ++ [(fv, ⟨j + 1, F'⟩)]) _ _ ?_ ?_ ?_ ?_ ?_ ?_ (key)
        all_goals first
          | (simp only [↓yG, Nat.reduceEqDiff, ↓reduceIte, Int.natCast_add, Int.cast_ofNat_Int, Int.natCast_zero, true_and, and_true, Option.some.injEq, Value.int.injEq, f0, f4, f5, f6, f7, f8]; done)
          | (simp only [↓yG, Nat.reduceEqDiff, ↓reduceIte, Int.natCast_add, Int.cast_ofNat_Int, Int.natCast_zero, true_and, and_true, Option.some.injEq, Value.int.injEq, f0, f4, f5, f6, f7, f8]; first | rfl | omega)
end Go.Gh
