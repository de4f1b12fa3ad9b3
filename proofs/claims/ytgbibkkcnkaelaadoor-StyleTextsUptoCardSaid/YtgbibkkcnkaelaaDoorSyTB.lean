/-
  The laws StyleTexts and StyleParses, walked.
-/
import Derived.Test.YtgbibkkcnkaelaaDoorSyTA
namespace Go.Gh
set_option linter.unusedSimpArgs false
set_option linter.unusedVariables false
open Go.RowKit
set_option maxRecDepth 4000

theorem argR_c {H : GHeap} {gv : Value} (h : RdAQ (fun m => m ≤ 1048576) H (.st [.sl runShp]) gv) : ∃ a A, gv = rowV a ∧ ArgR H a A ∧ ∀ x ∈ A, 0 ≤ x.s.c := by
  simp only [RdAQ, RdSsQ] at h
  obtain ⟨gs, rfl, a', b', rfl, h1, rfl⟩ := h
  simp only [RdSQ] at h1
  obtain ⟨v, rows, rfl, h2⟩ := h1
  have h3 : RdAQ (fun m => m ≤ 1048576) H (.sl runShp) v := by
    simp only [RdAQ, RdSQ]
    exact ⟨v, rows, rfl, h2⟩
  obtain ⟨l, k1, k2, k3⟩ := h3.slQ_ (f := runC) fun r hr => run_of hr
  have hall : ∀ x ∈ l, (x.t.length ≤ 1048576 ∧ x.y.length ≤ 1048576) ∧ 0 ≤ x.s.c := fun x hx => by
    have h4 := k3 x hx
    simp only [runShp, RdSQ, RdSsQ, runC] at h4
    obtain ⟨_, _, e1, ⟨s, rfl, _, q1⟩, _, _, rfl, ⟨_, _, rfl, ⟨c, rfl, hc⟩, _, _, rfl, ⟨i, rfl⟩, _, _, rfl, ⟨u, rfl⟩, rfl⟩, _, _, rfl, ⟨y, rfl, _, q2⟩, rfl⟩ := h4
    simp only [List.cons_append, List.nil_append, List.cons.injEq, Value.string.injEq, Value.int.injEq, true_and, and_true] at e1
    obtain ⟨e1, e3, _, _, e2⟩ := e1
    rw [← e1, strB_size] at q1
    rw [← e2, strB_size] at q2
    rw [← e3] at hc
    exact ⟨⟨q1, q2⟩, (wf_u8 hc).1⟩
  exact ⟨v, l, rfl, ⟨k1, k2.2.2, fun x hx => (hall x hx).1⟩, fun x hx => (hall x hx).2⟩
theorem check_okX {l : List SR} (h : checkF l = 0) (hc : ∀ x ∈ l, 0 ≤ x.s.c) : ∀ x ∈ l, okX x := fun x hx => by
  obtain ⟨_, h2⟩ := check_ok' h
  obtain ⟨_, h3, h4, _⟩ := h2 x hx
  exact ⟨h3, hc x hx, by simpa [okS] using h4⟩
theorem resI_text {l : List SR} (h : checkF l = 0) (hc : ∀ x ∈ l, 0 ≤ x.s.c) : resF (loopI (textB l).length [] (textB l)) (textB l) = some l := by
  rw [loopI_text (check_okX h hc) (check_ok' h).1 _ (Nat.le_refl _)]
  exact if_pos ⟨h, rfl⟩
theorem resR_text {l : List SR} (h : checkF l = 0) (hc : ∀ x ∈ l, 0 ≤ x.s.c) : resF (loopR (textB l).length [] (textB l)) (textB l) = some l := by
  rw [loopR_text (check_okX h hc) _ (Nat.le_refl _)]
  exact if_pos ⟨h, rfl⟩
theorem resF_some {o : Option (List SR)} {s : List UInt8} {l : List SR} (h : resF o s = some l) : checkF l = 0 ∧ textB l = s ∧ o = some l := by
  cases o with
  | none => cases h
  | some l' =>
    have h' : (if checkF l' = 0 ∧ textB l' = s then some l' else none) = some l := h
    split at h'
    · rename_i h1
      simp only [Option.some.injEq] at h'
      subst h'
      exact ⟨h1.1, h1.2, rfl⟩
    · cases h'
set_option maxHeartbeats 1000000 in
theorem texts_ok {H : GHeap} (hw : H.wf) {a : Value} {A : List SR} (ha : ArgR H a A) (hc0 : ∀ x ∈ A, 0 ≤ x.s.c) :
    ∃ r H', gev G 7 [rowV a] H = some (r, H') ∧ r = .bool true := by
  refine gev_GW (f := 7) rfl fun Post hPost => ?_
  have hlim := hw.1
  have hfa := ha.rr.flat
  have hlA := ha.len
  have hgd : ∀ x ∈ A, goodX x := fun x hx => by
    have := ha.each x hx
    exact ⟨by omega, by omega, hc0 x hx⟩
  simp only [frameOf, Nat.reduceAdd]
  repeat' (first | refine zA ?_ | refine zB ?_ | refine zC ?_ | refine zD ?_ | refine zE ?_ | refine zF ?_ | refine zG ?_ | refine zH ?_ | refine zI ?_ | refine zJ ?_ | refine zK rfl ?_ | refine zL ?_ | refine zM ?_ | refine zN ?_ | refine zO ?_ | refine zP rfl ?_ | refine zQ ?_ | ((first | refine zR ?_ | refine zS ?_ | refine zT ?_ | skip); intro K k; simp (disch := (first | (simp only [yD2, beq_self_eq_true, Nat.reduceLT, Nat.reduceAdd]; done) | ((fail_if_success (apply Bool.eq_iff_iff.2)); first | omega | (simp only [yD2, beq_self_eq_true, Nat.reduceLT, Nat.reduceAdd] <;> omega)) | fail)) only [↓yS, yT, ↓reduceIte, Nat.reduceEqDiff, Nat.reduceAdd, Nat.reduceMul, reduceCtorEq, Int.reduceToNat, g7, rowV_eq, agg_all, agg_list, hfa]; refine yC (k _ _ ?_); clear k K) | ((first | refine zU ?_ | refine zV ?_ | refine zW ?_); intro A B C D a b c d; simp only [↓yG, Nat.reduceEqDiff, ↓reduceIte, g7, rowV_eq, agg_all, agg_list, hfa]; (first | refine zX (a ?_) | refine zY (b ?_) | refine zZ (fun hc => c ?_) (fun hc => d ?_)) <;> clear a b c d A B C D <;> try simp only [yL] at hc) | (refine yA ?_; intro A a; simp only [↓yG, Nat.reduceEqDiff, ↓reduceIte, g7, rowV_eq, agg_all, agg_list, hfa]; refine yB (a ?_); clear a A) | (refine yD ?_; simp only [gresults, ↓yG, Nat.reduceEqDiff, ↓reduceIte, Option.bind_some, gld_1, gld_n, g7, rowV_eq, agg_all, agg_list, hfa]; refine ⟨_, rfl, ?_⟩; simp only [gone]))
  have hSb : Same H (H.add (some (.cells [a] 0 true))) := (Same.refl hw).add _
  have kA : (H.add (some (.cells [a] 0 true))).rdn H.len 0 1 = some (rowV a) := rdn_add_all (n := 1) rfl rfl
  have hlb : (H.add (some (.cells [a] 0 true))).len = H.len + 1 := by rw [len_add]
  generalize H.add (some (.cells [a] 0 true)) = Hb at *
  have mA : ∀ {H'}, Same Hb H' → H'.rdn H.len 0 1 = some (rowV a) := fun hs => by rw [hs.rdn (by omega)]; exact kA
  have aA : ∀ {H'}, Same Hb H' → RR H' a A := fun hs => ha.rr.later hw (hSb.trans hs)
  have hwb := hSb.wf
  refine Gw_s fun K' hK' => G1_call (by simp only [gtarget, ↓GArg.ev, ↓evs, ↓Tr.get_set, Nat.reduceEqDiff, if_true, if_false, ↓reduceIte, Option.map_some]; rfl) (one_of (awake_gev _)) fun r0 H0 hq => hK' _ _ ?_
  obtain ⟨rfl, rfl⟩ := hq
  have s0 := Same.refl hwb
  repeat' (first | refine zA ?_ | refine zB ?_ | refine zC ?_ | refine zD ?_ | refine zE ?_ | refine zF ?_ | refine zG ?_ | refine zH ?_ | refine zI ?_ | refine zJ ?_ | refine zK rfl ?_ | refine zL ?_ | refine zM ?_ | refine zN ?_ | refine zO ?_ | refine zP rfl ?_ | refine zQ ?_ | ((first | refine zR ?_ | refine zS ?_ | refine zT ?_ | skip); intro K k; simp (disch := (first | (simp only [yD2, beq_self_eq_true, Nat.reduceLT, Nat.reduceAdd]; done) | ((fail_if_success (apply Bool.eq_iff_iff.2)); first | omega | (simp only [yD2, beq_self_eq_true, Nat.reduceLT, Nat.reduceAdd] <;> omega)) | fail)) only [↓yS, yT, ↓reduceIte, Nat.reduceEqDiff, Nat.reduceAdd, Nat.reduceMul, reduceCtorEq, Int.reduceToNat, g7, mA s0]; refine yC (k _ _ ?_); clear k K) | ((first | refine zU ?_ | refine zV ?_ | refine zW ?_); intro A B C D a b c d; simp only [↓yG, Nat.reduceEqDiff, ↓reduceIte, g7, mA s0]; (first | refine zX (a ?_) | refine zY (b ?_) | refine zZ (fun hc => c ?_) (fun hc => d ?_)) <;> clear a b c d A B C D <;> try simp only [yL] at hc) | (refine yA ?_; intro A a; simp only [↓yG, Nat.reduceEqDiff, ↓reduceIte, g7, mA s0]; refine yB (a ?_); clear a A) | (refine yD ?_; simp only [gresults, ↓yG, Nat.reduceEqDiff, ↓reduceIte, Option.bind_some, gld_1, gld_n, g7, mA s0]; refine ⟨_, rfl, ?_⟩; simp only [gone]))
  refine Gw_s fun K' hK' => G1_call (by simp only [gtarget, ↓GArg.ev, ↓evs, ↓Tr.get_set, Nat.reduceEqDiff, if_true, if_false, ↓reduceIte, Option.map_some]; rfl) (text_ok s0.wf (aA s0) (by omega) (good_sh hgd) hc0 (good_text hgd)) fun r1 H1 hq => hK' _ _ ?_
  obtain ⟨rfl, s1⟩ := hq
  repeat' (first | refine zA ?_ | refine zB ?_ | refine zC ?_ | refine zD ?_ | refine zE ?_ | refine zF ?_ | refine zG ?_ | refine zH ?_ | refine zI ?_ | refine zJ ?_ | refine zK rfl ?_ | refine zL ?_ | refine zM ?_ | refine zN ?_ | refine zO ?_ | refine zP rfl ?_ | refine zQ ?_ | ((first | refine zR ?_ | refine zS ?_ | refine zT ?_ | skip); intro K k; simp (disch := (first | (simp only [yD2, beq_self_eq_true, Nat.reduceLT, Nat.reduceAdd]; done) | ((fail_if_success (apply Bool.eq_iff_iff.2)); first | omega | (simp only [yD2, beq_self_eq_true, Nat.reduceLT, Nat.reduceAdd] <;> omega)) | fail)) only [↓yS, yT, ↓reduceIte, Nat.reduceEqDiff, Nat.reduceAdd, Nat.reduceMul, reduceCtorEq, Int.reduceToNat, g7, mA s1]; refine yC (k _ _ ?_); clear k K) | ((first | refine zU ?_ | refine zV ?_ | refine zW ?_); intro A B C D a b c d; simp only [↓yG, Nat.reduceEqDiff, ↓reduceIte, g7, mA s1]; (first | refine zX (a ?_) | refine zY (b ?_) | refine zZ (fun hc => c ?_) (fun hc => d ?_)) <;> clear a b c d A B C D <;> try simp only [yL] at hc) | (refine yA ?_; intro A a; simp only [↓yG, Nat.reduceEqDiff, ↓reduceIte, g7, mA s1]; refine yB (a ?_); clear a A) | (refine yD ?_; simp only [gresults, ↓yG, Nat.reduceEqDiff, ↓reduceIte, Option.bind_some, gld_1, gld_n, g7, mA s1]; refine ⟨_, rfl, ?_⟩; simp only [gone]))
  refine Gw_s fun K' hK' => G1_call (by simp only [gtarget, ↓GArg.ev, ↓evs, ↓Tr.get_set, Nat.reduceEqDiff, if_true, if_false, ↓reduceIte, Option.map_some]; rfl) (rtext_ok s1.wf (aA s1) (by omega) (good_sh hgd) hc0 (good_text hgd)) fun r2 H2 hq => hK' _ _ ?_
  obtain ⟨rfl, s12⟩ := hq
  have s2 := s1.trans s12
  have hne := fun e a => gb_neqB (e := e) (a := a) (b := a)
  have hyt : ∀ a : List UInt8, (¬ a = a) = False := fun a => by simp
  by_cases hc : checkF A = 0
  rotate_left
  · rw [if_neg hc]
    have hq2 := fun e => gb_eqlB (e := e) (a := []) (b := [])
    repeat' (first | (exfalso; omega) | refine zA ?_ | refine zB ?_ | refine zC ?_ | refine zD ?_ | refine zE ?_ | refine zF ?_ | refine zG ?_ | refine zH ?_ | refine zI ?_ | refine zJ ?_ | refine zK rfl ?_ | refine zL ?_ | refine zM ?_ | refine zN ?_ | refine zO ?_ | refine zP rfl ?_ | refine zQ ?_ | ((first | refine zR ?_ | refine zS ?_ | refine zT ?_ | skip); intro K k; simp (disch := (first | (simp only [yD2, beq_self_eq_true, Nat.reduceLT, Nat.reduceAdd]; done) | ((fail_if_success (apply Bool.eq_iff_iff.2)); first | omega | (simp only [yD2, beq_self_eq_true, Nat.reduceLT, Nat.reduceAdd] <;> omega)) | fail)) only [↓yS, yT, ↓reduceIte, Nat.reduceEqDiff, Nat.reduceAdd, Nat.reduceMul, reduceCtorEq, Int.reduceToNat, g7, mA s2, hne, hyt, decide_false, hq2, decide_true]; refine yC (k _ _ ?_); clear k K) | ((first | refine zU ?_ | refine zV ?_ | refine zW ?_); intro A B C D a b c d; simp only [↓yG, Nat.reduceEqDiff, ↓reduceIte, g7, mA s2, hne, hyt, decide_false, hq2, decide_true]; (first | refine zX (a ?_) | refine zY (b ?_) | refine zZ (fun hc => c ?_) (fun hc => d ?_)) <;> clear a b c d A B C D <;> try simp only [yL] at hc) | (refine yA ?_; intro A a; simp only [↓yG, Nat.reduceEqDiff, ↓reduceIte, g7, mA s2, hne, hyt, decide_false, hq2, decide_true]; refine yB (a ?_); clear a A) | (refine yD ?_; simp only [gresults, ↓yG, Nat.reduceEqDiff, ↓reduceIte, Option.bind_some, gld_1, gld_n, g7, mA s2, hne, hyt, decide_false, hq2, decide_true]; refine ⟨_, rfl, ?_⟩; simp only [gone]))
    all_goals exact hPost _ _ (by rw [show strB [] = ⟨#[]⟩ from rfl]; simp)
  rw [if_pos hc, hc]
  have htl := textB_bound (B := 1048576) fun x hx => ha.each x hx
  have h16 := Nat.mul_le_mul_right (4 * 1048576 + 11) (check_ok' hc).1
  have hres := resI_text hc hc0
  repeat' (first | (exfalso; omega) | refine zA ?_ | refine zB ?_ | refine zC ?_ | refine zD ?_ | refine zE ?_ | refine zF ?_ | refine zG ?_ | refine zH ?_ | refine zI ?_ | refine zJ ?_ | refine zK rfl ?_ | refine zL ?_ | refine zM ?_ | refine zN ?_ | refine zO ?_ | refine zP rfl ?_ | refine zQ ?_ | ((first | refine zR ?_ | refine zS ?_ | refine zT ?_ | skip); intro K k; simp (disch := (first | (simp only [yD2, beq_self_eq_true, Nat.reduceLT, Nat.reduceAdd]; done) | ((fail_if_success (apply Bool.eq_iff_iff.2)); first | omega | (simp only [yD2, beq_self_eq_true, Nat.reduceLT, Nat.reduceAdd] <;> omega)) | fail)) only [↓yS, yT, ↓reduceIte, Nat.reduceEqDiff, Nat.reduceAdd, Nat.reduceMul, reduceCtorEq, Int.reduceToNat, g7, mA s2, hne, hyt, decide_false]; refine yC (k _ _ ?_); clear k K) | ((first | refine zU ?_ | refine zV ?_ | refine zW ?_); intro A B C D a b c d; simp only [↓yG, Nat.reduceEqDiff, ↓reduceIte, g7, mA s2, hne, hyt, decide_false]; (first | refine zX (a ?_) | refine zY (b ?_) | refine zZ (fun hc => c ?_) (fun hc => d ?_)) <;> clear a b c d A B C D <;> try simp only [yL] at hc) | (refine yA ?_; intro A a; simp only [↓yG, Nat.reduceEqDiff, ↓reduceIte, g7, mA s2, hne, hyt, decide_false]; refine yB (a ?_); clear a A) | (refine yD ?_; simp only [gresults, ↓yG, Nat.reduceEqDiff, ↓reduceIte, Option.bind_some, gld_1, gld_n, g7, mA s2, hne, hyt, decide_false]; refine ⟨_, rfl, ?_⟩; simp only [gone]))
  refine Gw_s fun K' hK' => G1_call (by simp only [gtarget, ↓GArg.ev, ↓evs, ↓Tr.get_set, Nat.reduceEqDiff, if_true, if_false, ↓reduceIte, Option.map_some]; rfl) (Parse_ok s2.wf (s := textB A) (by omega)) fun r3 H3 hq => hK' _ _ ?_
  obtain ⟨w, rfl, hO⟩ := hq
  rw [hres] at hO ⊢
  simp only [Option.isSome_some, if_true, Option.getD_some] at hO ⊢
  have s3 := s2.trans hO.same
  have hst := gst_add s3.wf (n := 1) (z := [.slice none 0 0]) (u := 0) (vs := #[w]) rfl rfl (by simpa using hO.flat)
  have hwr : rowV w = .agg #[w] := rfl
  have s4 := s3.new (.cells [.slice none 0 0] 0 true) (.cells [w] 0 true)
  have hO4 := hO.later ((Same.refl s3.wf).new (.cells [.slice none 0 0] 0 true) (.cells [w] 0 true))
  have r4 : ((H3.add (some (.cells [.slice none 0 0] 0 true))).put H3.len (.cells [w] 0 true)).rdn H3.len 0 1 = some (rowV w) := rdn_put_all rfl
  rw [← hwr] at hst
  repeat' (first | (exfalso; omega) | refine zA ?_ | refine zB ?_ | refine zC ?_ | refine zD ?_ | refine zE ?_ | refine zF ?_ | refine zG ?_ | refine zH ?_ | refine zI ?_ | refine zJ ?_ | refine zK rfl ?_ | refine zL ?_ | refine zM ?_ | refine zN ?_ | refine zO ?_ | refine zP rfl ?_ | refine zQ ?_ | ((first | refine zR ?_ | refine zS ?_ | refine zT ?_ | skip); intro K k; simp (disch := (first | (simp only [yD2, beq_self_eq_true, Nat.reduceLT, Nat.reduceAdd]; done) | ((fail_if_success (apply Bool.eq_iff_iff.2)); first | omega | (simp only [yD2, beq_self_eq_true, Nat.reduceLT, Nat.reduceAdd] <;> omega)) | fail)) only [↓yS, yT, ↓reduceIte, Nat.reduceEqDiff, Nat.reduceAdd, Nat.reduceMul, reduceCtorEq, Int.reduceToNat, g7, hst, r4, mA s4]; refine yC (k _ _ ?_); clear k K) | ((first | refine zU ?_ | refine zV ?_ | refine zW ?_); intro A B C D a b c d; simp only [↓yG, Nat.reduceEqDiff, ↓reduceIte, g7, hst, r4, mA s4]; (first | refine zX (a ?_) | refine zY (b ?_) | refine zZ (fun hc => c ?_) (fun hc => d ?_)) <;> clear a b c d A B C D <;> try simp only [yL] at hc) | (refine yA ?_; intro A a; simp only [↓yG, Nat.reduceEqDiff, ↓reduceIte, g7, hst, r4, mA s4]; refine yB (a ?_); clear a A) | (refine yD ?_; simp only [gresults, ↓yG, Nat.reduceEqDiff, ↓reduceIte, Option.bind_some, gld_1, gld_n, g7, hst, r4, mA s4]; refine ⟨_, rfl, ?_⟩; simp only [gone]))
  generalize (H3.add (some (.cells [.slice none 0 0] 0 true))).put H3.len (.cells [w] 0 true) = H4 at *
  repeat' (first | (exfalso; omega) | refine zA ?_ | refine zB ?_ | refine zC ?_ | refine zD ?_ | refine zE ?_ | refine zF ?_ | refine zG ?_ | refine zH ?_ | refine zI ?_ | refine zJ ?_ | refine zK rfl ?_ | refine zL ?_ | refine zM ?_ | refine zN ?_ | refine zO ?_ | refine zP rfl ?_ | refine zQ ?_ | ((first | refine zR ?_ | refine zS ?_ | refine zT ?_ | skip); intro K k; simp (disch := (first | (simp only [yD2, beq_self_eq_true, Nat.reduceLT, Nat.reduceAdd]; done) | ((fail_if_success (apply Bool.eq_iff_iff.2)); first | omega | (simp only [yD2, beq_self_eq_true, Nat.reduceLT, Nat.reduceAdd] <;> omega)) | fail)) only [↓yS, yT, ↓reduceIte, Nat.reduceEqDiff, Nat.reduceAdd, Nat.reduceMul, reduceCtorEq, Int.reduceToNat, g7, r4, mA s4]; refine yC (k _ _ ?_); clear k K) | ((first | refine zU ?_ | refine zV ?_ | refine zW ?_); intro A B C D a b c d; simp only [↓yG, Nat.reduceEqDiff, ↓reduceIte, g7, r4, mA s4]; (first | refine zX (a ?_) | refine zY (b ?_) | refine zZ (fun hc => c ?_) (fun hc => d ?_)) <;> clear a b c d A B C D <;> try simp only [yL] at hc) | (refine yA ?_; intro A a; simp only [↓yG, Nat.reduceEqDiff, ↓reduceIte, g7, r4, mA s4]; refine yB (a ?_); clear a A) | (refine yD ?_; simp only [gresults, ↓yG, Nat.reduceEqDiff, ↓reduceIte, Option.bind_some, gld_1, gld_n, g7, r4, mA s4]; refine ⟨_, rfl, ?_⟩; simp only [gone]))
  intro K' hK'; refine G1_call (by simp only [gtarget, ↓GArg.ev, ↓evs, ↓Tr.get_set, Nat.reduceEqDiff, if_true, if_false, ↓reduceIte, Option.map_some]; rfl) (same_ok s4.wf (OR.rr hO4) (aA s4) (by omega) (by omega)) fun r5 H5 hq => hK' _ _ ?_
  obtain ⟨rfl, s5⟩ := hq
  rw [decide_eq_true rfl]
  repeat' (first | (exfalso; omega) | refine zA ?_ | refine zB ?_ | refine zC ?_ | refine zD ?_ | refine zE ?_ | refine zF ?_ | refine zG ?_ | refine zH ?_ | refine zI ?_ | refine zJ ?_ | refine zK rfl ?_ | refine zL ?_ | refine zM ?_ | refine zN ?_ | refine zO ?_ | refine zP rfl ?_ | refine zQ ?_ | ((first | refine zR ?_ | refine zS ?_ | refine zT ?_ | skip); intro K k; simp (disch := (first | (simp only [yD2, beq_self_eq_true, Nat.reduceLT, Nat.reduceAdd]; done) | ((fail_if_success (apply Bool.eq_iff_iff.2)); first | omega | (simp only [yD2, beq_self_eq_true, Nat.reduceLT, Nat.reduceAdd] <;> omega)) | fail)) only [↓yS, yT, ↓reduceIte, Nat.reduceEqDiff, Nat.reduceAdd, Nat.reduceMul, reduceCtorEq, Int.reduceToNat, g7]; refine yC (k _ _ ?_); clear k K) | ((first | refine zU ?_ | refine zV ?_ | refine zW ?_); intro A B C D a b c d; simp only [↓yG, Nat.reduceEqDiff, ↓reduceIte, g7]; (first | refine zX (a ?_) | refine zY (b ?_) | refine zZ (fun hc => c ?_) (fun hc => d ?_)) <;> clear a b c d A B C D <;> try simp only [yL] at hc) | (refine yA ?_; intro A a; simp only [↓yG, Nat.reduceEqDiff, ↓reduceIte, g7]; refine yB (a ?_); clear a A) | (refine yD ?_; simp only [gresults, ↓yG, Nat.reduceEqDiff, ↓reduceIte, Option.bind_some, gld_1, gld_n, g7]; refine ⟨_, rfl, ?_⟩; simp only [gone]))
  exact hPost _ _ rfl
theorem texts_law {H : GHeap} (hw : H.wf) {gvs : List Value} (h : RdAsQ (fun m => m ≤ 1048576) H [.st [.sl runShp]] gvs) : ∃ v H2, gev G 7 gvs H = some (v, H2) ∧ v = .bool true := by
  obtain ⟨_, _, rfl, h1, rfl⟩ := h
  obtain ⟨a, A, rfl, ha, hc⟩ := argR_c h1
  exact texts_ok hw ha hc
/-- both parsers answer the same -/
theorem loopI_good : ∀ (n : Nat) (out : List SR) (s : List UInt8) {l : List SR}, s.length ≤ 134217728 → (∀ x ∈ out, goodX x) → loopI n out s = some l → ∀ x ∈ l, goodX x
  | n, out, [], l, _, ho, h => by
    have : loopI n out [] = some out := by cases n <;> rfl
    rw [this] at h
    cases h
    exact ho
  | 0, out, _ :: _, l, _, ho, h => by cases h
  | n + 1, out, b :: r, l, hs, ho, h => by
    rw [loopI] at h
    split at h
    · cases h
    · have h1 := stepI_good (l := b :: r) (by simp) hs
      have h2 := (stepI_len (b :: r)).2.2
      exact loopI_good n _ _ (by omega) (fun x hx => (List.mem_append.1 hx).elim (ho x) fun h => by rw [List.mem_singleton.1 h]; exact h1) h
theorem tagR_c {l r : List UInt8} {a : Sy} {y : List UInt8} (h : tagR l = some (a, y, r)) : 0 ≤ a.c := by
  unfold tagR at h
  simp only at h
  split at h
  · cases h
  · simp only [Option.some.injEq, Prod.mk.injEq] at h
    rw [← h.1]
    exact parL_c _
theorem stepR_c {l z : List UInt8} {x : SR} (h : stepR l = some (x, z)) : 0 ≤ x.s.c := by
  unfold stepR at h
  split at h
  · cases ht : tagR l.tail with
    | none => rw [ht] at h; cases h
    | some w =>
      obtain ⟨a, y, r⟩ := w
      rw [ht] at h
      rw [(finR_le h).2.1]
      exact tagR_c ht
  · rw [(finR_le h).2.1]; simp
theorem loopR_c : ∀ (n : Nat) (out : List SR) (s : List UInt8) {l : List SR}, (∀ x ∈ out, 0 ≤ x.s.c) → loopR n out s = some l → ∀ x ∈ l, 0 ≤ x.s.c
  | n, out, [], l, ho, h => by
    have : loopR n out [] = some out := by cases n <;> rfl
    rw [this] at h
    cases h
    exact ho
  | 0, out, _ :: _, l, ho, h => by cases h
  | n + 1, out, b :: r, l, ho, h => by
    rw [loopR] at h
    split at h
    · cases h
    · rename_i z hz
      exact loopR_c n _ _ (fun x hx => (List.mem_append.1 hx).elim (ho x) fun h => by rw [List.mem_singleton.1 h]; exact stepR_c hz) h
theorem res_eq {s : List UInt8} (hs : s.length ≤ 134217728) : resF (loopR s.length [] s) s = resF (loopI s.length [] s) s := by
  cases hI : resF (loopI s.length [] s) s with
  | some l =>
    obtain ⟨h1, rfl, h3⟩ := resF_some hI
    exact resR_text h1 fun x hx => (loopI_good _ _ _ hs (by simp) h3 x hx).2.2
  | none =>
    cases hR : resF (loopR s.length [] s) s with
    | none => rfl
    | some l =>
      obtain ⟨h1, rfl, h3⟩ := resF_some hR
      rw [resI_text h1 (loopR_c _ _ _ (by simp) h3)] at hI
      cases hI
theorem resI_good {s : List UInt8} (hs : s.length ≤ 134217728) : ∀ x ∈ (resF (loopI s.length [] s) s).getD [], goodX x := by
  cases hI : resF (loopI s.length [] s) s with
  | none => simp
  | some l =>
    obtain ⟨h1, _, h3⟩ := resF_some hI
    exact loopI_good _ _ _ hs (by simp) h3
set_option maxHeartbeats 1000000 in
theorem parses_ok {H : GHeap} (hw : H.wf) {s : List UInt8} (hs : s.length ≤ 134217728) :
    ∃ r H', gev G 6 [.string (strB s)] H = some (r, H') ∧ r = .bool true := by
  refine gev_GW (f := 6) rfl fun Post hPost => ?_
  have hlim := hw.1
  have hre := res_eq hs
  have hgd := resI_good hs
  have hwr : ∀ w, rowV w = .agg #[w] := fun _ => rfl
  simp only [frameOf, Nat.reduceAdd]
  repeat' (first | refine zA ?_ | refine zB ?_ | refine zC ?_ | refine zD ?_ | refine zE ?_ | refine zF ?_ | refine zG ?_ | refine zH ?_ | refine zI ?_ | refine zJ ?_ | refine zK rfl ?_ | refine zL ?_ | refine zM ?_ | refine zN ?_ | refine zO ?_ | refine zP rfl ?_ | refine zQ ?_ | ((first | refine zR ?_ | refine zS ?_ | refine zT ?_ | skip); intro K k; simp (disch := (first | (simp only [yD2, beq_self_eq_true, Nat.reduceLT, Nat.reduceAdd]; done) | ((fail_if_success (apply Bool.eq_iff_iff.2)); first | omega | (simp only [yD2, beq_self_eq_true, Nat.reduceLT, Nat.reduceAdd] <;> omega)) | fail)) only [↓yS, yT, ↓reduceIte, Nat.reduceEqDiff, Nat.reduceAdd, Nat.reduceMul, reduceCtorEq, Int.reduceToNat, g6]; refine yC (k _ _ ?_); clear k K) | ((first | refine zU ?_ | refine zV ?_ | refine zW ?_); intro A B C D a b c d; simp only [↓yG, Nat.reduceEqDiff, ↓reduceIte, g6]; (first | refine zX (a ?_) | refine zY (b ?_) | refine zZ (fun hc => c ?_) (fun hc => d ?_)) <;> clear a b c d A B C D <;> try simp only [yL] at hc) | (refine yA ?_; intro A a; simp only [↓yG, Nat.reduceEqDiff, ↓reduceIte, g6]; refine yB (a ?_); clear a A) | (refine yD ?_; simp only [gresults, ↓yG, Nat.reduceEqDiff, ↓reduceIte, Option.bind_some, gld_1, gld_n, g6]; refine ⟨_, rfl, ?_⟩; simp only [gone]))
  refine Gw_s fun K' hK' => G1_call (by simp only [gtarget, ↓GArg.ev, ↓evs, ↓Tr.get_set, Nat.reduceEqDiff, if_true, if_false, ↓reduceIte, Option.map_some]; rfl) (one_of (awake_gev _)) fun r0 H0 hq => hK' _ _ ?_
  obtain ⟨rfl, rfl⟩ := hq
  repeat' (first | refine zA ?_ | refine zB ?_ | refine zC ?_ | refine zD ?_ | refine zE ?_ | refine zF ?_ | refine zG ?_ | refine zH ?_ | refine zI ?_ | refine zJ ?_ | refine zK rfl ?_ | refine zL ?_ | refine zM ?_ | refine zN ?_ | refine zO ?_ | refine zP rfl ?_ | refine zQ ?_ | ((first | refine zR ?_ | refine zS ?_ | refine zT ?_ | skip); intro K k; simp (disch := (first | (simp only [yD2, beq_self_eq_true, Nat.reduceLT, Nat.reduceAdd]; done) | ((fail_if_success (apply Bool.eq_iff_iff.2)); first | omega | (simp only [yD2, beq_self_eq_true, Nat.reduceLT, Nat.reduceAdd] <;> omega)) | fail)) only [↓yS, yT, ↓reduceIte, Nat.reduceEqDiff, Nat.reduceAdd, Nat.reduceMul, reduceCtorEq, Int.reduceToNat, g6]; refine yC (k _ _ ?_); clear k K) | ((first | refine zU ?_ | refine zV ?_ | refine zW ?_); intro A B C D a b c d; simp only [↓yG, Nat.reduceEqDiff, ↓reduceIte, g6]; (first | refine zX (a ?_) | refine zY (b ?_) | refine zZ (fun hc => c ?_) (fun hc => d ?_)) <;> clear a b c d A B C D <;> try simp only [yL] at hc) | (refine yA ?_; intro A a; simp only [↓yG, Nat.reduceEqDiff, ↓reduceIte, g6]; refine yB (a ?_); clear a A) | (refine yD ?_; simp only [gresults, ↓yG, Nat.reduceEqDiff, ↓reduceIte, Option.bind_some, gld_1, gld_n, g6]; refine ⟨_, rfl, ?_⟩; simp only [gone]))
  refine Gw_s fun K' hK' => G1_call (by simp only [gtarget, ↓GArg.ev, ↓evs, ↓Tr.get_set, Nat.reduceEqDiff, if_true, if_false, ↓reduceIte, Option.map_some]; rfl) (Parse_ok hw hs) fun r1 H1 hq => hK' _ _ ?_
  obtain ⟨w1, rfl, hO1⟩ := hq
  have hl16 : ((resF (loopI s.length [] s) s).getD []).length ≤ 16 := by
    cases hI : resF (loopI s.length [] s) s with
    | none => simp
    | some l => exact (check_ok' (resF_some hI).1).1
  have s1 := hO1.same
  have hst1 := gst_add s1.wf (n := 1) (z := [.slice none 0 0]) (u := 0) (vs := #[w1]) rfl rfl (by simpa using hO1.flat)
  have s2 := s1.new (.cells [.slice none 0 0] 0 true) (.cells [w1] 0 true)
  have hO2 := hO1.later ((Same.refl s1.wf).new (.cells [.slice none 0 0] 0 true) (.cells [w1] 0 true))
  have r2 : ((H1.add (some (.cells [.slice none 0 0] 0 true))).put H1.len (.cells [w1] 0 true)).rdn H1.len 0 1 = some (rowV w1) := rdn_put_all rfl
  have l2 : H1.len < ((H1.add (some (.cells [.slice none 0 0] 0 true))).put H1.len (.cells [w1] 0 true)).len := by rw [len_put, len_add]; omega
  rw [← hwr] at hst1
  repeat' (first | (exfalso; omega) | refine zA ?_ | refine zB ?_ | refine zC ?_ | refine zD ?_ | refine zE ?_ | refine zF ?_ | refine zG ?_ | refine zH ?_ | refine zI ?_ | refine zJ ?_ | refine zK rfl ?_ | refine zL ?_ | refine zM ?_ | refine zN ?_ | refine zO ?_ | refine zP rfl ?_ | refine zQ ?_ | ((first | refine zR ?_ | refine zS ?_ | refine zT ?_ | skip); intro K k; simp (disch := (first | (simp only [yD2, beq_self_eq_true, Nat.reduceLT, Nat.reduceAdd]; done) | ((fail_if_success (apply Bool.eq_iff_iff.2)); first | omega | (simp only [yD2, beq_self_eq_true, Nat.reduceLT, Nat.reduceAdd] <;> omega)) | fail)) only [↓yS, yT, ↓reduceIte, Nat.reduceEqDiff, Nat.reduceAdd, Nat.reduceMul, reduceCtorEq, Int.reduceToNat, g6, hst1]; refine yC (k _ _ ?_); clear k K) | ((first | refine zU ?_ | refine zV ?_ | refine zW ?_); intro A B C D a b c d; simp only [↓yG, Nat.reduceEqDiff, ↓reduceIte, g6, hst1]; (first | refine zX (a ?_) | refine zY (b ?_) | refine zZ (fun hc => c ?_) (fun hc => d ?_)) <;> clear a b c d A B C D <;> try simp only [yL] at hc) | (refine yA ?_; intro A a; simp only [↓yG, Nat.reduceEqDiff, ↓reduceIte, g6, hst1]; refine yB (a ?_); clear a A) | (refine yD ?_; simp only [gresults, ↓yG, Nat.reduceEqDiff, ↓reduceIte, Option.bind_some, gld_1, gld_n, g6, hst1]; refine ⟨_, rfl, ?_⟩; simp only [gone]))
  generalize (H1.add (some (.cells [.slice none 0 0] 0 true))).put H1.len (.cells [w1] 0 true) = H2 at *
  repeat' (first | (exfalso; omega) | refine zA ?_ | refine zB ?_ | refine zC ?_ | refine zD ?_ | refine zE ?_ | refine zF ?_ | refine zG ?_ | refine zH ?_ | refine zI ?_ | refine zJ ?_ | refine zK rfl ?_ | refine zL ?_ | refine zM ?_ | refine zN ?_ | refine zO ?_ | refine zP rfl ?_ | refine zQ ?_ | ((first | refine zR ?_ | refine zS ?_ | refine zT ?_ | skip); intro K k; simp (disch := (first | (simp only [yD2, beq_self_eq_true, Nat.reduceLT, Nat.reduceAdd]; done) | ((fail_if_success (apply Bool.eq_iff_iff.2)); first | omega | (simp only [yD2, beq_self_eq_true, Nat.reduceLT, Nat.reduceAdd] <;> omega)) | fail)) only [↓yS, yT, ↓reduceIte, Nat.reduceEqDiff, Nat.reduceAdd, Nat.reduceMul, reduceCtorEq, Int.reduceToNat, g6]; refine yC (k _ _ ?_); clear k K) | ((first | refine zU ?_ | refine zV ?_ | refine zW ?_); intro A B C D a b c d; simp only [↓yG, Nat.reduceEqDiff, ↓reduceIte, g6]; (first | refine zX (a ?_) | refine zY (b ?_) | refine zZ (fun hc => c ?_) (fun hc => d ?_)) <;> clear a b c d A B C D <;> try simp only [yL] at hc) | (refine yA ?_; intro A a; simp only [↓yG, Nat.reduceEqDiff, ↓reduceIte, g6]; refine yB (a ?_); clear a A) | (refine yD ?_; simp only [gresults, ↓yG, Nat.reduceEqDiff, ↓reduceIte, Option.bind_some, gld_1, gld_n, g6]; refine ⟨_, rfl, ?_⟩; simp only [gone]))
  refine Gw_s fun K' hK' => G1_call (by simp only [gtarget, ↓GArg.ev, ↓evs, ↓Tr.get_set, Nat.reduceEqDiff, if_true, if_false, ↓reduceIte, Option.map_some]; rfl) (rParse_ok s2.wf hs) fun r3 H3 hq => hK' _ _ ?_
  obtain ⟨w3, rfl, hO3⟩ := hq
  rw [hre] at hO3 ⊢
  have s3 := hO3.same
  have hst3 := gst_add s3.wf (n := 1) (z := [.slice none 0 0]) (u := 0) (vs := #[w3]) rfl rfl (by simpa using hO3.flat)
  have s34 := s3.new (.cells [.slice none 0 0] 0 true) (.cells [w3] 0 true)
  have hO4 := hO3.later ((Same.refl s3.wf).new (.cells [.slice none 0 0] 0 true) (.cells [w3] 0 true))
  have hO24 := hO2.later s34
  have r4 : ((H3.add (some (.cells [.slice none 0 0] 0 true))).put H3.len (.cells [w3] 0 true)).rdn H3.len 0 1 = some (rowV w3) := rdn_put_all rfl
  have r24 : ((H3.add (some (.cells [.slice none 0 0] 0 true))).put H3.len (.cells [w3] 0 true)).rdn H1.len 0 1 = some (rowV w1) := by rw [s34.rdn l2]; exact r2
  have l4 := s34.len
  rw [← hwr] at hst3
  repeat' (first | (exfalso; omega) | refine zA ?_ | refine zB ?_ | refine zC ?_ | refine zD ?_ | refine zE ?_ | refine zF ?_ | refine zG ?_ | refine zH ?_ | refine zI ?_ | refine zJ ?_ | refine zK rfl ?_ | refine zL ?_ | refine zM ?_ | refine zN ?_ | refine zO ?_ | refine zP rfl ?_ | refine zQ ?_ | ((first | refine zR ?_ | refine zS ?_ | refine zT ?_ | skip); intro K k; simp (disch := (first | (simp only [yD2, beq_self_eq_true, Nat.reduceLT, Nat.reduceAdd]; done) | ((fail_if_success (apply Bool.eq_iff_iff.2)); first | omega | (simp only [yD2, beq_self_eq_true, Nat.reduceLT, Nat.reduceAdd] <;> omega)) | fail)) only [↓yS, yT, ↓reduceIte, Nat.reduceEqDiff, Nat.reduceAdd, Nat.reduceMul, reduceCtorEq, Int.reduceToNat, g6, hst3]; refine yC (k _ _ ?_); clear k K) | ((first | refine zU ?_ | refine zV ?_ | refine zW ?_); intro A B C D a b c d; simp only [↓yG, Nat.reduceEqDiff, ↓reduceIte, g6, hst3]; (first | refine zX (a ?_) | refine zY (b ?_) | refine zZ (fun hc => c ?_) (fun hc => d ?_)) <;> clear a b c d A B C D <;> try simp only [yL] at hc) | (refine yA ?_; intro A a; simp only [↓yG, Nat.reduceEqDiff, ↓reduceIte, g6, hst3]; refine yB (a ?_); clear a A) | (refine yD ?_; simp only [gresults, ↓yG, Nat.reduceEqDiff, ↓reduceIte, Option.bind_some, gld_1, gld_n, g6, hst3]; refine ⟨_, rfl, ?_⟩; simp only [gone]))
  generalize (H3.add (some (.cells [.slice none 0 0] 0 true))).put H3.len (.cells [w3] 0 true) = H4 at *
  have s4 := s2.trans s34
  generalize hE : (if (resF (loopI s.length [] s) s).isSome = true then (0 : Int) else 4) = E at *
  have hEE : ∀ e k, gbin .neq e (.int k E) (.int k E) = some (.bool false) := fun e k => by simp [gbin, gint]
  repeat' (first | (exfalso; omega) | refine zA ?_ | refine zB ?_ | refine zC ?_ | refine zD ?_ | refine zE ?_ | refine zF ?_ | refine zG ?_ | refine zH ?_ | refine zI ?_ | refine zJ ?_ | refine zK rfl ?_ | refine zL ?_ | refine zM ?_ | refine zN ?_ | refine zO ?_ | refine zP rfl ?_ | refine zQ ?_ | ((first | refine zR ?_ | refine zS ?_ | refine zT ?_ | skip); intro K k; simp (disch := (first | (simp only [yD2, beq_self_eq_true, Nat.reduceLT, Nat.reduceAdd]; done) | ((fail_if_success (apply Bool.eq_iff_iff.2)); first | omega | (simp only [yD2, beq_self_eq_true, Nat.reduceLT, Nat.reduceAdd] <;> omega)) | fail)) only [↓yS, yT, ↓reduceIte, Nat.reduceEqDiff, Nat.reduceAdd, Nat.reduceMul, reduceCtorEq, Int.reduceToNat, g6, r4, r24, hEE]; refine yC (k _ _ ?_); clear k K) | ((first | refine zU ?_ | refine zV ?_ | refine zW ?_); intro A B C D a b c d; simp only [↓yG, Nat.reduceEqDiff, ↓reduceIte, g6, r4, r24, hEE]; (first | refine zX (a ?_) | refine zY (b ?_) | refine zZ (fun hc => c ?_) (fun hc => d ?_)) <;> clear a b c d A B C D <;> try simp only [yL] at hc) | (refine yA ?_; intro A a; simp only [↓yG, Nat.reduceEqDiff, ↓reduceIte, g6, r4, r24, hEE]; refine yB (a ?_); clear a A) | (refine yD ?_; simp only [gresults, ↓yG, Nat.reduceEqDiff, ↓reduceIte, Option.bind_some, gld_1, gld_n, g6, r4, r24, hEE]; refine ⟨_, rfl, ?_⟩; simp only [gone]))
  intro K' hK'; refine G1_call (by simp only [gtarget, ↓GArg.ev, ↓evs, ↓Tr.get_set, Nat.reduceEqDiff, if_true, if_false, ↓reduceIte, Option.map_some]; rfl) (rsame_ok s4.wf (OR.rr hO24) (OR.rr hO4) (by omega) (by omega)) fun r5 H5 hq => hK' _ _ ?_
  obtain ⟨rfl, s5⟩ := hq
  rw [decide_eq_true rfl]
  have r25 : H5.rdn H1.len 0 1 = some (rowV w1) := by rw [s5.rdn (by omega)]; exact r24
  have hO5 := hO24.later s5
  repeat' (first | (exfalso; omega) | refine zA ?_ | refine zB ?_ | refine zC ?_ | refine zD ?_ | refine zE ?_ | refine zF ?_ | refine zG ?_ | refine zH ?_ | refine zI ?_ | refine zJ ?_ | refine zK rfl ?_ | refine zL ?_ | refine zM ?_ | refine zN ?_ | refine zO ?_ | refine zP rfl ?_ | refine zQ ?_ | ((first | refine zR ?_ | refine zS ?_ | refine zT ?_ | skip); intro K k; simp (disch := (first | (simp only [yD2, beq_self_eq_true, Nat.reduceLT, Nat.reduceAdd]; done) | ((fail_if_success (apply Bool.eq_iff_iff.2)); first | omega | (simp only [yD2, beq_self_eq_true, Nat.reduceLT, Nat.reduceAdd] <;> omega)) | fail)) only [↓yS, yT, ↓reduceIte, Nat.reduceEqDiff, Nat.reduceAdd, Nat.reduceMul, reduceCtorEq, Int.reduceToNat, g6, r25]; refine yC (k _ _ ?_); clear k K) | ((first | refine zU ?_ | refine zV ?_ | refine zW ?_); intro A B C D a b c d; simp only [↓yG, Nat.reduceEqDiff, ↓reduceIte, g6, r25]; (first | refine zX (a ?_) | refine zY (b ?_) | refine zZ (fun hc => c ?_) (fun hc => d ?_)) <;> clear a b c d A B C D <;> try simp only [yL] at hc) | (refine yA ?_; intro A a; simp only [↓yG, Nat.reduceEqDiff, ↓reduceIte, g6, r25]; refine yB (a ?_); clear a A) | (refine yD ?_; simp only [gresults, ↓yG, Nat.reduceEqDiff, ↓reduceIte, Option.bind_some, gld_1, gld_n, g6, r25]; refine ⟨_, rfl, ?_⟩; simp only [gone]))
  refine Gw_s fun K' hK' => G1_call (by simp only [gtarget, ↓GArg.ev, ↓evs, ↓Tr.get_set, Nat.reduceEqDiff, if_true, if_false, ↓reduceIte, Option.map_some]; rfl) (text_ok (s4.trans s5).wf (OR.rr hO5) (by omega) (good_sh hgd) (fun x hx => (hgd x hx).2.2) (good_text hgd)) fun r6 H6 hq => hK' _ _ ?_
  obtain ⟨rfl, s6⟩ := hq
  cases hI : resF (loopI s.length [] s) s with
  | none =>
    rw [hI] at hE
    obtain rfl : (4 : Int) = E := hE
    repeat' (first | (exfalso; omega) | refine zA ?_ | refine zB ?_ | refine zC ?_ | refine zD ?_ | refine zE ?_ | refine zF ?_ | refine zG ?_ | refine zH ?_ | refine zI ?_ | refine zJ ?_ | refine zK rfl ?_ | refine zL ?_ | refine zM ?_ | refine zN ?_ | refine zO ?_ | refine zP rfl ?_ | refine zQ ?_ | ((first | refine zR ?_ | refine zS ?_ | refine zT ?_ | skip); intro K k; simp (disch := (first | (simp only [yD2, beq_self_eq_true, Nat.reduceLT, Nat.reduceAdd]; done) | ((fail_if_success (apply Bool.eq_iff_iff.2)); first | omega | (simp only [yD2, beq_self_eq_true, Nat.reduceLT, Nat.reduceAdd] <;> omega)) | fail)) only [↓yS, yT, ↓reduceIte, Nat.reduceEqDiff, Nat.reduceAdd, Nat.reduceMul, reduceCtorEq, Int.reduceToNat, g6]; refine yC (k _ _ ?_); clear k K) | ((first | refine zU ?_ | refine zV ?_ | refine zW ?_); intro A B C D a b c d; simp only [↓yG, Nat.reduceEqDiff, ↓reduceIte, g6]; (first | refine zX (a ?_) | refine zY (b ?_) | refine zZ (fun hc => c ?_) (fun hc => d ?_)) <;> clear a b c d A B C D <;> try simp only [yL] at hc) | (refine yA ?_; intro A a; simp only [↓yG, Nat.reduceEqDiff, ↓reduceIte, g6]; refine yB (a ?_); clear a A) | (refine yD ?_; simp only [gresults, ↓yG, Nat.reduceEqDiff, ↓reduceIte, Option.bind_some, gld_1, gld_n, g6]; refine ⟨_, rfl, ?_⟩; simp only [gone]))
    exact hPost _ _ rfl
  | some l =>
    rw [hI] at hE
    obtain rfl : (0 : Int) = E := hE
    obtain ⟨h1, h2, h3⟩ := resF_some hI
    simp only [Option.getD_some]
    rw [if_pos h1, h1, h2]
    have hqe := fun e => gb_eqlB (e := e) (a := s) (b := s)
    have hyt := eq_true (show s = s from rfl)
    repeat' (first | (exfalso; omega) | refine zA ?_ | refine zB ?_ | refine zC ?_ | refine zD ?_ | refine zE ?_ | refine zF ?_ | refine zG ?_ | refine zH ?_ | refine zI ?_ | refine zJ ?_ | refine zK rfl ?_ | refine zL ?_ | refine zM ?_ | refine zN ?_ | refine zO ?_ | refine zP rfl ?_ | refine zQ ?_ | ((first | refine zR ?_ | refine zS ?_ | refine zT ?_ | skip); intro K k; simp (disch := (first | (simp only [yD2, beq_self_eq_true, Nat.reduceLT, Nat.reduceAdd]; done) | ((fail_if_success (apply Bool.eq_iff_iff.2)); first | omega | (simp only [yD2, beq_self_eq_true, Nat.reduceLT, Nat.reduceAdd] <;> omega)) | fail)) only [↓yS, yT, ↓reduceIte, Nat.reduceEqDiff, Nat.reduceAdd, Nat.reduceMul, reduceCtorEq, Int.reduceToNat, g6, hqe, hyt, decide_true]; refine yC (k _ _ ?_); clear k K) | ((first | refine zU ?_ | refine zV ?_ | refine zW ?_); intro A B C D a b c d; simp only [↓yG, Nat.reduceEqDiff, ↓reduceIte, g6, hqe, hyt, decide_true]; (first | refine zX (a ?_) | refine zY (b ?_) | refine zZ (fun hc => c ?_) (fun hc => d ?_)) <;> clear a b c d A B C D <;> try simp only [yL] at hc) | (refine yA ?_; intro A a; simp only [↓yG, Nat.reduceEqDiff, ↓reduceIte, g6, hqe, hyt, decide_true]; refine yB (a ?_); clear a A) | (refine yD ?_; simp only [gresults, ↓yG, Nat.reduceEqDiff, ↓reduceIte, Option.bind_some, gld_1, gld_n, g6, hqe, hyt, decide_true]; refine ⟨_, rfl, ?_⟩; simp only [gone]))
    exact hPost _ _ rfl
theorem parses_law {H : GHeap} (hw : H.wf) {gvs : List Value} (h : RdAsQ (fun m => m ≤ 1048576) H [.str] gvs) : ∃ v H2, gev G 6 gvs H = some (v, H2) ∧ v = .bool true := by
  obtain ⟨_, _, rfl, h1, rfl⟩ := h
  obtain ⟨b, rfl, _, hb⟩ := h1.strQ_
  have := parses_ok hw (s := b.data.toList) (by have := strB_size b.data.toList; rw [strB_of] at this; omega)
  rw [strB_of] at this
  exact this
end Go.Gh
