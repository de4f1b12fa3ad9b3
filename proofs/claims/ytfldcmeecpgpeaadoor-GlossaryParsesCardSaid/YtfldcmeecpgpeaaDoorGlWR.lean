/-
  glossary's reference, walked: Parse.
-/
import Derived.Test.YtfldcmeecpgpeaaDoorGlWP
import Derived.Test.YtfldcmeecpgpeaaDoorGlWT
namespace Go.Gh
set_option linter.unusedSimpArgs false
set_option linter.unusedVariables false
open Go.RowKit Go.Lib
set_option maxRecDepth 4000
set_option maxHeartbeats 4000000 in
theorem rParse_ok {H : GHeap} (hw : H.wf) {src : List UInt8} (hl : src.length ≤ 140737488355328) : ∃ r H', gev G 18 [.string (strB src)] H = some (r, H') ∧ ParOut H H' r src := by
  refine gev_GW (f := 18) rfl fun Post hPost => ?_
  simp only [frameOf, Nat.reduceAdd]
  repeat' (first | (exfalso; omega) | refine zn ?_ | refine zK rfl ?_ | refine zP rfl ?_ | ((first | refine zm ?_ | skip); intro _; intros; simp (disch := first | exact zd | fail) only [↓yS, yT, ↓reduceIte, Nat.reduceEqDiff, Nat.reduceAdd, Nat.reduceMul, reduceCtorEq, Int.reduceToNat, g18]; first | (rename_i K k; refine yC (k _ _ ?_); clear k K) | (rename_i A B C D a b c d; (first | refine zX (a ?_) | refine zY (b ?_) | refine zZ (fun hc => c ?_) (fun hc => d ?_)) <;> clear a b c d A B C D <;> try simp only [yL] at hc)) | (refine yA ?_; intro A a; simp only [↓yG, Nat.reduceEqDiff, ↓reduceIte, g18]; refine yB (a ?_); clear a A) | (refine yD ?_; simp only [gresults, ↓yG, Nat.reduceEqDiff, ↓reduceIte, Option.bind_some, gld_1, gld_n, g18]; refine ⟨_, rfl, ?_⟩; simp only [gone]) | refine zA ?_ | refine zB ?_ | refine zF ?_)
  refine Gw_s fun K' hK' => G1_call (by simp only [gtarget, ↓GArg.ev, ↓evs, ↓Tr.get_set, Nat.reduceEqDiff, if_true, if_false, ↓reduceIte, Option.map_some]; rfl) (rSplit_ok hw hl) fun r1 H1 hq => hK' _ _ ?_
  obtain ⟨ov, dv0, L, rfl, hLO, hLm, hdg, hnil⟩ := hq
  have hS1 := hLO.own.same
  have hw1 := hS1.wf
  have hsl0 := hdg.rd.isSl
  by_cases hsp : splD src = []
  case neg =>
    have hpos := List.length_pos_iff.2 hsp
    have hD : parD src = splD src := if_pos hsp
    have hT : parT src = [] := if_neg (fun h => hsp h.1)
    repeat' (first | (exfalso; omega) | refine zn ?_ | refine zK rfl ?_ | refine zP rfl ?_ | ((first | refine zm ?_ | skip); intro _; intros; simp (disch := first | exact zd | fail) only [↓yS, yT, ↓reduceIte, Nat.reduceEqDiff, Nat.reduceAdd, Nat.reduceMul, reduceCtorEq, Int.reduceToNat, g18, hsl0.len]; first | (rename_i K k; refine yC (k _ _ ?_); clear k K) | (rename_i A B C D a b c d; (first | refine zX (a ?_) | refine zY (b ?_) | refine zZ (fun hc => c ?_) (fun hc => d ?_)) <;> clear a b c d A B C D <;> try simp only [yL] at hc)) | (refine yA ?_; intro A a; simp only [↓yG, Nat.reduceEqDiff, ↓reduceIte, g18, hsl0.len]; refine yB (a ?_); clear a A) | (refine yD ?_; simp only [gresults, ↓yG, Nat.reduceEqDiff, ↓reduceIte, Option.bind_some, gld_1, gld_n, g18, hsl0.len]; refine ⟨_, rfl, ?_⟩; simp only [gone]) | refine zA ?_ | refine zB ?_ | refine zF ?_)
    exact hPost _ _ ⟨.slice none 0 0, dv0, [], rfl, TR.nil hw1, by rw [hT]; rfl, by rw [hD]; exact hdg, hS1⟩
  have hd0 := hnil hsp
  subst hd0
  rw [hsp] at hsl0
  have hslL := hLO.own.rd.isSl
  have hsm := @splO_small src
  have hsn := @splO_len src
  have hMl : (splO src).length = L.length := by rw [← hLm, List.length_map]
  have hD : parD src = if dgM (splO src) (splO src).length ≠ [] then (dgM (splO src) (splO src).length).take 50
      else if chkF ((tmM (splO src) (splO src).length).map T0.tm) ≠ 0 then [⟨1, 1, chkF ((tmM (splO src) (splO src).length).map T0.tm)⟩] else [] := if_neg (fun h => h hsp)
  have hT : parT src = if dgM (splO src) (splO src).length = [] ∧ chkF ((tmM (splO src) (splO src).length).map T0.tm) = 0 then tmM (splO src) (splO src).length else [] := by
    unfold parT
    rw [hsp]; simp only [true_and]
  have hat : ∀ j, j < L.length → L[j]!.2 = (splO src)[j]! := fun j hj => by
    rw [← hLm, getElem!_pos L j hj, getElem!_pos (L.map (·.2)) j (by rw [List.length_map]; exact hj), List.getElem_map]
  generalize splO src = M at *
  rw [hMl] at hD hT hsn
  have h00 : glen false (.slice none 0 0) = some (.int .i64 0) := rfl
  repeat' (first | (exfalso; omega) | refine zn ?_ | refine zK rfl ?_ | refine zP rfl ?_ | ((first | refine zm ?_ | skip); intro _; intros; simp (disch := first | exact zd | fail) only [↓yS, yT, ↓reduceIte, Nat.reduceEqDiff, Nat.reduceAdd, Nat.reduceMul, reduceCtorEq, Int.reduceToNat, g18, h00, hslL.len]; first | (rename_i K k; refine yC (k _ _ ?_); clear k K) | (rename_i A B C D a b c d; (first | refine zX (a ?_) | refine zY (b ?_) | refine zZ (fun hc => c ?_) (fun hc => d ?_)) <;> clear a b c d A B C D <;> try simp only [yL] at hc)) | (refine yA ?_; intro A a; simp only [↓yG, Nat.reduceEqDiff, ↓reduceIte, g18, h00, hslL.len]; refine yB (a ?_); clear a A) | (refine yD ?_; simp only [gresults, ↓yG, Nat.reduceEqDiff, ↓reduceIte, Option.bind_some, gld_1, gld_n, g18, h00, hslL.len]; refine ⟨_, rfl, ?_⟩; simp only [gone]) | refine zA ?_ | refine zB ?_ | refine zF ?_)
  refine GW_loop (fun k fr H2 => ∃ (j : Nat) (tv dv : Value) (T : List Tm), k = L.length - j ∧ j ≤ L.length ∧ fr.get 5 = some (dv) ∧ fr.get 6 = some (tv) ∧ fr.get 22 = some (ov) ∧ fr.get 23 = some (.int .i64 L.length) ∧ fr.get 24 = some (.int .i64 j) ∧ TdI H1 H2 tv dv T (dgM M j) ∧ T.length ≤ j ∧ (dgM M j = [] → T.map Tm.t0 = tmM M j) ∧ ∀ x ∈ T, x.s.length ≤ 16777216 ∧ x.g.length ≤ 16777216 ∧ ∀ t ∈ x.g, t.length ≤ 16777216) ?_ L.length ?_
  rotate_left
  · refine ⟨0, .slice none 0 0, .slice none 0 0, [], by omega, by omega, ?_⟩
    simp only [↓yG, Nat.reduceEqDiff, ↓reduceIte, Int.natCast_add, Int.cast_ofNat_Int, Int.natCast_zero, true_and, and_true, Option.some.injEq, Value.int.injEq]
    exact ⟨⟨TOut.nil (Same.refl hw1), OS.nil (Same.refl hw1)⟩, by simp, fun _ => rfl, by simp⟩
  rintro k fr H2 ⟨j, tv, dv, T, rfl, hj, f5, f6, f22, f23, f24, hI, hTl, hTm, hTs⟩ J hJ
  have hS2 := hI.dg.same
  have hw2 := hS2.wf
  have hlim2 := hw2.1
  have hslD := hI.dg.rd.isSl
  by_cases hj1 : j < L.length
  case neg =>
    obtain rfl : j = L.length := by omega
    have hTR := hI.out.tr (by omega) hTs
    have hDlen := dgM_len M L.length
    by_cases hDn : dgM M L.length = []
    · have hTe := hTm hDn
      rw [if_neg (fun h => h hDn)] at hD
      have hce : chkF T = chkF ((tmM M L.length).map T0.tm) := chkF_t0 (by rw [t0_tm]; exact hTe)
      rw [← hce] at hD hT
      rw [hDn] at hslD
      repeat' (first | (exfalso; omega) | refine zn ?_ | refine zK rfl ?_ | refine zP rfl ?_ | ((first | refine zm ?_ | skip); intro _; intros; simp (disch := first | exact zd | fail) only [↓yS, yT, ↓reduceIte, Nat.reduceEqDiff, Nat.reduceAdd, Nat.reduceMul, reduceCtorEq, Int.reduceToNat, g18, f5, f6, f22, f23, f24, hslD.len, List.length_nil]; first | (rename_i K k; refine yC (k _ _ ?_); clear k K) | (rename_i A B C D a b c d; (first | refine zX (a ?_) | refine zY (b ?_) | refine zZ (fun hc => c ?_) (fun hc => d ?_)) <;> clear a b c d A B C D <;> try simp only [yL] at hc)) | (refine yA ?_; intro A a; simp only [↓yG, Nat.reduceEqDiff, ↓reduceIte, g18, f5, f6, f22, f23, f24, hslD.len, List.length_nil]; refine yB (a ?_); clear a A) | (refine yD ?_; simp only [gresults, ↓yG, Nat.reduceEqDiff, ↓reduceIte, Option.bind_some, gld_1, gld_n, g18, f5, f6, f22, f23, f24, hslD.len, List.length_nil]; refine ⟨_, rfl, ?_⟩; simp only [gone]) | refine zA ?_ | refine zB ?_ | refine zF ?_)
      refine Gw_s fun K' hK' => G1_call (by simp only [gtarget, ↓GArg.ev, ↓evs, ↓Tr.get_set, Nat.reduceEqDiff, if_true, if_false, ↓reduceIte, Option.map_some, f5, f6, f22, f23, f24]; rfl) (rCheck_ok hw2 hTR) fun r3 H3 hq => hK' _ _ ?_
      obtain ⟨rfl, hS3⟩ := hq
      have hS4 := hS1.trans (hS2.trans hS3)
      by_cases hc0 : chkF T = 0
      · rw [if_neg (fun h => h hc0)] at hD
        rw [if_pos ⟨hDn, hc0⟩] at hT
        have hz : ((chkF T : Nat) : Int) = 0 := by omega
        rw [hz]
        repeat' (first | (exfalso; omega) | refine zn ?_ | refine zK rfl ?_ | refine zP rfl ?_ | ((first | refine zm ?_ | skip); intro _; intros; simp (disch := first | exact zd | fail) only [↓yS, yT, ↓reduceIte, Nat.reduceEqDiff, Nat.reduceAdd, Nat.reduceMul, reduceCtorEq, Int.reduceToNat, g18, f5, f6, f22, f23, f24]; first | (rename_i K k; refine yC (k _ _ ?_); clear k K) | (rename_i A B C D a b c d; (first | refine zX (a ?_) | refine zY (b ?_) | refine zZ (fun hc => c ?_) (fun hc => d ?_)) <;> clear a b c d A B C D <;> try simp only [yL] at hc)) | (refine yA ?_; intro A a; simp only [↓yG, Nat.reduceEqDiff, ↓reduceIte, g18, f5, f6, f22, f23, f24]; refine yB (a ?_); clear a A) | (refine yD ?_; simp only [gresults, ↓yG, Nat.reduceEqDiff, ↓reduceIte, Option.bind_some, gld_1, gld_n, g18, f5, f6, f22, f23, f24]; refine ⟨_, rfl, ?_⟩; simp only [gone]) | refine zA ?_ | refine zB ?_ | refine zF ?_)
        exact hPost _ _ ⟨tv, .slice none 0 0, T, rfl, hTR.later hw2 hS3, by rw [hT]; exact hTe, by rw [hD]; exact (OS.nil (s := 3) (u := 3) (Same.refl hS3.wf)).arg, hS4⟩
      · rw [if_pos hc0] at hD
        rw [if_neg (fun h => hc0 h.2)] at hT
        have hz : ¬ ((chkF T : Nat) : Int) = 0 := by omega
        generalize chkF T = e at *
        have hOe := OS.made' (s := 3) (u := 3) (n := 1) (cs := dgC ⟨1, 1, e⟩) (Same.refl hS3.wf) rfl
        repeat' (first | (exfalso; omega) | refine zn ?_ | refine zK rfl ?_ | refine zP rfl ?_ | ((first | refine zm ?_ | skip); intro _; intros; simp (disch := first | exact zd | fail) only [↓yS, yT, ↓reduceIte, Nat.reduceEqDiff, Nat.reduceAdd, Nat.reduceMul, reduceCtorEq, Int.reduceToNat, g18, f5, f6, f22, f23, f24]; first | (rename_i K k; refine yC (k _ _ ?_); clear k K) | (rename_i A B C D a b c d; (first | refine zX (a ?_) | refine zY (b ?_) | refine zZ (fun hc => c ?_) (fun hc => d ?_)) <;> clear a b c d A B C D <;> try simp only [yL] at hc)) | (refine yA ?_; intro A a; simp only [↓yG, Nat.reduceEqDiff, ↓reduceIte, g18, f5, f6, f22, f23, f24]; refine yB (a ?_); clear a A) | (refine yD ?_; simp only [gresults, ↓yG, Nat.reduceEqDiff, ↓reduceIte, Option.bind_some, gld_1, gld_n, g18, f5, f6, f22, f23, f24]; refine ⟨_, rfl, ?_⟩; simp only [gone]) | refine zA ?_ | refine zB ?_ | refine zF ?_)
        exact hPost _ _ ⟨.slice none 0 0, _, [], rfl, TR.nil hOe.same.wf, by rw [hT]; rfl, by rw [hD]; exact hOe.arg, hS4.trans hOe.same⟩
    · rw [if_pos hDn] at hD
      rw [if_neg (fun h => hDn h.1)] at hT
      have hpos := List.length_pos_iff.2 hDn
      have hle50 : min (dgM M L.length).length 50 ≤ (dgM M L.length).length := Nat.min_le_left _ _
      obtain ⟨v', hv', hg'⟩ := DgR.pre hw2 hI.dg.arg hle50
      have hv2 := hv' _ (Same.refl hw2)
      have htk : (dgM M L.length).take (min (dgM M L.length).length 50) = (dgM M L.length).take 50 := by
        rcases Nat.le_total (dgM M L.length).length 50 with h | h
        · rw [Nat.min_eq_left h, List.take_of_length_le (Nat.le_refl _), List.take_of_length_le h]
        · rw [Nat.min_eq_right h]
      rw [htk] at hg'
      have hmin : ((min (dgM M L.length).length 50 : Nat) : Int) = min ((dgM M L.length).length : Int) 50 := by omega
      rw [hmin] at hv2
      repeat' (first | (exfalso; omega) | refine zn ?_ | refine zK rfl ?_ | refine zP rfl ?_ | ((first | refine zm ?_ | skip); intro _; intros; simp (disch := first | exact zd | fail) only [↓yS, yT, ↓reduceIte, Nat.reduceEqDiff, Nat.reduceAdd, Nat.reduceMul, reduceCtorEq, Int.reduceToNat, g18, f5, f6, f22, f23, f24, hslD.len, hv2]; first | (rename_i K k; refine yC (k _ _ ?_); clear k K) | (rename_i A B C D a b c d; (first | refine zX (a ?_) | refine zY (b ?_) | refine zZ (fun hc => c ?_) (fun hc => d ?_)) <;> clear a b c d A B C D <;> try simp only [yL] at hc)) | (refine yA ?_; intro A a; simp only [↓yG, Nat.reduceEqDiff, ↓reduceIte, g18, f5, f6, f22, f23, f24, hslD.len, hv2]; refine yB (a ?_); clear a A) | (refine yD ?_; simp only [gresults, ↓yG, Nat.reduceEqDiff, ↓reduceIte, Option.bind_some, gld_1, gld_n, g18, f5, f6, f22, f23, f24, hslD.len, hv2]; refine ⟨_, rfl, ?_⟩; simp only [gone]) | refine zA ?_ | refine zB ?_ | refine zF ?_)
      exact hPost _ _ ⟨.slice none 0 0, v', [], rfl, TR.nil hw2, by rw [hT]; rfl, by rw [hD]; exact hg', hS1.trans hS2⟩
  have hxm : L[j]! ∈ L := bang_mem hj1
  have hlj := hat j hj1
  have hdS := dgM_succ M j
  have htS := tmM_succ M j
  have hMm : M[j]! ∈ M := bang_mem (by omega)
  obtain ⟨hs1, hs2, hs3, hs4⟩ := hsm _ hMm
  have hrow := (hLO.rows _ hxm).1
  have e1 : H2.rdn (blk ov) (ofs ov + j * 2) 2 = some (.agg (lnC L[j]!).toArray) := GRd.rowN (f := lnC) ((hLO.own.arg.rd).same hS2) lnC_len (by decide) hj1
  unfold lnC at e1
  rw [hlj] at e1 hrow
  generalize hwv : L[j]!.1 = wv at *
  have hff := hrow.flat
  have hu2 := hrow.u3.same hw1 hS2
  have hgl : (M[j]!).f.length ≠ 0 := fun e => hs2 (List.eq_nil_of_length_eq_zero e)
  have hfr : FRd H2 wv (M[j]!).f := GArg1.same hrow.arg hw1 hS2
  generalize M[j]! = ln at *
  have hslw := hfr.rd.isSl
  have er0 := FRd.row hfr (k := 0) (c := 0) (by omega) (by decide)
  have er1 := FRd.row hfr (k := 0) (c := 1) (by omega) (by decide)
  have er2 := FRd.row hfr (k := 0) (c := 2) (by omega) (by decide)
  have hDl := dgM_len M j
  have hlv := gsetn_all (cs := [.int .i64 0, .slice none 0 0]) (n := 2) (vs := #[.int .i64 (ln.n : Int), wv]) rfl rfl (by
    show ([.int .i64 ln.n, wv] : List Value).all flatV = true
    simp only [List.all_cons, List.all_nil, hff]; rfl)
  rw [Nat.zero_mul, Nat.add_zero] at er0 er1 er2
  have hwlt : blk wv < H2.len := hfr.rd.lt (by omega)
  generalize hf0 : ln.f[0]! = f0 at *
  have fd0 : (fdC f0)[0]? = some (.string (strB f0.t)) := rfl
  have fd1 : (fdC f0)[1]? = some (.int .i64 f0.c) := rfl
  have fd2 : (fdC f0)[2]? = some (.bool f0.q) := rfl
  rw [fd0] at er0
  rw [fd1] at er1
  rw [fd2] at er2
  have hTm' : ∀ e, gbin .neq e (.string (strB f0.t)) (.string ⟨#[84, 69, 82, 77]⟩) = some (.bool (decide (¬ f0.t = [84, 69, 82, 77]))) := fun e => gb_neqB (b := [84, 69, 82, 77])
  have hSA : Same H2 ((H2.add (some (.cells [.int .i64 0, .slice none 0 0] 0 true))).put H2.len (.cells [.int .i64 ln.n, wv] 0 true)) := (Same.refl hw2).new _ _
  have hlA : ((H2.add (some (.cells [.int .i64 0, .slice none 0 0] 0 true))).put H2.len (.cells [.int .i64 ln.n, wv] 0 true)).len = H2.len + 1 := by simp only [len_put, len_add]
  have hrA : ((H2.add (some (.cells [.int .i64 0, .slice none 0 0] 0 true))).put H2.len (.cells [.int .i64 ln.n, wv] 0 true)).rdn H2.len 0 2 = some (.agg #[.int .i64 ln.n, wv]) := rdn_put_all rfl
  have hfin : ∀ (tv' dv' : Value) (T' : List Tm) fr H9, fr.get 5 = some dv' → fr.get 6 = some tv' → fr.get 22 = some ov → fr.get 23 = some (.int .i64 L.length) → fr.get 24 = some (.int .i64 ((j : Int) + 1)) → TdI H1 H9 tv' dv' T' (dgM M (j + 1)) → T'.length ≤ j + 1 → (dgM M (j + 1) = [] → T'.map Tm.t0 = tmM M (j + 1)) → (∀ x ∈ T', x.s.length ≤ 16777216 ∧ x.g.length ≤ 16777216 ∧ ∀ t ∈ x.g, t.length ≤ 16777216) → J fr H9 := fun tv' dv' T' fr H9 a1 a2 a3 a4 a5 a6 a7 a8 a9 => hJ _ _ ⟨L.length - (j + 1), by omega, j + 1, tv', dv', T', rfl, by omega, a1, a2, a3, a4, by rw [a5]; rfl, a6, a7, a8, a9⟩
  clear hJ
  by_cases hiT : isT f0 = true
  case neg =>
    have hle : lnErr ln = some f0.c := by unfold lnErr; rw [hf0, if_neg hiT]
    rw [hle] at hdS
    have hnb : f0.q = true ∨ (f0.q = false ∧ ¬ f0.t = [84, 69, 82, 77]) := by
      cases hq : f0.q with
      | true => exact .inl rfl
      | false => exact .inr ⟨rfl, fun e => hiT (by unfold isT; rw [hq, e]; decide)⟩
    rcases hnb with hb | ⟨hb, hb2⟩
    all_goals
      first | (have hb3 := eq_false hb2) | (have hb3 : True := trivial)
      have er2' := er2
      rw [hb] at er2'
      repeat' (first | (exfalso; omega) | refine zn ?_ | refine zK rfl ?_ | refine zP rfl ?_ | ((first | refine zm ?_ | skip); intro _; intros; simp (disch := first | exact zd | fail) only [↓yS, yT, ↓reduceIte, Nat.reduceEqDiff, Nat.reduceAdd, Nat.reduceMul, reduceCtorEq, Int.reduceToNat, g18, f5, f6, f22, f23, f24, hslL.ia, e1, hlv, hslw.ia, er0, er1, er2', hTm', hb3, not_false_eq_true, decide_true]; first | (rename_i K k; refine yC (k _ _ ?_); clear k K) | (rename_i A B C D a b c d; (first | refine zX (a ?_) | refine zY (b ?_) | refine zZ (fun hc => c ?_) (fun hc => d ?_)) <;> clear a b c d A B C D <;> try simp only [yL] at hc)) | (refine yA ?_; intro A a; simp only [↓yG, Nat.reduceEqDiff, ↓reduceIte, g18, f5, f6, f22, f23, f24, hslL.ia, e1, hlv, hslw.ia, er0, er1, er2', hTm', hb3, not_false_eq_true, decide_true]; refine yB (a ?_); clear a A) | (refine yD ?_; simp only [gresults, ↓yG, Nat.reduceEqDiff, ↓reduceIte, Option.bind_some, gld_1, gld_n, g18, f5, f6, f22, f23, f24, hslL.ia, e1, hlv, hslw.ia, er0, er1, er2', hTm', hb3, not_false_eq_true, decide_true]; refine ⟨_, rfl, ?_⟩; simp only [gone]) | refine zA ?_ | refine zB ?_ | refine zF ?_)
      rw [dg_cells (a := ln.n) (b := f0.c) (c := 4) (A := (ln.n : Int)) (B := (f0.c : Int)) (C := 4) rfl rfl rfl]
      generalize ((H2.add (some (.cells [.int .i64 0, .slice none 0 0] 0 true))).put H2.len (.cells [.int .i64 ln.n, wv] 0 true)) = HA at *
      have hIA := hI.later hSA
      obtain ⟨v2, H4, e, hI4⟩ := hIA.addD ⟨ln.n, f0.c, 4⟩ (by omega)
      rw [hlA] at e
      refine Gw_s fun K' hK' => ?_
      simp (disch := first | exact zd | fail) only [↓yS, yT, ↓reduceIte, Nat.reduceEqDiff, Nat.reduceAdd, Nat.reduceMul, reduceCtorEq, Int.reduceToNat, f5, f6, f22, f23, f24]
      refine G1_eq e (hK' _ _ ?_)
      clear hK' K' e
      repeat' (first | (exfalso; omega) | refine zn ?_ | refine zK rfl ?_ | refine zP rfl ?_ | ((first | refine zm ?_ | skip); intro _; intros; simp (disch := first | exact zd | fail) only [↓yS, yT, ↓reduceIte, Nat.reduceEqDiff, Nat.reduceAdd, Nat.reduceMul, reduceCtorEq, Int.reduceToNat, g18, f5, f6, f22, f23, f24]; first | (rename_i K k; refine yC (k _ _ ?_); clear k K) | (rename_i A B C D a b c d; (first | refine zX (a ?_) | refine zY (b ?_) | refine zZ (fun hc => c ?_) (fun hc => d ?_)) <;> clear a b c d A B C D <;> try simp only [yL] at hc)) | (refine yA ?_; intro A a; simp only [↓yG, Nat.reduceEqDiff, ↓reduceIte, g18, f5, f6, f22, f23, f24]; refine yB (a ?_); clear a A) | (refine yD ?_; simp only [gresults, ↓yG, Nat.reduceEqDiff, ↓reduceIte, Option.bind_some, gld_1, gld_n, g18, f5, f6, f22, f23, f24]; refine ⟨_, rfl, ?_⟩; simp only [gone]) | refine zA ?_ | refine zB ?_ | refine zF ?_)
      refine hfin tv v2 T _ _ ?_ ?_ ?_ ?_ ?_ (by rw [hdS]; exact hI4) (by omega) (fun e => by rw [hdS] at e; simp at e) hTs
      all_goals (simp only [↓yG, Nat.reduceEqDiff, ↓reduceIte, Int.natCast_add, Int.cast_ofNat_Int, Int.natCast_zero, true_and, and_true, Option.some.injEq, Value.int.injEq, f5, f6, f22, f23, f24])
  have hb : f0.q = false := by
    unfold isT at hiT
    simp only [Bool.and_eq_true, Bool.not_eq_true', decide_eq_true_eq] at hiT
    exact hiT.1
  have hb2 : f0.t = [84, 69, 82, 77] := by
    unfold isT at hiT
    simp only [Bool.and_eq_true, Bool.not_eq_true', decide_eq_true_eq] at hiT
    exact hiT.2
  have hb3 := eq_true hb2
  have er2' := er2
  rw [hb] at er2'
  repeat' (first | (exfalso; omega) | refine zn ?_ | refine zK rfl ?_ | refine zP rfl ?_ | ((first | refine zm ?_ | skip); intro _; intros; simp (disch := first | exact zd | fail) only [↓yS, yT, ↓reduceIte, Nat.reduceEqDiff, Nat.reduceAdd, Nat.reduceMul, reduceCtorEq, Int.reduceToNat, g18, f5, f6, f22, f23, f24, hslL.ia, e1, hlv, hslw.ia, er0, er1, er2', hTm', hb3, not_true_eq_false, decide_false, hrA]; first | (rename_i K k; refine yC (k _ _ ?_); clear k K) | (rename_i A B C D a b c d; (first | refine zX (a ?_) | refine zY (b ?_) | refine zZ (fun hc => c ?_) (fun hc => d ?_)) <;> clear a b c d A B C D <;> try simp only [yL] at hc)) | (refine yA ?_; intro A a; simp only [↓yG, Nat.reduceEqDiff, ↓reduceIte, g18, f5, f6, f22, f23, f24, hslL.ia, e1, hlv, hslw.ia, er0, er1, er2', hTm', hb3, not_true_eq_false, decide_false, hrA]; refine yB (a ?_); clear a A) | (refine yD ?_; simp only [gresults, ↓yG, Nat.reduceEqDiff, ↓reduceIte, Option.bind_some, gld_1, gld_n, g18, f5, f6, f22, f23, f24, hslL.ia, e1, hlv, hslw.ia, er0, er1, er2', hTm', hb3, not_true_eq_false, decide_false, hrA]; refine ⟨_, rfl, ?_⟩; simp only [gone]) | refine zA ?_ | refine zB ?_ | refine zF ?_)
  generalize ((H2.add (some (.cells [.int .i64 0, .slice none 0 0] 0 true))).put H2.len (.cells [.int .i64 ln.n, wv] 0 true)) = HA at *
  have hwA := hSA.wf
  have hfA := GArg1.same hfr hw2 hSA
  refine Gw_s fun K' hK' => G1_call (by simp only [gtarget, ↓GArg.ev, ↓evs, ↓Tr.get_set, Nat.reduceEqDiff, if_true, if_false, ↓reduceIte, Option.map_some, f5, f6, f22, f23, f24]; rfl) (rScan_ok hwA (n := ln.n) hfA (hu2.same hw2 hSA) (by have := hs1.1; omega)) fun r3 H3 hq => hK' _ _ ?_
  obtain ⟨sc, rfl, hsc, hSs, hlsc⟩ := hq
  have hS3 := hSA.trans hSs
  repeat' (first | (exfalso; omega) | refine zn ?_ | refine zK rfl ?_ | refine zP rfl ?_ | ((first | refine zm ?_ | skip); intro _; intros; simp (disch := first | exact zd | fail) only [↓yS, yT, ↓reduceIte, Nat.reduceEqDiff, Nat.reduceAdd, Nat.reduceMul, reduceCtorEq, Int.reduceToNat, g18, f5, f6, f22, f23, f24]; first | (rename_i K k; refine yC (k _ _ ?_); clear k K) | (rename_i A B C D a b c d; (first | refine zX (a ?_) | refine zY (b ?_) | refine zZ (fun hc => c ?_) (fun hc => d ?_)) <;> clear a b c d A B C D <;> try simp only [yL] at hc)) | (refine yA ?_; intro A a; simp only [↓yG, Nat.reduceEqDiff, ↓reduceIte, g18, f5, f6, f22, f23, f24]; refine yB (a ?_); clear a A) | (refine yD ?_; simp only [gresults, ↓yG, Nat.reduceEqDiff, ↓reduceIte, Option.bind_some, gld_1, gld_n, g18, f5, f6, f22, f23, f24]; refine ⟨_, rfl, ?_⟩; simp only [gone]) | refine zA ?_ | refine zB ?_ | refine zF ?_)
  refine Gw_s fun K' hK' => G1_call (by simp only [gtarget, ↓GArg.ev, ↓evs, ↓Tr.get_set, Nat.reduceEqDiff, if_true, if_false, ↓reduceIte, Option.map_some, f5, f6, f22, f23, f24]; rfl) (rword_take hS3.wf hsc) fun r4 H4 hq => hK' _ _ ?_
  obtain ⟨rfl, hsc4, hB4⟩ := hq
  have htk0 : tkF ln.f false 0 none = (f0.t, true, 1, none) := by
    simp only [tkF]
    rw [if_pos (by omega), hf0, if_pos hb]
  rw [htk0] at hsc4
  dsimp only at hsc4
  have hS4 := hB4.same hS3 (fun k hk e => by omega)
  repeat' (first | (exfalso; omega) | refine zn ?_ | refine zK rfl ?_ | refine zP rfl ?_ | ((first | refine zm ?_ | skip); intro _; intros; simp (disch := first | exact zd | fail) only [↓yS, yT, ↓reduceIte, Nat.reduceEqDiff, Nat.reduceAdd, Nat.reduceMul, reduceCtorEq, Int.reduceToNat, g18, f5, f6, f22, f23, f24]; first | (rename_i K k; refine yC (k _ _ ?_); clear k K) | (rename_i A B C D a b c d; (first | refine zX (a ?_) | refine zY (b ?_) | refine zZ (fun hc => c ?_) (fun hc => d ?_)) <;> clear a b c d A B C D <;> try simp only [yL] at hc)) | (refine yA ?_; intro A a; simp only [↓yG, Nat.reduceEqDiff, ↓reduceIte, g18, f5, f6, f22, f23, f24]; refine yB (a ?_); clear a A) | (refine yD ?_; simp only [gresults, ↓yG, Nat.reduceEqDiff, ↓reduceIte, Option.bind_some, gld_1, gld_n, g18, f5, f6, f22, f23, f24]; refine ⟨_, rfl, ?_⟩; simp only [gone]) | refine zA ?_ | refine zB ?_ | refine zF ?_)
  refine Gw_s fun K' hK' => G1_call (by simp only [gtarget, ↓GArg.ev, ↓evs, ↓Tr.get_set, Nat.reduceEqDiff, if_true, if_false, ↓reduceIte, Option.map_some, f5, f6, f22, f23, f24]; rfl) (rTake_ok hS4 hsc4 (by omega) hs1 (by omega)) fun r5 H5 hq => hK' _ _ ?_
  obtain ⟨t1, g, gv, k, e, rfl, hO5, hsc5, hPI7, hke⟩ := hq
  have hw5 := hO5.same.wf
  have hft := fill_tmv (t := t1) hO5.flat
  have hI5 := hI.later hO5.same
  obtain ⟨hsm1, hsm2, hsm3⟩ := hPI7.sm
  repeat' (first | (exfalso; omega) | refine zn ?_ | refine zK rfl ?_ | refine zP rfl ?_ | ((first | refine zm ?_ | skip); intro _; intros; simp (disch := first | exact zd | fail) only [↓yS, yT, ↓reduceIte, Nat.reduceEqDiff, Nat.reduceAdd, Nat.reduceMul, reduceCtorEq, Int.reduceToNat, g18, f5, f6, f22, f23, f24, hft]; first | (rename_i K k; refine yC (k _ _ ?_); clear k K) | (rename_i A B C D a b c d; (first | refine zX (a ?_) | refine zY (b ?_) | refine zZ (fun hc => c ?_) (fun hc => d ?_)) <;> clear a b c d A B C D <;> try simp only [yL] at hc)) | (refine yA ?_; intro A a; simp only [↓yG, Nat.reduceEqDiff, ↓reduceIte, g18, f5, f6, f22, f23, f24, hft]; refine yB (a ?_); clear a A) | (refine yD ?_; simp only [gresults, ↓yG, Nat.reduceEqDiff, ↓reduceIte, Option.bind_some, gld_1, gld_n, g18, f5, f6, f22, f23, f24, hft]; refine ⟨_, rfl, ?_⟩; simp only [gone]) | refine zA ?_ | refine zB ?_ | refine zF ?_)
  obtain ⟨v6, H6, e6, hI6, hB6⟩ := hI5.addT (x := ⟨t1, gv, g⟩) (hO5.weaken hS2) (by omega)
  refine Gw_s fun K' hK' => ?_
  simp (disch := first | exact zd | fail) only [↓yS, yT, ↓reduceIte, Nat.reduceEqDiff, Nat.reduceAdd, Nat.reduceMul, reduceCtorEq, Int.reduceToNat, f5, f6, f22, f23, f24]
  refine G1_eq e6 (hK' _ _ ?_)
  clear hK' K' e6
  have hsc6 : RcAt H6 sc ln.n ln.f k e := by
    obtain ⟨cs9, hmw⟩ := hsc5.mine
    exact hsc5.but hw5 hB6 (unit_no hI5.out.own hmw (by decide)) fun a cs hm => unit_no hI5.out.own hm (by decide)
  have hw6 := hI6.dg.same.wf
  repeat' (first | (exfalso; omega) | refine zn ?_ | refine zK rfl ?_ | refine zP rfl ?_ | ((first | refine zm ?_ | skip); intro _; intros; simp (disch := first | exact zd | fail) only [↓yS, yT, ↓reduceIte, Nat.reduceEqDiff, Nat.reduceAdd, Nat.reduceMul, reduceCtorEq, Int.reduceToNat, g18, f5, f6, f22, f23, f24]; first | (rename_i K k; refine yC (k _ _ ?_); clear k K) | (rename_i A B C D a b c d; (first | refine zX (a ?_) | refine zY (b ?_) | refine zZ (fun hc => c ?_) (fun hc => d ?_)) <;> clear a b c d A B C D <;> try simp only [yL] at hc)) | (refine yA ?_; intro A a; simp only [↓yG, Nat.reduceEqDiff, ↓reduceIte, g18, f5, f6, f22, f23, f24]; refine yB (a ?_); clear a A) | (refine yD ?_; simp only [gresults, ↓yG, Nat.reduceEqDiff, ↓reduceIte, Option.bind_some, gld_1, gld_n, g18, f5, f6, f22, f23, f24]; refine ⟨_, rfl, ?_⟩; simp only [gone]) | refine zA ?_ | refine zB ?_ | refine zF ?_)
  refine Gw_s fun K' hK' => G1_call (by simp only [gtarget, ↓GArg.ev, ↓evs, ↓Tr.get_set, Nat.reduceEqDiff, if_true, if_false, ↓reduceIte, Option.map_some, f5, f6, f22, f23, f24]; rfl) (rend_ok hw6 hsc6 hke) fun r9 H9 hq9 => hK' _ _ ?_
  obtain ⟨hr9, hS9⟩ := hq9
  obtain ⟨dd, bb, hr9e, hdd⟩ : ∃ (dd : Dg) (bb : Bool), r9 = .tuple #[dgV dd, .bool bb] ∧ ((bb = true ∧ ∃ c, e = some c ∧ dd = ⟨ln.n, c, 4⟩) ∨ (bb = false ∧ e = none)) := by
    cases e with
    | none => exact ⟨⟨0, 0, 0⟩, false, hr9, .inr ⟨rfl, rfl⟩⟩
    | some c => exact ⟨_, true, hr9, .inl ⟨rfl, _, rfl, rfl⟩⟩
  subst hr9e
  clear hr9
  have hw9 := hS9.wf
  have hgd : gsetn [.int .i64 0, .int .i64 0, .int .i64 0] 0 3 (dgV dd) = some (dgC dd) := gsetn_all rfl rfl (by
    show ([.int .i64 dd.l, .int .i64 dd.c, .int .i64 dd.e] : List Value).all flatV = true
    simp [flatV])
  have hlim9 := hw9.1
  have hSd : Same H6 ((H9.add (some (.cells [.int .i64 0, .int .i64 0, .int .i64 0] 0 true))).put H9.len (.cells (dgC dd) 0 true)) := hS9.new _ _
  have hrD : ((H9.add (some (.cells [.int .i64 0, .int .i64 0, .int .i64 0] 0 true))).put H9.len (.cells (dgC dd) 0 true)).rdn H9.len 0 3 = some (.agg #[.int .i64 dd.l, .int .i64 dd.c, .int .i64 dd.e]) := rdn_put_all rfl
  have hTs' : ∀ x ∈ T ++ [(⟨t1, gv, g⟩ : Tm)], x.s.length ≤ 16777216 ∧ x.g.length ≤ 16777216 ∧ ∀ t ∈ x.g, t.length ≤ 16777216 := fun x hx => by
    rcases List.mem_append.1 hx with hx | hx
    · exact hTs x hx
    · rw [List.mem_singleton.1 hx]; exact ⟨hsm1, hsm2, hsm3⟩
  have hle : lnErr ln = errQ 2 (ln.f.drop 1) := by unfold lnErr; rw [hf0, if_pos hiT]
  rw [hle] at hdS
  have hI9 := hI6.later hSd
  rcases hdd with ⟨rfl, c, rfl, rfl⟩ | ⟨rfl, rfl⟩
  · rw [hPI7.bad] at hdS
    have hlD : ((H9.add (some (.cells [.int .i64 0, .int .i64 0, .int .i64 0] 0 true))).put H9.len (.cells (dgC ⟨ln.n, c, 4⟩) 0 true)).len = H9.len + 1 := by simp only [len_put, len_add]
    have hrD' : ((H9.add (some (.cells [.int .i64 0, .int .i64 0, .int .i64 0] 0 true))).put H9.len (.cells (dgC ⟨ln.n, c, 4⟩) 0 true)).rdn H9.len 0 3 = some (.agg #[.int .i64 (ln.n : Int), .int .i64 (c : Int), .int .i64 4]) := hrD
    repeat' (first | (exfalso; omega) | refine zn ?_ | refine zK rfl ?_ | refine zP rfl ?_ | ((first | refine zm ?_ | skip); intro _; intros; simp (disch := first | exact zd | fail) only [↓yS, yT, ↓reduceIte, Nat.reduceEqDiff, Nat.reduceAdd, Nat.reduceMul, reduceCtorEq, Int.reduceToNat, g18, f5, f6, f22, f23, f24, hgd, hrD']; first | (rename_i K k; refine yC (k _ _ ?_); clear k K) | (rename_i A B C D a b c d; (first | refine zX (a ?_) | refine zY (b ?_) | refine zZ (fun hc => c ?_) (fun hc => d ?_)) <;> clear a b c d A B C D <;> try simp only [yL] at hc)) | (refine yA ?_; intro A a; simp only [↓yG, Nat.reduceEqDiff, ↓reduceIte, g18, f5, f6, f22, f23, f24, hgd, hrD']; refine yB (a ?_); clear a A) | (refine yD ?_; simp only [gresults, ↓yG, Nat.reduceEqDiff, ↓reduceIte, Option.bind_some, gld_1, gld_n, g18, f5, f6, f22, f23, f24, hgd, hrD']; refine ⟨_, rfl, ?_⟩; simp only [gone]) | refine zA ?_ | refine zB ?_ | refine zF ?_)
    rw [dg_cells (a := ln.n) (b := c) (c := 4) (A := (ln.n : Int)) (B := (c : Int)) (C := 4) rfl rfl rfl]
    generalize ((H9.add (some (.cells [.int .i64 0, .int .i64 0, .int .i64 0] 0 true))).put H9.len (.cells (dgC ⟨ln.n, c, 4⟩) 0 true)) = HD at *
    obtain ⟨v2, H4, e, hI4⟩ := hI9.addD ⟨ln.n, c, 4⟩ (by omega)
    rw [hlD] at e
    refine Gw_s fun K' hK' => ?_
    simp (disch := first | exact zd | fail) only [↓yS, yT, ↓reduceIte, Nat.reduceEqDiff, Nat.reduceAdd, Nat.reduceMul, reduceCtorEq, Int.reduceToNat, f5, f6, f22, f23, f24]
    refine G1_eq e (hK' _ _ ?_)
    clear hK' K' e
    repeat' (first | (exfalso; omega) | refine zn ?_ | refine zK rfl ?_ | refine zP rfl ?_ | ((first | refine zm ?_ | skip); intro _; intros; simp (disch := first | exact zd | fail) only [↓yS, yT, ↓reduceIte, Nat.reduceEqDiff, Nat.reduceAdd, Nat.reduceMul, reduceCtorEq, Int.reduceToNat, g18, f5, f6, f22, f23, f24]; first | (rename_i K k; refine yC (k _ _ ?_); clear k K) | (rename_i A B C D a b c d; (first | refine zX (a ?_) | refine zY (b ?_) | refine zZ (fun hc => c ?_) (fun hc => d ?_)) <;> clear a b c d A B C D <;> try simp only [yL] at hc)) | (refine yA ?_; intro A a; simp only [↓yG, Nat.reduceEqDiff, ↓reduceIte, g18, f5, f6, f22, f23, f24]; refine yB (a ?_); clear a A) | (refine yD ?_; simp only [gresults, ↓yG, Nat.reduceEqDiff, ↓reduceIte, Option.bind_some, gld_1, gld_n, g18, f5, f6, f22, f23, f24]; refine ⟨_, rfl, ?_⟩; simp only [gone]) | refine zA ?_ | refine zB ?_ | refine zF ?_)
    refine hfin v6 v2 _ _ _ ?_ ?_ ?_ ?_ ?_ (by rw [hdS]; exact hI4) (by simp; omega) (fun e => by rw [hdS] at e; simp at e) hTs'
    all_goals (simp only [↓yG, Nat.reduceEqDiff, ↓reduceIte, Int.natCast_add, Int.cast_ofNat_Int, Int.natCast_zero, true_and, and_true, Option.some.injEq, Value.int.injEq, f5, f6, f22, f23, f24])
  · obtain rfl := hke rfl
    obtain ⟨hz1, hz2, hz3⟩ := hPI7.done
    rw [hz1] at hdS
    simp only [List.append_nil] at hdS
    repeat' (first | (exfalso; omega) | refine zn ?_ | refine zK rfl ?_ | refine zP rfl ?_ | ((first | refine zm ?_ | skip); intro _; intros; simp (disch := first | exact zd | fail) only [↓yS, yT, ↓reduceIte, Nat.reduceEqDiff, Nat.reduceAdd, Nat.reduceMul, reduceCtorEq, Int.reduceToNat, g18, f5, f6, f22, f23, f24, hgd]; first | (rename_i K k; refine yC (k _ _ ?_); clear k K) | (rename_i A B C D a b c d; (first | refine zX (a ?_) | refine zY (b ?_) | refine zZ (fun hc => c ?_) (fun hc => d ?_)) <;> clear a b c d A B C D <;> try simp only [yL] at hc)) | (refine yA ?_; intro A a; simp only [↓yG, Nat.reduceEqDiff, ↓reduceIte, g18, f5, f6, f22, f23, f24, hgd]; refine yB (a ?_); clear a A) | (refine yD ?_; simp only [gresults, ↓yG, Nat.reduceEqDiff, ↓reduceIte, Option.bind_some, gld_1, gld_n, g18, f5, f6, f22, f23, f24, hgd]; refine ⟨_, rfl, ?_⟩; simp only [gone]) | refine zA ?_ | refine zB ?_ | refine zF ?_)
    refine hfin v6 dv _ _ _ ?_ ?_ ?_ ?_ ?_ (by rw [hdS]; exact hI9) (by simp; omega) (fun e => ?_) hTs'
    rotate_right
    · rw [hdS] at e
      rw [List.map_append, hTm e, htS]
      simp [Tm.t0, lnT, hz2, hz3]
    all_goals (simp only [↓yG, Nat.reduceEqDiff, ↓reduceIte, Int.natCast_add, Int.cast_ofNat_Int, Int.natCast_zero, true_and, and_true, Option.some.injEq, Value.int.injEq, f5, f6, f22, f23, f24])
end Go.Gh
