/-
  document, walked: its comments; Check.
-/
import Derived.Test.YtjjcgaompnjbdaaDoorTrW8
namespace Go.Gh
set_option linter.unusedSimpArgs false
set_option linter.unusedVariables false
set_option maxHeartbeats 4000000
open Go.RowKit
set_option maxRecDepth 4000

theorem comments_ok {H : GHeap} (hw : H.wf) {d : Dc} (hd : DcR H d) (hs : SmD d) {m : Nat} {L : List (Int × Int)} (hm : H.dct m = some (dic L)) (hml : m < H.len) (hL : MapIs d.E d.E.length L) :
    ∃ r H', gev G 19 [dcV d, .map (some m)] H = some (r, H') ∧ (ErrIs r (cmsOk d) ∧ Same H H') := by
  refine gev_GW (f := 19) rfl fun Post hPost => ?_
  have hlim := hw.1
  have fd := dc_cflat hd
  have hsl := hd.cm.rd.isSl
  have hCl := hs.C.1
  have hbd : ∀ {n : Int} {H'}, n ≠ 0 → Same H H' → ¬ cmsOk d → Post (.int .i64 n) H' := fun hn hS h => hPost _ _ ⟨ErrIs.no hn h, hS⟩
  simp only [frameOf, Nat.reduceAdd]
  obtain ⟨H1, hH1⟩ : ∃ H1, H1 = H.add (some (.cells (dcC d) 0 true)) := ⟨_, rfl⟩
  have hS1 : Same H H1 := hH1 ▸ (Same.refl hw).add _
  have hl1 : H.len < H1.len := by rw [hH1, len_add]; omega
  have q0 : ∀ i, H1.rd H.len i = (dcC d)[i]? := fun i => by rw [hH1, rd_add_eq rfl]
  have q8 : H1.rdn H.len 0 8 = some (dcV d) := by rw [hH1, rdn_dc rfl]
  have q7 := q0 7
  rw [dcC_7] at q7
  repeat' (first | refine zn ?_ | refine zK rfl ?_ | refine zP rfl ?_ | ((first | refine zm ?_ | skip); intro _; intros; simp (disch := first | exact zd | fail) only [↓yS, yT, gresults, gone, ↓reduceIte, Nat.reduceEqDiff, Nat.reduceAdd, Nat.reduceMul, reduceCtorEq, Int.reduceToNat, g19, RDc, fd, hH1.symm, q7, hsl.len]; first | (rename_i K k; (first | refine yC (k _ _ ?_) | refine zg (k _ ?_)); clear k K) | (rename_i A B C D a b c d; (first | refine zx (a ?_) | refine zy (b ?_) | refine zz (fun hc => c ?_) (fun hc => d ?_) | refine zv (b ?_) | refine zw (a ?_)) <;> clear a b c d A B C D <;> try simp only [yL] at hc)) | refine zA ?_ | refine zB ?_ | refine zF ?_)
  case refine_1 => exact hbd (by decide) hS1 fun h => by have := h.1; omega
  have hc64 : d.C.length ≤ 64 := by omega
  clear hc
  clear q7
  refine GW_loop (fun k fr H2 => ∃ j : Nat, k = d.C.length - j ∧ j ≤ d.C.length ∧ fr.get 1 = some (.map (some m)) ∧ fr.get 2 = some (.pointer (some ⟨H.len, 0, none⟩)) ∧ fr.get 15 = some (d.cv) ∧ fr.get 16 = some (.int .i64 d.C.length) ∧ fr.get 17 = some (.int .i64 j) ∧ Same H1 H2 ∧ ∀ i, i < j → cmOk d.last d.E d.C i) ?_ d.C.length ?_
  case refine_2.refine_2 =>
    refine ⟨0, by omega, by omega, ?_⟩
    simp only [↓yG, Nat.reduceEqDiff, ↓reduceIte, Int.natCast_add, Int.cast_ofNat_Int, Int.natCast_zero, true_and, and_true, Option.some.injEq, Value.int.injEq]
    exact ⟨Same.refl hS1.wf, fun i hi => absurd hi (by omega)⟩
  rintro k fr H2 ⟨j, rfl, hj, f1, f2, f15, f16, f17, hS12, hall⟩ J hJ
  have hS2 := hS1.trans hS12
  have hw2 := hS2.wf
  have hlim2 := hw2.1
  have hl2 : H.len < H2.len := Nat.lt_of_lt_of_le hl1 hS12.len
  by_cases hj1 : j < d.C.length
  · have hd2 := hd.later hw hS2
    have e1 := hd2.cm.rowN hj1
    have hp : 0 < j → H2.rd (blk d.cv) (ofs d.cv + (j - 1) * 8) = some (.int .i64 d.C[j - 1]!.id) := fun h0 => hd2.cm.row (k := j - 1) (c := 0) (by omega) (by decide)
    have hcvl := hd2.cm.rd.lt (by omega)
    have hsc := hs.C.2 _ (bang_mem hj1)
    obtain ⟨hsc1, hsc2⟩ := hsc
    have hnx : cmOk d.last d.E d.C j → ∀ i, i < j + 1 → cmOk d.last d.E d.C i := fun h i hi => by
      by_cases e : i = j
      · subst e; exact h
      · exact hall i (by omega)
    have hbd2 : ∀ {n : Int} {H'}, n ≠ 0 → Same H H' → ¬ cmOk d.last d.E d.C j → Post (.int .i64 n) H' := fun hn hS h => hbd hn hS fun hh => h (hh.2 j hj1)
    have hcm : cmOk d.last d.E d.C j = ((1 ≤ d.C[j]!.id ∧ d.C[j]!.id ≤ d.last) ∧ (0 < j → d.C[j - 1]!.id < d.C[j]!.id) ∧ (∀ k, k < d.E.length → d.E[k]!.id ≠ d.C[j]!.id) ∧ ancOk d.last d.E d.C[j]! ∧ nameF d.C[j]!.au = true ∧ vldB (strB d.C[j]!.tx) = true ∧ d.C[j]!.tx ≠ [] ∧ d.C[j]!.tx.length ≤ 400) := rfl
    rw [hcm] at hnx hbd2
    clear hcm hbd
    generalize d.C[j]! = c at *
    generalize d.C[j - 1]!.id = pid at *
    obtain ⟨H3, hH3⟩ : ∃ H3, H3 = (H2.add (some (.cells [.int .i64 0, .int .i64 0, .int .i64 0, .int .i64 0, .string ⟨#[]⟩, .string ⟨#[]⟩, .bool false, .bool false] 0 true))).put H2.len (.cells (cmC c) 0 true) := ⟨_, rfl⟩
    have hS23 : Same H2 H3 := hH3 ▸ (Same.refl hw2).new _ _
    have hS3 := hS2.trans hS23
    have hl3 : H.len < H3.len := Nat.lt_of_lt_of_le hl2 hS23.len
    have k0 : ∀ i, H3.rd H2.len i = (cmC c)[i]? := fun i => by rw [hH3, rd_put_same]
    have k8 : H3.rdn H2.len 0 8 = some (cmV c) := by rw [hH3, rdn_cmp]
    have hl23 : H2.len < H3.len := by rw [hH3]; simp only [len_put, len_add]; omega
    have u0 := k0 0
    have u4 := k0 4
    have u5 := k0 5
    rw [cmC_0] at u0
    rw [cmC_4] at u4
    rw [cmC_5] at u5
    have v4 : H3.rd H.len 4 = some (.int .i64 d.last) := by rw [(hS12.trans hS23).rd hl1]; exact q0 4
    have v7 : H3.rd H.len 7 = some d.cv := by rw [(hS12.trans hS23).rd hl1]; exact q0 7
    have v8 : H3.rdn H.len 0 8 = some (dcV d) := by rw [(hS12.trans hS23).rdn hl1]; exact q8
    have hp3 : 0 < j → H3.rd (blk d.cv) (ofs d.cv + ((j : Int) - 1).toNat * 8) = some (.int .i64 pid) := fun h0 => by
      rw [show ((j : Int) - 1).toNat = j - 1 by omega]; exact (hS23.rd hcvl).trans (hp h0)
    have hm3 : H3.dct m = some (dic L) := (hS3.dct hml).trans hm
    have hst := hH3.symm
    clear k0 hp hH3
    cases hf : dfind c.id L with
    | some n =>
      have e2 := look_some hm3 hf
      obtain ⟨k, _, hk, hid⟩ := (hL _ _).1 hf
      have hno : ∀ {n : Int} {H'}, n ≠ 0 → Same H H' → Post (.int .i64 n) H' := fun hn hS => hbd2 hn hS fun h => h.2.2.1 k hk hid
      by_cases h0 : 0 < j
      · have hp4 := hp3 h0
        repeat' (first | (exfalso; omega) | refine zn ?_ | refine zK rfl ?_ | refine zP rfl ?_ | ((first | refine zm ?_ | skip); intro _; intros; simp (disch := first | exact zd | fail) only [↓yS, yT, gresults, gone, ↓reduceIte, Nat.reduceEqDiff, Nat.reduceAdd, Nat.reduceMul, reduceCtorEq, Int.reduceToNat, g19, f1, f2, f15, f16, f17, RC, hsl.ia, e1, hst, u0, v4, v7, e2, decide_eq_true (show (0 : Int) < j by omega), hp4]; first | (rename_i K k; (first | refine yC (k _ _ ?_) | refine zg (k _ ?_)); clear k K) | (rename_i A B C D a b c d; (first | refine zx (a ?_) | refine zy (b ?_) | refine zz (fun hc => c ?_) (fun hc => d ?_) | refine zv (b ?_) | refine zw (a ?_)) <;> clear a b c d A B C D <;> try simp only [yL] at hc)) | refine zA ?_ | refine zB ?_ | refine zF ?_)
        all_goals exact hno (by decide) hS3
      · have d0 : decide ((0 : Int) < j) = false := decide_eq_false (by omega)
        repeat' (first | (exfalso; omega) | refine zn ?_ | refine zK rfl ?_ | refine zP rfl ?_ | ((first | refine zm ?_ | skip); intro _; intros; simp (disch := first | exact zd | fail) only [↓yS, yT, gresults, gone, ↓reduceIte, Nat.reduceEqDiff, Nat.reduceAdd, Nat.reduceMul, reduceCtorEq, Int.reduceToNat, g19, f1, f2, f15, f16, f17, RC, hsl.ia, e1, hst, u0, v4, v7, e2, d0]; first | (rename_i K k; (first | refine yC (k _ _ ?_) | refine zg (k _ ?_)); clear k K) | (rename_i A B C D a b c d; (first | refine zx (a ?_) | refine zy (b ?_) | refine zz (fun hc => c ?_) (fun hc => d ?_) | refine zv (b ?_) | refine zw (a ?_)) <;> clear a b c d A B C D <;> try simp only [yL] at hc)) | refine zA ?_ | refine zB ?_ | refine zF ?_)
        all_goals exact hno (by decide) hS3
    | none =>
      have e2 := look_none hm3 hf
      have hnin : ∀ k, k < d.E.length → d.E[k]!.id ≠ c.id := fun k hk he => by
        have := (hL c.id k).2 ⟨k, rfl, hk, he⟩
        rw [hf] at this; cases this
      by_cases hid : 1 ≤ c.id ∧ c.id ≤ d.last
      case neg =>
        repeat' (first | (exfalso; omega) | refine zn ?_ | refine zK rfl ?_ | refine zP rfl ?_ | ((first | refine zm ?_ | skip); intro _; intros; simp (disch := first | exact zd | fail) only [↓yS, yT, gresults, gone, ↓reduceIte, Nat.reduceEqDiff, Nat.reduceAdd, Nat.reduceMul, reduceCtorEq, Int.reduceToNat, g19, f1, f2, f15, f16, f17, RC, hsl.ia, e1, hst, u0, v4, v7, e2]; first | (rename_i K k; (first | refine yC (k _ _ ?_) | refine zg (k _ ?_)); clear k K) | (rename_i A B C D a b c d; (first | refine zx (a ?_) | refine zy (b ?_) | refine zz (fun hc => c ?_) (fun hc => d ?_) | refine zv (b ?_) | refine zw (a ?_)) <;> clear a b c d A B C D <;> try simp only [yL] at hc)) | refine zA ?_ | refine zB ?_ | refine zF ?_)
        all_goals first | exact hbd2 (by decide) hS3 fun h => hid h.1 | (exfalso; omega)
      have d1 : decide (c.id < 1) = false := decide_eq_false (by omega)
      have d2 : decide (d.last < c.id) = false := decide_eq_false (by omega)
      by_cases hor : 0 < j → pid < c.id
      case neg =>
        have h0 : 0 < j := Classical.byContradiction fun h => hor fun h' => absurd h' h
        have hp4 := hp3 h0
        have d0 : decide ((0 : Int) < j) = true := decide_eq_true (by omega)
        repeat' (first | (exfalso; omega) | refine zn ?_ | refine zK rfl ?_ | refine zP rfl ?_ | ((first | refine zm ?_ | skip); intro _; intros; simp (disch := first | exact zd | fail) only [↓yS, yT, gresults, gone, ↓reduceIte, Nat.reduceEqDiff, Nat.reduceAdd, Nat.reduceMul, reduceCtorEq, Int.reduceToNat, g19, f1, f2, f15, f16, f17, RC, hsl.ia, e1, hst, u0, v4, v7, e2, d1, d2, d0, hp4]; first | (rename_i K k; (first | refine yC (k _ _ ?_) | refine zg (k _ ?_)); clear k K) | (rename_i A B C D a b c d; (first | refine zx (a ?_) | refine zy (b ?_) | refine zz (fun hc => c ?_) (fun hc => d ?_) | refine zv (b ?_) | refine zw (a ?_)) <;> clear a b c d A B C D <;> try simp only [yL] at hc)) | refine zA ?_ | refine zB ?_ | refine zF ?_)
        all_goals first | exact hbd2 (by decide) hS3 fun h => hor h.2.1 | (exact absurd (fun _ => by omega) hor)
      by_cases h0 : 0 < j
      case' pos =>
        have hp4 := hp3 h0
        have d0 : decide ((0 : Int) < j) = true := decide_eq_true (by omega)
        have d3 : decide (c.id ≤ pid) = false := decide_eq_false (by have := hor h0; omega)
        repeat' (first | (exfalso; omega) | refine zn ?_ | refine zK rfl ?_ | refine zP rfl ?_ | ((first | refine zm ?_ | skip); intro _; intros; simp (disch := first | exact zd | fail) only [↓yS, yT, gresults, gone, ↓reduceIte, Nat.reduceEqDiff, Nat.reduceAdd, Nat.reduceMul, reduceCtorEq, Int.reduceToNat, g19, f1, f2, f15, f16, f17, RC, hsl.ia, e1, hst, u0, v4, v7, v8, k8, e2, d1, d2, d0, d3, hp4]; first | (rename_i K k; (first | refine yC (k _ _ ?_) | refine zg (k _ ?_)); clear k K) | (rename_i A B C D a b c d; (first | refine zx (a ?_) | refine zy (b ?_) | refine zz (fun hc => c ?_) (fun hc => d ?_) | refine zv (b ?_) | refine zw (a ?_)) <;> clear a b c d A B C D <;> try simp only [yL] at hc)) | refine zA ?_ | refine zB ?_ | refine zF ?_)
      case' neg =>
        have d0 : decide ((0 : Int) < j) = false := decide_eq_false (by omega)
        repeat' (first | (exfalso; omega) | refine zn ?_ | refine zK rfl ?_ | refine zP rfl ?_ | ((first | refine zm ?_ | skip); intro _; intros; simp (disch := first | exact zd | fail) only [↓yS, yT, gresults, gone, ↓reduceIte, Nat.reduceEqDiff, Nat.reduceAdd, Nat.reduceMul, reduceCtorEq, Int.reduceToNat, g19, f1, f2, f15, f16, f17, RC, hsl.ia, e1, hst, u0, v4, v7, v8, k8, e2, d1, d2, d0]; first | (rename_i K k; (first | refine yC (k _ _ ?_) | refine zg (k _ ?_)); clear k K) | (rename_i A B C D a b c d; (first | refine zx (a ?_) | refine zy (b ?_) | refine zz (fun hc => c ?_) (fun hc => d ?_) | refine zv (b ?_) | refine zw (a ?_)) <;> clear a b c d A B C D <;> try simp only [yL] at hc)) | refine zA ?_ | refine zB ?_ | refine zF ?_)
      all_goals
        refine Gw_s fun K' hK' => G1_call (by simp only [gtarget, ↓GArg.ev, ↓evs, ↓Tr.get_set, Nat.reduceEqDiff, if_true, if_false, ↓reduceIte, Option.map_some, f1, f2, f15, f16, f17]; rfl) (anchored_ok hS3.wf (hd.later hw hS3) hs hm3 (Nat.lt_of_lt_of_le hml hS3.len) hL) fun r4 H4 hq => hK' _ _ ?_
        obtain ⟨⟨n, rfl, hn⟩, hS34⟩ := hq
        have hS4 := hS3.trans hS34
        have w4 := (hS34.rd hl23).trans u4
        have w5 := (hS34.rd hl23).trans u5
        by_cases hn0 : n = 0
        case neg =>
          repeat' (first | (exfalso; omega) | refine zn ?_ | refine zK rfl ?_ | refine zP rfl ?_ | ((first | refine zm ?_ | skip); intro _; intros; simp (disch := first | exact zd | fail) only [↓yS, yT, gresults, gone, ↓reduceIte, Nat.reduceEqDiff, Nat.reduceAdd, Nat.reduceMul, reduceCtorEq, Int.reduceToNat, g19, f1, f2, f15, f16, f17]; first | (rename_i K k; (first | refine yC (k _ _ ?_) | refine zg (k _ ?_)); clear k K) | (rename_i A B C D a b c d; (first | refine zx (a ?_) | refine zy (b ?_) | refine zz (fun hc => c ?_) (fun hc => d ?_) | refine zv (b ?_) | refine zw (a ?_)) <;> clear a b c d A B C D <;> try simp only [yL] at hc)) | refine zA ?_ | refine zB ?_ | refine zF ?_)
          all_goals exact hbd2 hn0 hS4 fun h => hn0 (hn.2 h.2.2.2.1)
        have hanc := hn.1 hn0
        subst hn0
        have d9 : decide (¬ (0 : Int) = 0) = false := rfl
        repeat' (first | (exfalso; omega) | refine zn ?_ | refine zK rfl ?_ | refine zP rfl ?_ | ((first | refine zm ?_ | skip); intro _; intros; simp (disch := first | exact zd | fail) only [↓yS, yT, gresults, gone, ↓reduceIte, Nat.reduceEqDiff, Nat.reduceAdd, Nat.reduceMul, reduceCtorEq, Int.reduceToNat, g19, f1, f2, f15, f16, f17, w4]; first | (rename_i K k; (first | refine yC (k _ _ ?_) | refine zg (k _ ?_)); clear k K) | (rename_i A B C D a b c d; (first | refine zx (a ?_) | refine zy (b ?_) | refine zz (fun hc => c ?_) (fun hc => d ?_) | refine zv (b ?_) | refine zw (a ?_)) <;> clear a b c d A B C D <;> try simp only [yL] at hc)) | refine zA ?_ | refine zB ?_ | refine zF ?_)
        refine Gw_s fun K' hK' => G1_call (by simp only [gtarget, ↓GArg.ev, ↓evs, ↓Tr.get_set, Nat.reduceEqDiff, if_true, if_false, ↓reduceIte, Option.map_some, f1, f2, f15, f16, f17]; rfl) (one_of (name_ok hsc1 _)) fun r5 H5 hq => hK' _ _ ?_
        obtain ⟨rfl, rfl⟩ := hq
        cases hna : nameF c.au with
        | false =>
          repeat' (first | (exfalso; omega) | refine zn ?_ | refine zK rfl ?_ | refine zP rfl ?_ | ((first | refine zm ?_ | skip); intro _; intros; simp (disch := first | exact zd | fail) only [↓yS, yT, gresults, gone, ↓reduceIte, Nat.reduceEqDiff, Nat.reduceAdd, Nat.reduceMul, reduceCtorEq, Int.reduceToNat, g19, f1, f2, f15, f16, f17, Bool.not_false]; first | (rename_i K k; (first | refine yC (k _ _ ?_) | refine zg (k _ ?_)); clear k K) | (rename_i A B C D a b c d; (first | refine zx (a ?_) | refine zy (b ?_) | refine zz (fun hc => c ?_) (fun hc => d ?_) | refine zv (b ?_) | refine zw (a ?_)) <;> clear a b c d A B C D <;> try simp only [yL] at hc)) | refine zA ?_ | refine zB ?_ | refine zF ?_)
          exact hbd2 (by decide) hS4 fun h => by have := h.2.2.2.2.1; rw [hna] at this; cases this
        | true =>
        repeat' (first | (exfalso; omega) | refine zn ?_ | refine zK rfl ?_ | refine zP rfl ?_ | ((first | refine zm ?_ | skip); intro _; intros; simp (disch := first | exact zd | fail) only [↓yS, yT, gresults, gone, ↓reduceIte, Nat.reduceEqDiff, Nat.reduceAdd, Nat.reduceMul, reduceCtorEq, Int.reduceToNat, g19, f1, f2, f15, f16, f17, Bool.not_true, w5]; first | (rename_i K k; (first | refine yC (k _ _ ?_) | refine zg (k _ ?_)); clear k K) | (rename_i A B C D a b c d; (first | refine zx (a ?_) | refine zy (b ?_) | refine zz (fun hc => c ?_) (fun hc => d ?_) | refine zv (b ?_) | refine zw (a ?_)) <;> clear a b c d A B C D <;> try simp only [yL] at hc)) | refine zA ?_ | refine zB ?_ | refine zF ?_)
        refine Gw_s fun K' hK' => G1_call (by simp only [gtarget, ↓GArg.ev, ↓evs, ↓Tr.get_set, Nat.reduceEqDiff, if_true, if_false, ↓reduceIte, Option.map_some, f1, f2, f15, f16, f17]; rfl) (one_of (valid_ok (s := strB c.tx) (by rw [strB_size]; omega) _)) fun r5 H5 hq => hK' _ _ ?_
        obtain ⟨rfl, rfl⟩ := hq
        cases hva : vldB (strB c.tx) with
        | false =>
          repeat' (first | (exfalso; omega) | refine zn ?_ | refine zK rfl ?_ | refine zP rfl ?_ | ((first | refine zm ?_ | skip); intro _; intros; simp (disch := first | exact zd | fail) only [↓yS, yT, gresults, gone, ↓reduceIte, Nat.reduceEqDiff, Nat.reduceAdd, Nat.reduceMul, reduceCtorEq, Int.reduceToNat, g19, f1, f2, f15, f16, f17, Bool.not_false]; first | (rename_i K k; (first | refine yC (k _ _ ?_) | refine zg (k _ ?_)); clear k K) | (rename_i A B C D a b c d; (first | refine zx (a ?_) | refine zy (b ?_) | refine zz (fun hc => c ?_) (fun hc => d ?_) | refine zv (b ?_) | refine zw (a ?_)) <;> clear a b c d A B C D <;> try simp only [yL] at hc)) | refine zA ?_ | refine zB ?_ | refine zF ?_)
          exact hbd2 (by decide) hS4 fun h => by have := h.2.2.2.2.2.1; rw [hva] at this; cases this
        | true =>
        have z5 := strB_size c.tx
        by_cases htx : c.tx = []
        · have d5 : decide (c.tx = []) = true := decide_eq_true htx
          repeat' (first | (exfalso; omega) | refine zn ?_ | refine zK rfl ?_ | refine zP rfl ?_ | ((first | refine zm ?_ | skip); intro _; intros; simp (disch := first | exact zd | fail) only [↓yS, yT, gresults, gone, ↓reduceIte, Nat.reduceEqDiff, Nat.reduceAdd, Nat.reduceMul, reduceCtorEq, Int.reduceToNat, g19, f1, f2, f15, f16, f17, Bool.not_true, w5, gb_eqE, d5]; first | (rename_i K k; (first | refine yC (k _ _ ?_) | refine zg (k _ ?_)); clear k K) | (rename_i A B C D a b c d; (first | refine zx (a ?_) | refine zy (b ?_) | refine zz (fun hc => c ?_) (fun hc => d ?_) | refine zv (b ?_) | refine zw (a ?_)) <;> clear a b c d A B C D <;> try simp only [yL] at hc)) | refine zA ?_ | refine zB ?_ | refine zF ?_)
          exact hbd2 (by decide) hS4 fun h => h.2.2.2.2.2.2.1 htx
        have d5 : decide (c.tx = []) = false := decide_eq_false htx
        repeat' (first | (exfalso; omega) | refine zn ?_ | refine zK rfl ?_ | refine zP rfl ?_ | ((first | refine zm ?_ | skip); intro _; intros; simp (disch := first | exact zd | fail) only [↓yS, yT, gresults, gone, ↓reduceIte, Nat.reduceEqDiff, Nat.reduceAdd, Nat.reduceMul, reduceCtorEq, Int.reduceToNat, g19, f1, f2, f15, f16, f17, Bool.not_true, w5, gb_eqE, d5, z5]; first | (rename_i K k; (first | refine yC (k _ _ ?_) | refine zg (k _ ?_)); clear k K) | (rename_i A B C D a b c d; (first | refine zx (a ?_) | refine zy (b ?_) | refine zz (fun hc => c ?_) (fun hc => d ?_) | refine zv (b ?_) | refine zw (a ?_)) <;> clear a b c d A B C D <;> try simp only [yL] at hc)) | refine zA ?_ | refine zB ?_ | refine zF ?_)
        all_goals first
          | (exact hbd2 (by decide) hS4 fun h => by have := h.2.2.2.2.2.2.2; omega)
          | (refine hJ _ _ ⟨d.C.length - (j + 1), by omega, j + 1, rfl, by omega, ?_⟩
             simp only [↓yG, Nat.reduceEqDiff, ↓reduceIte, Int.natCast_add, Int.cast_ofNat_Int, Int.natCast_zero, true_and, and_true, Option.some.injEq, Value.int.injEq, f1, f2, f15, f16]
             exact ⟨(hS12.trans hS23).trans hS34, hnx ⟨hid, hor, hnin, hanc, hna, hva, htx, by omega⟩⟩)
  · obtain rfl : j = d.C.length := by omega
    repeat' (first | (exfalso; omega) | refine zn ?_ | refine zK rfl ?_ | refine zP rfl ?_ | ((first | refine zm ?_ | skip); intro _; intros; simp (disch := first | exact zd | fail) only [↓yS, yT, gresults, gone, ↓reduceIte, Nat.reduceEqDiff, Nat.reduceAdd, Nat.reduceMul, reduceCtorEq, Int.reduceToNat, g19, f1, f2, f15, f16, f17]; first | (rename_i K k; (first | refine yC (k _ _ ?_) | refine zg (k _ ?_)); clear k K) | (rename_i A B C D a b c d; (first | refine zx (a ?_) | refine zy (b ?_) | refine zz (fun hc => c ?_) (fun hc => d ?_) | refine zv (b ?_) | refine zw (a ?_)) <;> clear a b c d A B C D <;> try simp only [yL] at hc)) | refine zA ?_ | refine zB ?_ | refine zF ?_)
    exact hPost _ _ ⟨ErrIs.yes ⟨hc64, hall⟩, hS2⟩
end Go.Gh
