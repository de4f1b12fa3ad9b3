/-
  document, walked: the error of a document.
-/
import Derived.Test.YtjjcgaompnjbdaaDoorTrW9
namespace Go.Gh
set_option linter.unusedSimpArgs false
set_option linter.unusedVariables false
set_option maxHeartbeats 4000000
open Go.RowKit
set_option maxRecDepth 4000

theorem evC_zero : [Value.int .i64 0, .int .i64 0, .int .i64 0, .string ⟨#[]⟩, .int .u8 0, .string ⟨#[]⟩, .slice none 0 0].length = 7 := rfl
theorem MapIs.nil (E : List Ev) : MapIs E 0 [] := fun a n => ⟨fun h => by simp [dfind] at h, fun ⟨k, _, h, _⟩ => absurd h (by omega)⟩
theorem MapIs.succ {E : List Ev} {j : Nat} {L : List (Int × Int)} (h : MapIs E j L) (hd : ∀ k, k < j → E[k]!.id ≠ E[j]!.id) : MapIs E (j + 1) (dset E[j]!.id j L) := fun a n => by
  rw [dfind_set]
  by_cases ha : a = E[j]!.id
  · rw [if_pos ha]
    constructor
    · intro e; cases e; exact ⟨j, rfl, by omega, ha.symm⟩
    · rintro ⟨k, rfl, hk, he⟩
      by_cases e : k = j
      · rw [e]
      · exact absurd (he.trans ha) (hd k (by omega))
  · rw [if_neg ha, h]
    constructor
    · rintro ⟨k, h1, h2, h3⟩; exact ⟨k, h1, by omega, h3⟩
    · rintro ⟨k, h1, h2, h3⟩
      refine ⟨k, h1, ?_, h3⟩
      by_cases e : k = j
      · subst e; exact absurd h3.symm ha
      · omega
theorem dcheck_ok {H : GHeap} (hw : H.wf) {d : Dc} (hd : DcR H d) (hs : SmD d) :
    ∃ r H', gev G 7 [dcV d] H = some (r, H') ∧ (ErrIs r (dcOk d) ∧ Same H H') := by
  refine gev_GW (f := 7) rfl fun Post hPost => ?_
  have hlim := hw.1
  have fd := dc_cflat hd
  have hsl := hd.ev.rd.rd.isSl
  have hEl := hs.E.1
  have hbd : ∀ {n : Int} {H'}, n ≠ 0 → Same H H' → ¬ dcOk d → Post (.int .i64 n) H' := fun hn hS h => hPost _ _ ⟨ErrIs.no hn h, hS⟩
  simp only [frameOf, Nat.reduceAdd]
  obtain ⟨H1, hH1⟩ : ∃ H1, H1 = H.add (some (.cells (dcC d) 0 true)) := ⟨_, rfl⟩
  have hS1 : Same H H1 := hH1 ▸ (Same.refl hw).add _
  have hl1 : H.len < H1.len := by rw [hH1, len_add]; omega
  have q0 : ∀ i, H1.rd H.len i = (dcC d)[i]? := fun i => by rw [hH1, rd_add_eq rfl]
  have q8 : H1.rdn H.len 0 8 = some (dcV d) := by rw [hH1, rdn_dc rfl]
  repeat' (first | refine zn ?_ | refine zK rfl ?_ | refine zP rfl ?_ | ((first | refine zm ?_ | skip); intro _; intros; simp (disch := first | exact zd | fail) only [↓yS, yT, gresults, gone, ↓reduceIte, Nat.reduceEqDiff, Nat.reduceAdd, Nat.reduceMul, reduceCtorEq, Int.reduceToNat, g7, RDc, fd, hH1.symm, q8]; first | (rename_i K k; (first | refine yC (k _ _ ?_) | refine zg (k _ ?_)); clear k K) | (rename_i A B C D a b c d; (first | refine zx (a ?_) | refine zy (b ?_) | refine zz (fun hc => c ?_) (fun hc => d ?_) | refine zv (b ?_) | refine zw (a ?_)) <;> clear a b c d A B C D <;> try simp only [yL] at hc)) | refine zA ?_ | refine zB ?_ | refine zF ?_)
  clear hH1
  refine Gw_s fun K' hK' => G1_call (by simp only [gtarget, ↓GArg.ev, ↓evs, ↓Tr.get_set, Nat.reduceEqDiff, if_true, if_false, ↓reduceIte, Option.map_some, q8]; rfl) (header_ok hS1.wf (hd.later hw hS1) hs) fun r2 H2 hq => hK' _ _ ?_
  obtain ⟨⟨n2, rfl, hn2⟩, hS12⟩ := hq
  have hS2 := hS1.trans hS12
  by_cases h2 : n2 = 0
  case neg =>
    repeat' (first | refine zn ?_ | refine zK rfl ?_ | refine zP rfl ?_ | ((first | refine zm ?_ | skip); intro _; intros; simp (disch := first | exact zd | fail) only [↓yS, yT, gresults, gone, ↓reduceIte, Nat.reduceEqDiff, Nat.reduceAdd, Nat.reduceMul, reduceCtorEq, Int.reduceToNat, g7]; first | (rename_i K k; (first | refine yC (k _ _ ?_) | refine zg (k _ ?_)); clear k K) | (rename_i A B C D a b c d; (first | refine zx (a ?_) | refine zy (b ?_) | refine zz (fun hc => c ?_) (fun hc => d ?_) | refine zv (b ?_) | refine zw (a ?_)) <;> clear a b c d A B C D <;> try simp only [yL] at hc)) | refine zA ?_ | refine zB ?_ | refine zF ?_)
    all_goals first | exact hbd h2 hS2 fun h => h2 (hn2.2 h.1) | (exfalso; omega)
  have hhd := hn2.1 h2
  subst h2
  have p0 : ∀ i, H2.rd H.len i = (dcC d)[i]? := fun i => (hS12.rd hl1).trans (q0 i)
  have p8 : H2.rdn H.len 0 8 = some (dcV d) := (hS12.rdn hl1).trans q8
  have hl2 : H.len < H2.len := Nat.lt_of_lt_of_le hl1 hS12.len
  have p5 := p0 5
  rw [dcC_5] at p5
  repeat' (first | refine zn ?_ | refine zK rfl ?_ | refine zP rfl ?_ | ((first | refine zm ?_ | skip); intro _; intros; simp (disch := first | exact zd | fail) only [↓yS, yT, gresults, gone, ↓reduceIte, Nat.reduceEqDiff, Nat.reduceAdd, Nat.reduceMul, reduceCtorEq, Int.reduceToNat, g7, p5]; first | (rename_i K k; (first | refine yC (k _ _ ?_) | refine zg (k _ ?_)); clear k K) | (rename_i A B C D a b c d; (first | refine zx (a ?_) | refine zy (b ?_) | refine zz (fun hc => c ?_) (fun hc => d ?_) | refine zv (b ?_) | refine zw (a ?_)) <;> clear a b c d A B C D <;> try simp only [yL] at hc)) | refine zA ?_ | refine zB ?_ | refine zF ?_)
  refine Gw_s fun K' hK' => G1_call (by simp only [gtarget, ↓GArg.ev, ↓evs, ↓Tr.get_set, Nat.reduceEqDiff, if_true, if_false, ↓reduceIte, Option.map_some, p5]; rfl) (checkList_ok hS2.wf (hd.later hw hS2).rg hs.R.1 hs.R.2) fun r3 H3 hq => hK' _ _ ?_
  obtain ⟨⟨n3, rfl, hn3⟩, hS23⟩ := hq
  have hS3 := hS2.trans hS23
  by_cases h3 : n3 = 0
  case neg =>
    repeat' (first | refine zn ?_ | refine zK rfl ?_ | refine zP rfl ?_ | ((first | refine zm ?_ | skip); intro _; intros; simp (disch := first | exact zd | fail) only [↓yS, yT, gresults, gone, ↓reduceIte, Nat.reduceEqDiff, Nat.reduceAdd, Nat.reduceMul, reduceCtorEq, Int.reduceToNat, g7]; first | (rename_i K k; (first | refine yC (k _ _ ?_) | refine zg (k _ ?_)); clear k K) | (rename_i A B C D a b c d; (first | refine zx (a ?_) | refine zy (b ?_) | refine zz (fun hc => c ?_) (fun hc => d ?_) | refine zv (b ?_) | refine zw (a ?_)) <;> clear a b c d A B C D <;> try simp only [yL] at hc)) | refine zA ?_ | refine zB ?_ | refine zF ?_)
    all_goals first | exact hbd h3 hS3 fun h => h3 (hn3.2 h.2.1) | (exfalso; omega)
  have hrg := hn3.1 h3
  subst h3
  have o0 : ∀ i, H3.rd H.len i = (dcC d)[i]? := fun i => (hS23.rd hl2).trans (p0 i)
  have o8 : H3.rdn H.len 0 8 = some (dcV d) := (hS23.rdn hl2).trans p8
  have hl3 : H.len < H3.len := Nat.lt_of_lt_of_le hl2 hS23.len
  have o6 := o0 6
  rw [dcC_6] at o6
  clear p5 p0 p8 q0 q8
  by_cases h4 : d.E.length ≤ 400
  case neg =>
    repeat' (first | refine zn ?_ | refine zK rfl ?_ | refine zP rfl ?_ | ((first | refine zm ?_ | skip); intro _; intros; simp (disch := first | exact zd | fail) only [↓yS, yT, gresults, gone, ↓reduceIte, Nat.reduceEqDiff, Nat.reduceAdd, Nat.reduceMul, reduceCtorEq, Int.reduceToNat, g7, o6, hsl.len]; first | (rename_i K k; (first | refine yC (k _ _ ?_) | refine zg (k _ ?_)); clear k K) | (rename_i A B C D a b c d; (first | refine zx (a ?_) | refine zy (b ?_) | refine zz (fun hc => c ?_) (fun hc => d ?_) | refine zv (b ?_) | refine zw (a ?_)) <;> clear a b c d A B C D <;> try simp only [yL] at hc)) | refine zA ?_ | refine zB ?_ | refine zF ?_)
    all_goals first | exact hbd (by decide) hS3 fun h => h4 h.2.2.1.1 | (exfalso; omega)
  have d4 : decide ((400 : Int) < d.E.length) = false := decide_eq_false (by omega)
  have hw3 := hS3.wf
  have hlim3 := hw3.1
  have o6' : (H3.add (some (.dict []))).rd H.len 6 = some d.ev := by rw [rd_add_ne (by omega)]; exact o6
  repeat' (first | refine zn ?_ | refine zK rfl ?_ | refine zP rfl ?_ | ((first | refine zm ?_ | skip); intro _; intros; simp (disch := first | exact zd | fail) only [↓yS, yT, gresults, gone, ↓reduceIte, Nat.reduceEqDiff, Nat.reduceAdd, Nat.reduceMul, reduceCtorEq, Int.reduceToNat, g7, o6, o6', hsl.len, d4]; first | (rename_i K k; (first | refine yC (k _ _ ?_) | refine zg (k _ ?_)); clear k K) | (rename_i A B C D a b c d; (first | refine zx (a ?_) | refine zy (b ?_) | refine zz (fun hc => c ?_) (fun hc => d ?_) | refine zv (b ?_) | refine zw (a ?_)) <;> clear a b c d A B C D <;> try simp only [yL] at hc)) | refine zA ?_ | refine zB ?_ | refine zF ?_)
  have hSm : Same H (H3.add (some (.dict []))) := hS3.add _
  refine GW_loop (fun k fr H4 => ∃ (j : Nat) (L : List (Int × Int)), k = d.E.length - j ∧ j ≤ d.E.length ∧ fr.get 1 = some (.pointer (some ⟨H.len, 0, none⟩)) ∧ fr.get 5 = some (.map (some H3.len)) ∧ fr.get 28 = some (d.ev) ∧ fr.get 29 = some (.int .i64 d.E.length) ∧ fr.get 30 = some (.int .i64 j) ∧ Same H H4 ∧ H3.len < H4.len ∧ H4.dct H3.len = some (dic L) ∧ (∀ i, H4.rd H.len i = (dcC d)[i]?) ∧ H4.rdn H.len 0 8 = some (dcV d) ∧ MapIs d.E j L ∧
    ∀ i, i < j → evOk d.R d.E[i]! ∧ d.E[i]!.id ≤ d.last ∧ (0 < i → lessE d.E[i - 1]! d.E[i]!) ∧ ∀ k, k < i → d.E[k]!.id ≠ d.E[i]!.id) ?_ d.E.length ?_
  case refine_2 =>
    refine ⟨0, [], by omega, by omega, ?_⟩
    simp only [↓yG, Nat.reduceEqDiff, ↓reduceIte, Int.natCast_add, Int.cast_ofNat_Int, Int.natCast_zero, true_and, and_true, Option.some.injEq, Value.int.injEq]
    refine ⟨hSm, by rw [len_add]; omega, dct_add_eq rfl, fun i => ?_, ?_, MapIs.nil _, fun i hi => absurd hi (by omega)⟩
    · rw [rd_add_ne (by omega)]; exact o0 i
    · rw [rdn_add_ne (by omega)]; exact o8
  rintro k fr H4 ⟨j, L, rfl, hj, f1, f5, f28, f29, f30, hS4, hlm, hm, b0, b8, hL, hall⟩ J hJ
  have hw4 := hS4.wf
  have hlim4 := hw4.1
  have hlm4 := hS4.lim
  by_cases hj1 : j < d.E.length
  · have hd4 := hd.later hw hS4
    have e1 := hd4.ev.rowN hj1
    have hT := hd.ev.at_ hj1
    have hf1 := hT.rd.flat
    have hse := hs.E.2 _ (bang_mem hj1)
    have hnx : (evOk d.R d.E[j]! ∧ d.E[j]!.id ≤ d.last ∧ (0 < j → lessE d.E[j - 1]! d.E[j]!) ∧ ∀ k, k < j → d.E[k]!.id ≠ d.E[j]!.id) → ∀ i, i < j + 1 → evOk d.R d.E[i]! ∧ d.E[i]!.id ≤ d.last ∧ (0 < i → lessE d.E[i - 1]! d.E[i]!) ∧ ∀ k, k < i → d.E[k]!.id ≠ d.E[i]!.id := fun h i hi => by
      by_cases e : i = j
      · subst e; exact h
      · exact hall i (by omega)
    have hbd2 : ∀ {n : Int} {H'}, n ≠ 0 → Same H H' → ¬ (evOk d.R d.E[j]! ∧ d.E[j]!.id ≤ d.last ∧ (0 < j → lessE d.E[j - 1]! d.E[j]!) ∧ ∀ k, k < j → d.E[k]!.id ≠ d.E[j]!.id) → Post (.int .i64 n) H' := fun hn hS h => hbd hn hS fun hh => h (hh.2.2.1.2 j hj1)
    have hp : 0 < j → H4.rdn (blk d.ev) (ofs d.ev + ((j : Int) - 1).toNat * 7) 7 = some (evV d.E[j - 1]!) ∧ flatV d.E[j - 1]!.v = true := fun h0 => by
      rw [show ((j : Int) - 1).toNat = j - 1 by omega]
      exact ⟨hd4.ev.rowN (by omega), (hd.ev.at_ (k := j - 1) (by omega)).rd.flat⟩
    have hevl := hd4.ev.rd.rd.lt (by omega)
    have hLs := fun h => hL.succ (E := d.E) h
    generalize d.E[j - 1]! = pe at *
    generalize d.E[j]! = e at *
    obtain ⟨H5, hH5⟩ : ∃ H5, H5 = (H4.add (some (.cells [.int .i64 0, .int .i64 0, .int .i64 0, .string ⟨#[]⟩, .int .u8 0, .string ⟨#[]⟩, .slice none 0 0] 0 true))).put H4.len (.cells (evC e) 0 true) := ⟨_, rfl⟩
    have hS45 : Same H4 H5 := hH5 ▸ (Same.refl hw4).new _ _
    have hS5 := hS4.trans hS45
    have k0 : ∀ i, H5.rd H4.len i = (evC e)[i]? := fun i => by rw [hH5, rd_put_same]
    have k7 : H5.rdn H4.len 0 7 = some (evV e) := by rw [hH5, rdn_evp]
    have hl45 : H4.len < H5.len := by rw [hH5]; simp only [len_put, len_add]; omega
    have hl4 : H.len < H4.len := by have := hS3.len; omega
    have u5 : H5.rd H.len 5 = some d.rv := by rw [hS45.rd hl4]; exact b0 5
    have hst := hH5.symm
    have gse := gsetn_ev (cs := [.int .i64 0, .int .i64 0, .int .i64 0, .string ⟨#[]⟩, .int .u8 0, .string ⟨#[]⟩, .slice none 0 0]) (e := e) rfl hf1
    clear hH5
    repeat' (first | (exfalso; omega) | refine zn ?_ | refine zK rfl ?_ | refine zP rfl ?_ | ((first | refine zm ?_ | skip); intro _; intros; simp (disch := first | exact zd | fail) only [↓yS, yT, gresults, gone, ↓reduceIte, Nat.reduceEqDiff, Nat.reduceAdd, Nat.reduceMul, reduceCtorEq, Int.reduceToNat, g7, f1, f5, f28, f29, f30, hsl.ia, e1, gse, hst, u5, k7]; first | (rename_i K k; (first | refine yC (k _ _ ?_) | refine zg (k _ ?_)); clear k K) | (rename_i A B C D a b c d; (first | refine zx (a ?_) | refine zy (b ?_) | refine zz (fun hc => c ?_) (fun hc => d ?_) | refine zv (b ?_) | refine zw (a ?_)) <;> clear a b c d A B C D <;> try simp only [yL] at hc)) | refine zA ?_ | refine zB ?_ | refine zF ?_)
    refine Gw_s fun K' hK' => G1_call (by simp only [gtarget, ↓GArg.ev, ↓evs, ↓Tr.get_set, Nat.reduceEqDiff, if_true, if_false, ↓reduceIte, Option.map_some, f1, f5, f28, f29, f30]; rfl) (evCheck_ok hS5.wf (hT.later hw hS5) hse (hd.later hw hS5).rg hs.R.1 hs.R.2) fun r6 H6 hq => hK' _ _ ?_
    obtain ⟨⟨n, rfl, hn⟩, hS56⟩ := hq
    have hS6 := hS5.trans hS56
    have hS46 := hS45.trans hS56
    by_cases hn0 : n = 0
    case neg =>
      repeat' (first | (exfalso; omega) | refine zn ?_ | refine zK rfl ?_ | refine zP rfl ?_ | ((first | refine zm ?_ | skip); intro _; intros; simp (disch := first | exact zd | fail) only [↓yS, yT, gresults, gone, ↓reduceIte, Nat.reduceEqDiff, Nat.reduceAdd, Nat.reduceMul, reduceCtorEq, Int.reduceToNat, g7, f1, f5, f28, f29, f30]; first | (rename_i K k; (first | refine yC (k _ _ ?_) | refine zg (k _ ?_)); clear k K) | (rename_i A B C D a b c d; (first | refine zx (a ?_) | refine zy (b ?_) | refine zz (fun hc => c ?_) (fun hc => d ?_) | refine zv (b ?_) | refine zw (a ?_)) <;> clear a b c d A B C D <;> try simp only [yL] at hc)) | refine zA ?_ | refine zB ?_ | refine zF ?_)
      all_goals exact hbd2 hn0 hS6 fun h => hn0 (hn.2 h.1)
    have hev := hn.1 hn0
    subst hn0
    have w0 : H6.rd H4.len 0 = some (.int .i64 e.id) := (hS56.rd hl45).trans (k0 0)
    have w7 := (hS56.rdn hl45).trans k7
    have v4 : H6.rd H.len 4 = some (.int .i64 d.last) := (hS46.rd hl4).trans (b0 4)
    have v6 : H6.rd H.len 6 = some d.ev := (hS46.rd hl4).trans (b0 6)
    have hm6 : H6.dct H3.len = some (dic L) := (hS46.dct hlm).trans hm
    by_cases hla : e.id ≤ d.last
    case neg =>
      cases hf : dfind e.id L with
      | none =>
        have e2 := look_none hm6 hf
        repeat' (first | (exfalso; omega) | refine zn ?_ | refine zK rfl ?_ | refine zP rfl ?_ | ((first | refine zm ?_ | skip); intro _; intros; simp (disch := first | exact zd | fail) only [↓yS, yT, gresults, gone, ↓reduceIte, Nat.reduceEqDiff, Nat.reduceAdd, Nat.reduceMul, reduceCtorEq, Int.reduceToNat, g7, f1, f5, f28, f29, f30, w0, v4, e2]; first | (rename_i K k; (first | refine yC (k _ _ ?_) | refine zg (k _ ?_)); clear k K) | (rename_i A B C D a b c d; (first | refine zx (a ?_) | refine zy (b ?_) | refine zz (fun hc => c ?_) (fun hc => d ?_) | refine zv (b ?_) | refine zw (a ?_)) <;> clear a b c d A B C D <;> try simp only [yL] at hc)) | refine zA ?_ | refine zB ?_ | refine zF ?_)
        all_goals exact hbd2 (by decide) hS6 fun h => hla h.2.1
      | some n =>
        have e2 := look_some hm6 hf
        repeat' (first | (exfalso; omega) | refine zn ?_ | refine zK rfl ?_ | refine zP rfl ?_ | ((first | refine zm ?_ | skip); intro _; intros; simp (disch := first | exact zd | fail) only [↓yS, yT, gresults, gone, ↓reduceIte, Nat.reduceEqDiff, Nat.reduceAdd, Nat.reduceMul, reduceCtorEq, Int.reduceToNat, g7, f1, f5, f28, f29, f30, w0, v4, e2]; first | (rename_i K k; (first | refine yC (k _ _ ?_) | refine zg (k _ ?_)); clear k K) | (rename_i A B C D a b c d; (first | refine zx (a ?_) | refine zy (b ?_) | refine zz (fun hc => c ?_) (fun hc => d ?_) | refine zv (b ?_) | refine zw (a ?_)) <;> clear a b c d A B C D <;> try simp only [yL] at hc)) | refine zA ?_ | refine zB ?_ | refine zF ?_)
        all_goals exact hbd2 (by decide) hS6 fun h => hla h.2.1
    have d1 : decide (d.last < e.id) = false := decide_eq_false (by omega)
    have hbk : (∃ n, dfind e.id L = some n) → ¬ ∀ k, k < j → d.E[k]!.id ≠ e.id := fun ⟨n, hf⟩ h => by
      obtain ⟨k, _, hk, hid⟩ := (hL _ _).1 hf
      exact h k hk hid
    have hbn : dfind e.id L = none → ∀ k, k < j → d.E[k]!.id ≠ e.id := fun hf k hk hid => by
      have := (hL e.id k).2 ⟨k, rfl, hk, hid⟩
      rw [hf] at this; cases this
    obtain ⟨lv, lb, e2, hlb⟩ : ∃ lv lb, glook (.int .i64 0) true H6 (.map (some H3.len)) (.int .i64 e.id) = some (.tuple #[lv, .bool lb]) ∧ (lb = true → ∃ n, dfind e.id L = some n) ∧ (lb = false → dfind e.id L = none) := by
      cases hf : dfind e.id L with
      | none => exact ⟨_, _, look_none hm6 hf, fun h => (by cases h), fun _ => rfl⟩
      | some n => exact ⟨_, _, look_some hm6 hf, fun _ => ⟨_, rfl⟩, fun h => (by cases h)⟩
    have hl46 := hS46.len
    have hl34 := hS3.len
    have hfin : ∀ {H7 : GHeap} {fr' : Fr}, Same H6 H7 → (0 < j → lessE pe e) → (∀ k, k < j → d.E[k]!.id ≠ e.id) → fr'.get 1 = some (.pointer (some ⟨H.len, 0, none⟩)) ∧ fr'.get 5 = some (.map (some H3.len)) ∧ fr'.get 28 = some (d.ev) ∧ fr'.get 29 = some (.int .i64 d.E.length) ∧ fr'.get 30 = some (.int .i64 ((j + 1 : Nat) : Int)) → J fr' (H7.put H3.len (.dict (dic (dset e.id j L)))) := fun {H7 fr'} hS67 g1 g2 ⟨g3, g4, g5, g6, g7⟩ => by
      have hS47 := hS46.trans hS67
      have hl7 := hS47.len
      refine hJ _ _ ⟨d.E.length - (j + 1), by omega, j + 1, dset e.id j L, rfl, by omega, g3, g4, g5, g6, g7, (hS4.trans hS47).put hl34 (by omega) _, by rw [len_put]; omega, dct_put_same, fun i => ?_, ?_, hLs g2, hnx ⟨hev, hla, g1, g2⟩⟩
      · rw [rd_put_ne (by omega), hS47.rd hl4]; exact b0 i
      · rw [rdn_put_ne (by omega), hS47.rdn hl4]; exact b8
    have hset : ∀ {H7 : GHeap}, Same H6 H7 → gmset H7 (.map (some H3.len)) (.int .i64 e.id) (.int .i64 j) = some (H7.put H3.len (.dict (dic (dset e.id j L)))) := fun {H7} hS67 => by
      have hS47 := hS46.trans hS67
      exact gmset_dic ((hS47.dct hlm).trans hm) (by have := hS47.lim; omega)
    clear hJ hnx
    by_cases h0 : 0 < j
    · obtain ⟨hp4, hfp⟩ := hp h0
      have hp6 := (hS46.rdn hevl).trans hp4
      have d0 : decide ((0 : Int) < j) = true := decide_eq_true (by omega)
      repeat' (first | (exfalso; omega) | refine zn ?_ | refine zK rfl ?_ | refine zP rfl ?_ | ((first | refine zm ?_ | skip); intro _; intros; simp (disch := first | exact zd | fail) only [↓yS, yT, gresults, gone, ↓reduceIte, Nat.reduceEqDiff, Nat.reduceAdd, Nat.reduceMul, reduceCtorEq, Int.reduceToNat, g7, f1, f5, f28, f29, f30, w0, v4, e2, d1, d0, v6, hsl.ia, hp6, w7]; first | (rename_i K k; (first | refine yC (k _ _ ?_) | refine zg (k _ ?_)); clear k K) | (rename_i A B C D a b c d; (first | refine zx (a ?_) | refine zy (b ?_) | refine zz (fun hc => c ?_) (fun hc => d ?_) | refine zv (b ?_) | refine zw (a ?_)) <;> clear a b c d A B C D <;> try simp only [yL] at hc)) | refine zA ?_ | refine zB ?_ | refine zF ?_)
      intro K' hK'; refine G1_call (by simp only [gtarget, ↓GArg.ev, ↓evs, ↓Tr.get_set, Nat.reduceEqDiff, if_true, if_false, ↓reduceIte, Option.map_some, f1, f5, f28, f29, f30]; rfl) (less_ok hS6.wf hfp hf1) fun r7 H7 hq => hK' _ _ ?_
      obtain ⟨rfl, hS67⟩ := hq
      by_cases hle : lessE pe e
      case neg =>
        have d5 : decide (lessE pe e) = false := decide_eq_false hle
        repeat' (first | (exfalso; omega) | refine zn ?_ | refine zK rfl ?_ | refine zP rfl ?_ | ((first | refine zm ?_ | skip); intro _; intros; simp (disch := first | exact zd | fail) only [↓yS, yT, gresults, gone, ↓reduceIte, Nat.reduceEqDiff, Nat.reduceAdd, Nat.reduceMul, reduceCtorEq, Int.reduceToNat, g7, f1, f5, f28, f29, f30, d5, Bool.not_false]; first | (rename_i K k; (first | refine yC (k _ _ ?_) | refine zg (k _ ?_)); clear k K) | (rename_i A B C D a b c d; (first | refine zx (a ?_) | refine zy (b ?_) | refine zz (fun hc => c ?_) (fun hc => d ?_) | refine zv (b ?_) | refine zw (a ?_)) <;> clear a b c d A B C D <;> try simp only [yL] at hc)) | refine zA ?_ | refine zB ?_ | refine zF ?_)
        all_goals exact hbd2 (by decide) (hS6.trans hS67) fun h => hle (h.2.2.1 h0)
      have d5 : decide (lessE pe e) = true := decide_eq_true hle
      have x0 := (hS67.rd (Nat.lt_of_lt_of_le hl45 hS56.len)).trans w0
      have hs7 := hset hS67
      cases lb with
      | true =>
        repeat' (first | (exfalso; omega) | refine zn ?_ | refine zK rfl ?_ | refine zP rfl ?_ | ((first | refine zm ?_ | skip); intro _; intros; simp (disch := first | exact zd | fail) only [↓yS, yT, gresults, gone, ↓reduceIte, Nat.reduceEqDiff, Nat.reduceAdd, Nat.reduceMul, reduceCtorEq, Int.reduceToNat, g7, f1, f5, f28, f29, f30, d5, Bool.not_true]; first | (rename_i K k; (first | refine yC (k _ _ ?_) | refine zg (k _ ?_)); clear k K) | (rename_i A B C D a b c d; (first | refine zx (a ?_) | refine zy (b ?_) | refine zz (fun hc => c ?_) (fun hc => d ?_) | refine zv (b ?_) | refine zw (a ?_)) <;> clear a b c d A B C D <;> try simp only [yL] at hc)) | refine zA ?_ | refine zB ?_ | refine zF ?_)
        exact hbd2 (by decide) (hS6.trans hS67) fun h => hbk (hlb.1 rfl) h.2.2.2
      | false =>
        repeat' (first | (exfalso; omega) | refine zn ?_ | refine zK rfl ?_ | refine zP rfl ?_ | ((first | refine zm ?_ | skip); intro _; intros; simp (disch := first | exact zd | fail) only [↓yS, yT, gresults, gone, ↓reduceIte, Nat.reduceEqDiff, Nat.reduceAdd, Nat.reduceMul, reduceCtorEq, Int.reduceToNat, g7, f1, f5, f28, f29, f30, d5, Bool.not_true, x0, hs7]; first | (rename_i K k; (first | refine yC (k _ _ ?_) | refine zg (k _ ?_)); clear k K) | (rename_i A B C D a b c d; (first | refine zx (a ?_) | refine zy (b ?_) | refine zz (fun hc => c ?_) (fun hc => d ?_) | refine zv (b ?_) | refine zw (a ?_)) <;> clear a b c d A B C D <;> try simp only [yL] at hc)) | refine zA ?_ | refine zB ?_ | refine zF ?_)
        refine hfin hS67 (fun _ => hle) (hbn (hlb.2 rfl)) ?_
        simp only [↓yG, Nat.reduceEqDiff, ↓reduceIte, Int.natCast_add, Int.cast_ofNat_Int, Int.natCast_zero, true_and, and_true, Option.some.injEq, Value.int.injEq, f1, f5, f28, f29]
    · have d0 : decide ((0 : Int) < j) = false := decide_eq_false (by omega)
      have hs7 := hset (Same.refl hS6.wf)
      cases lb with
      | true =>
        repeat' (first | (exfalso; omega) | refine zn ?_ | refine zK rfl ?_ | refine zP rfl ?_ | ((first | refine zm ?_ | skip); intro _; intros; simp (disch := first | exact zd | fail) only [↓yS, yT, gresults, gone, ↓reduceIte, Nat.reduceEqDiff, Nat.reduceAdd, Nat.reduceMul, reduceCtorEq, Int.reduceToNat, g7, f1, f5, f28, f29, f30, w0, v4, e2, d1, d0]; first | (rename_i K k; (first | refine yC (k _ _ ?_) | refine zg (k _ ?_)); clear k K) | (rename_i A B C D a b c d; (first | refine zx (a ?_) | refine zy (b ?_) | refine zz (fun hc => c ?_) (fun hc => d ?_) | refine zv (b ?_) | refine zw (a ?_)) <;> clear a b c d A B C D <;> try simp only [yL] at hc)) | refine zA ?_ | refine zB ?_ | refine zF ?_)
        exact hbd2 (by decide) hS6 fun h => hbk (hlb.1 rfl) h.2.2.2
      | false =>
        repeat' (first | (exfalso; omega) | refine zn ?_ | refine zK rfl ?_ | refine zP rfl ?_ | ((first | refine zm ?_ | skip); intro _; intros; simp (disch := first | exact zd | fail) only [↓yS, yT, gresults, gone, ↓reduceIte, Nat.reduceEqDiff, Nat.reduceAdd, Nat.reduceMul, reduceCtorEq, Int.reduceToNat, g7, f1, f5, f28, f29, f30, w0, v4, e2, d1, d0, hs7]; first | (rename_i K k; (first | refine yC (k _ _ ?_) | refine zg (k _ ?_)); clear k K) | (rename_i A B C D a b c d; (first | refine zx (a ?_) | refine zy (b ?_) | refine zz (fun hc => c ?_) (fun hc => d ?_) | refine zv (b ?_) | refine zw (a ?_)) <;> clear a b c d A B C D <;> try simp only [yL] at hc)) | refine zA ?_ | refine zB ?_ | refine zF ?_)
        refine hfin (Same.refl hS6.wf) (fun h => absurd h h0) (hbn (hlb.2 rfl)) ?_
        simp only [↓yG, Nat.reduceEqDiff, ↓reduceIte, Int.natCast_add, Int.cast_ofNat_Int, Int.natCast_zero, true_and, and_true, Option.some.injEq, Value.int.injEq, f1, f5, f28, f29]
  · obtain rfl : j = d.E.length := by omega
    repeat' (first | (exfalso; omega) | refine zn ?_ | refine zK rfl ?_ | refine zP rfl ?_ | ((first | refine zm ?_ | skip); intro _; intros; simp (disch := first | exact zd | fail) only [↓yS, yT, gresults, gone, ↓reduceIte, Nat.reduceEqDiff, Nat.reduceAdd, Nat.reduceMul, reduceCtorEq, Int.reduceToNat, g7, f1, f5, f28, f29, f30, b8]; first | (rename_i K k; (first | refine yC (k _ _ ?_) | refine zg (k _ ?_)); clear k K) | (rename_i A B C D a b c d; (first | refine zx (a ?_) | refine zy (b ?_) | refine zz (fun hc => c ?_) (fun hc => d ?_) | refine zv (b ?_) | refine zw (a ?_)) <;> clear a b c d A B C D <;> try simp only [yL] at hc)) | refine zA ?_ | refine zB ?_ | refine zF ?_)
    refine Gw_s fun K' hK' => G1_call (by simp only [gtarget, ↓GArg.ev, ↓evs, ↓Tr.get_set, Nat.reduceEqDiff, if_true, if_false, ↓reduceIte, Option.map_some, f1, f5, f28, f29, f30]; rfl) (comments_ok hw4 (hd.later hw hS4) hs hm hlm hL) fun r5 H5 hq => hK' _ _ ?_
    obtain ⟨⟨n, rfl, hn⟩, hS45⟩ := hq
    repeat' (first | (exfalso; omega) | refine zn ?_ | refine zK rfl ?_ | refine zP rfl ?_ | ((first | refine zm ?_ | skip); intro _; intros; simp (disch := first | exact zd | fail) only [↓yS, yT, gresults, gone, ↓reduceIte, Nat.reduceEqDiff, Nat.reduceAdd, Nat.reduceMul, reduceCtorEq, Int.reduceToNat, g7, f1, f5, f28, f29, f30]; first | (rename_i K k; (first | refine yC (k _ _ ?_) | refine zg (k _ ?_)); clear k K) | (rename_i A B C D a b c d; (first | refine zx (a ?_) | refine zy (b ?_) | refine zz (fun hc => c ?_) (fun hc => d ?_) | refine zv (b ?_) | refine zw (a ?_)) <;> clear a b c d A B C D <;> try simp only [yL] at hc)) | refine zA ?_ | refine zB ?_ | refine zF ?_)
    exact hPost _ _ ⟨⟨n, rfl, hn.trans ⟨fun h => ⟨hhd, hrg, ⟨h4, hall⟩, h⟩, fun h => h.2.2.2⟩⟩, hS4.trans hS45⟩
end Go.Gh
