/-
  event, walked: a row, the lengths of rows, the length of an event's text.
-/
import Derived.Test.YtjjcgaompnjbdaaDoorTrW5
import Derived.Test.YtjjcgaompnjbdaaDoorLc
namespace Go.Gh
set_option linter.unusedSimpArgs false
set_option linter.unusedVariables false
set_option maxHeartbeats 4000000
open Go.RowKit
set_option maxRecDepth 4000

theorem cont_ok {l : List UInt8} (hl : l.length ≤ 4294967280) {B : ByteArray} (hB : B = strB [32, 32]) (H : GHeap) : gev G 48 [.string (strB l), .string B] H = some (.bool (Go.Lib.contains l [32, 32]), H) := by
  subst hB
  refine gev_lib (f := 48) rfl rfl ?_ rfl
  simp only [runContains]
  rw [if_pos (by rw [strB_size]; omega), strB_data, strB_data]
theorem byte_eq {b : UInt8} {n : Nat} (hn : n < 256) : (((b.toNat : Nat) : Int) = (n : Int)) = (b = UInt8.ofNat n) := by
  apply propext
  constructor
  · intro h
    have : b.toNat = n := by omega
    rw [← this]; simp
  · intro h; rw [h]; simp [Nat.mod_eq_of_lt hn]
theorem by32 {b : UInt8} : (((b.toNat : Nat) : Int) = 32) = (b = 32) := byte_eq (n := 32) (by decide)
theorem strB_last {l : List UInt8} {k : IntKind} (h : 0 < l.length) : gix none (.string (strB l)) (.int k ((l.length : Int) - 1)) = some (.int .u8 (l[l.length - 1]!.toNat : Nat)) := by
  have := strB_at (l := l) (k := k) (j := l.length - 1) (by omega)
  rwa [show ((l.length - 1 : Nat) : Int) = (l.length : Int) - 1 by omega] at this
theorem smR_tot {l : List SR} (h : smR l) : tot l ≤ l.length * 1048576 := tot_bound fun x hx => (h.2 x hx).1
theorem rowE_ok {H : GHeap} (hw : H.wf) {v : Value} {l : List SR} (hv : RR H v l) (hs : smR l) :
    ∃ r H', gev G 33 [rowV v] H = some (r, H') ∧ (ErrIs r (rowOk l) ∧ Same H H') := by
  refine gev_GW (f := 33) rfl fun Post hPost => ?_
  have hlim := hw.1
  have hf := hv.flat
  have htot := smR_tot hs
  have hlen := hs.1
  have ht2 : tot l ≤ 1099511627776 := Nat.le_trans htot (Nat.mul_le_mul_right 1048576 hlen)
  have hbd : ∀ {n : Int} {H'}, n ≠ 0 → Same H H' → ¬ rowOk l → Post (.int .i64 n) H' := fun hn hS h => hPost _ _ ⟨ErrIs.no hn h, hS⟩
  simp only [frameOf, Nat.reduceAdd]
  repeat' (first | refine zn ?_ | refine zK rfl ?_ | refine zP rfl ?_ | ((first | refine zm ?_ | skip); intro _; intros; simp (disch := first | exact zd | fail) only [↓yS, yT, gresults, gone, ↓reduceIte, Nat.reduceEqDiff, Nat.reduceAdd, Nat.reduceMul, reduceCtorEq, Int.reduceToNat, g33, rowV_eq, agg_all, agg_list, hf]; first | (rename_i K k; (first | refine yC (k _ _ ?_) | refine zg (k _ ?_)); clear k K) | (rename_i A B C D a b c d; (first | refine zx (a ?_) | refine zy (b ?_) | refine zz (fun hc => c ?_) (fun hc => d ?_) | refine zv (b ?_) | refine zw (a ?_)) <;> clear a b c d A B C D <;> try simp only [yL] at hc)) | refine zA ?_ | refine zB ?_ | refine zF ?_)
  have hS1 : Same H (H.add (some (.cells [v] 0 true))) := (Same.refl hw).add _
  have hv1 : ∀ {H2}, Same H H2 → RR H2 v l := fun h => hv.later hw h
  have hr1 : (H.add (some (.cells [v] 0 true))).rdn H.len 0 1 = some (rowV v) := rdn_add_all rfl rfl
  have hl1 : H.len < (H.add (some (.cells [v] 0 true))).len := by rw [len_add]; omega
  generalize H.add (some (.cells [v] 0 true)) = H1 at *
  refine Gw_s fun K' hK' => G1_call (by simp only [gtarget, ↓GArg.ev, ↓evs, ↓Tr.get_set, Nat.reduceEqDiff, if_true, if_false, ↓reduceIte, Option.map_some]; rfl) (check_ok hS1.wf (hv1 hS1) (by omega) (fun x hx => ⟨by have := (hs.2 x hx).1; omega, by have := (hs.2 x hx).2; omega⟩)) fun r2 H2 hq => hK' _ _ ?_
  obtain ⟨rfl, hS2⟩ := hq
  have hS12 := hS1.trans hS2
  have hr2 : H2.rdn H.len 0 1 = some (rowV v) := (hS2.rdn hl1).trans hr1
  have hl2 : H.len < H2.len := Nat.lt_of_lt_of_le hl1 hS2.len
  repeat' (first | refine zn ?_ | refine zK rfl ?_ | refine zP rfl ?_ | ((first | refine zm ?_ | skip); intro _; intros; simp (disch := first | exact zd | fail) only [↓yS, yT, gresults, gone, ↓reduceIte, Nat.reduceEqDiff, Nat.reduceAdd, Nat.reduceMul, reduceCtorEq, Int.reduceToNat, g33, hr2]; first | (rename_i K k; (first | refine yC (k _ _ ?_) | refine zg (k _ ?_)); clear k K) | (rename_i A B C D a b c d; (first | refine zx (a ?_) | refine zy (b ?_) | refine zz (fun hc => c ?_) (fun hc => d ?_) | refine zv (b ?_) | refine zw (a ?_)) <;> clear a b c d A B C D <;> try simp only [yL] at hc)) | refine zA ?_ | refine zB ?_ | refine zF ?_)
  case refine_1 => exact hbd hc hS12 fun h => hc h.1
  have hc0 : checkF l = 0 := by omega
  have hl16 : l.length ≤ 16 := by
    refine Nat.not_lt.1 fun h => ?_
    unfold checkF at hc0
    rw [if_pos h] at hc0
    cases hc0
  have ht3 : tot l ≤ 16777216 := Nat.le_trans htot (Nat.mul_le_mul_right 1048576 hl16)
  refine Gw_s fun K' hK' => G1_call (by simp only [gtarget, ↓GArg.ev, ↓evs, ↓Tr.get_set, Nat.reduceEqDiff, if_true, if_false, ↓reduceIte, Option.map_some, hr2]; rfl) (plain_ok hS12.wf (hv1 hS12) (by omega) (by omega)) fun r3 H3 hq => hK' _ _ ?_
  obtain ⟨rfl, hS3⟩ := hq
  have hS13 := hS12.trans hS3
  have hr3 : H3.rdn H.len 0 1 = some (rowV v) := (hS3.rdn hl2).trans hr2
  have hpl := plainF_len l
  have hrow : rowOk l = (checkF l = 0 ∧ plainF l ≠ [] ∧ (plainF l)[0]! ≠ 32 ∧ (plainF l)[(plainF l).length - 1]! ≠ 32 ∧ Go.Lib.contains (plainF l) [32, 32] = false ∧ lenF l ≤ 32) := rfl
  rw [hrow] at hbd hPost
  generalize plainF l = p at *
  have hps := strB_size p
  by_cases hp0 : p = []
  · have d0 : decide (p = []) = true := decide_eq_true hp0
    repeat' (first | refine zn ?_ | refine zK rfl ?_ | refine zP rfl ?_ | ((first | refine zm ?_ | skip); intro _; intros; simp (disch := first | exact zd | fail) only [↓yS, yT, gresults, gone, ↓reduceIte, Nat.reduceEqDiff, Nat.reduceAdd, Nat.reduceMul, reduceCtorEq, Int.reduceToNat, g33, gb_eqE, d0]; first | (rename_i K k; (first | refine yC (k _ _ ?_) | refine zg (k _ ?_)); clear k K) | (rename_i A B C D a b c d; (first | refine zx (a ?_) | refine zy (b ?_) | refine zz (fun hc => c ?_) (fun hc => d ?_) | refine zv (b ?_) | refine zw (a ?_)) <;> clear a b c d A B C D <;> try simp only [yL] at hc)) | refine zA ?_ | refine zB ?_ | refine zF ?_)
    exact hbd (by decide) hS13 fun h => h.2.1 hp0
  have hpos := List.length_pos_iff.2 hp0
  have d0 : decide (p = []) = false := decide_eq_false hp0
  have e0 := fun k => strB_at0 (k := k) hpos
  have e1 := fun k => strB_last (k := k) hpos
  repeat' (first | refine zn ?_ | refine zK rfl ?_ | refine zP rfl ?_ | ((first | refine zm ?_ | skip); intro _; intros; simp (disch := first | exact zd | fail) only [↓yS, yT, gresults, gone, ↓reduceIte, Nat.reduceEqDiff, Nat.reduceAdd, Nat.reduceMul, reduceCtorEq, Int.reduceToNat, g33, gb_eqE, d0, e0, e1, hps, by32]; first | (rename_i K k; (first | refine yC (k _ _ ?_) | refine zg (k _ ?_)); clear k K) | (rename_i A B C D a b c d; (first | refine zx (a ?_) | refine zy (b ?_) | refine zz (fun hc => c ?_) (fun hc => d ?_) | refine zv (b ?_) | refine zw (a ?_)) <;> clear a b c d A B C D <;> try simp only [yL] at hc)) | refine zA ?_ | refine zB ?_ | refine zF ?_)
  case neg.refine_1 => exact hbd (by decide) hS13 fun h => h.2.2.1 hc
  case neg.refine_2.refine_1 => exact hbd (by decide) hS13 fun h => h.2.2.2.1 hc
  intro K' hK'; refine G1_call (by simp only [gtarget, ↓GArg.ev, ↓evs, ↓Tr.get_set, Nat.reduceEqDiff, if_true, if_false, ↓reduceIte, Option.map_some]; rfl) (one_of (cont_ok (l := p) (B := ⟨#[32, 32]⟩) (by omega) rfl _)) fun r4 H4 hq => hK' _ _ ?_
  obtain ⟨rfl, rfl⟩ := hq
  cases hcn : Go.Lib.contains p [32, 32] with
  | true =>
    repeat' (first | refine zn ?_ | refine zK rfl ?_ | refine zP rfl ?_ | ((first | refine zm ?_ | skip); intro _; intros; simp (disch := first | exact zd | fail) only [↓yS, yT, gresults, gone, ↓reduceIte, Nat.reduceEqDiff, Nat.reduceAdd, Nat.reduceMul, reduceCtorEq, Int.reduceToNat, g33]; first | (rename_i K k; (first | refine yC (k _ _ ?_) | refine zg (k _ ?_)); clear k K) | (rename_i A B C D a b c d; (first | refine zx (a ?_) | refine zy (b ?_) | refine zz (fun hc => c ?_) (fun hc => d ?_) | refine zv (b ?_) | refine zw (a ?_)) <;> clear a b c d A B C D <;> try simp only [yL] at hc)) | refine zA ?_ | refine zB ?_ | refine zF ?_)
    exact hbd (by decide) hS13 fun h => by have := h.2.2.2.2.1; rw [hcn] at this; cases this
  | false =>
    repeat' (first | refine zn ?_ | refine zK rfl ?_ | refine zP rfl ?_ | ((first | refine zm ?_ | skip); intro _; intros; simp (disch := first | exact zd | fail) only [↓yS, yT, gresults, gone, ↓reduceIte, Nat.reduceEqDiff, Nat.reduceAdd, Nat.reduceMul, reduceCtorEq, Int.reduceToNat, g33, hr3]; first | (rename_i K k; (first | refine yC (k _ _ ?_) | refine zg (k _ ?_)); clear k K) | (rename_i A B C D a b c d; (first | refine zx (a ?_) | refine zy (b ?_) | refine zz (fun hc => c ?_) (fun hc => d ?_) | refine zv (b ?_) | refine zw (a ?_)) <;> clear a b c d A B C D <;> try simp only [yL] at hc)) | refine zA ?_ | refine zB ?_ | refine zF ?_)
    refine Gw_s fun K' hK' => G1_call (by simp only [gtarget, ↓GArg.ev, ↓evs, ↓Tr.get_set, Nat.reduceEqDiff, if_true, if_false, ↓reduceIte, Option.map_some, hr3]; rfl) (Len_ok hS13.wf (hv1 hS13) (by omega) (by omega)) fun r5 H5 hq => hK' _ _ ?_
    obtain ⟨rfl, hS5⟩ := hq
    repeat' (first | refine zn ?_ | refine zK rfl ?_ | refine zP rfl ?_ | ((first | refine zm ?_ | skip); intro _; intros; simp (disch := first | exact zd | fail) only [↓yS, yT, gresults, gone, ↓reduceIte, Nat.reduceEqDiff, Nat.reduceAdd, Nat.reduceMul, reduceCtorEq, Int.reduceToNat, g33]; first | (rename_i K k; (first | refine yC (k _ _ ?_) | refine zg (k _ ?_)); clear k K) | (rename_i A B C D a b c d; (first | refine zx (a ?_) | refine zy (b ?_) | refine zz (fun hc => c ?_) (fun hc => d ?_) | refine zv (b ?_) | refine zw (a ?_)) <;> clear a b c d A B C D <;> try simp only [yL] at hc)) | refine zA ?_ | refine zB ?_ | refine zF ?_)
    case neg.refine_2.refine_2.false.refine_1 => exact hbd (by decide) (hS13.trans hS5) fun h => by have := h.2.2.2.2.2; omega
    exact hPost _ _ ⟨ErrIs.yes ⟨hc0, hp0, by assumption, by assumption, hcn, by omega⟩, hS13.trans hS5⟩
/-! ### lengths -/
theorem lenF_le {l : List SR} (h : smR l) : -1 ≤ lenF l ∧ lenF l ≤ 1099511627776 := by
  have h1 := smR_tot h
  have h2 := Nat.mul_le_mul_right 1048576 h.1
  have h3 := cntL_le l
  unfold lenF
  split <;> omega
theorem lens_ok {H : GHeap} (hw : H.wf) {ε : Ev} (hT : TR H ε.v ε.L) (hl : ε.L.length ≤ 1048576) (hs : ∀ x ∈ ε.L, smR x.2) :
    ∃ r H', gev G 35 [evV ε] H = some (r, H') ∧ OS 1 1 H H' r ε.L.length (ints .i64 (ε.rows.map lenF)) := by
  refine gev_GW (f := 35) rfl fun Post hPost => ?_
  have hlim := hw.1
  have hsl := hT.isSl
  have fe := ev_cflat hT.rd.flat
  simp only [frameOf, Nat.reduceAdd]
  repeat' (first | refine zn ?_ | refine zK rfl ?_ | refine zP rfl ?_ | ((first | refine zm ?_ | skip); intro _; intros; simp (disch := first | exact zd | fail) only [↓yS, yT, gresults, gone, ↓reduceIte, Nat.reduceEqDiff, Nat.reduceAdd, Nat.reduceMul, reduceCtorEq, Int.reduceToNat, g35, RE, fe, hsl.len]; first | (rename_i K k; (first | refine yC (k _ _ ?_) | refine zg (k _ ?_)); clear k K) | (rename_i A B C D a b c d; (first | refine zx (a ?_) | refine zy (b ?_) | refine zz (fun hc => c ?_) (fun hc => d ?_) | refine zv (b ?_) | refine zw (a ?_)) <;> clear a b c d A B C D <;> try simp only [yL] at hc)) | refine zA ?_ | refine zB ?_ | refine zF ?_)
  have hSb : Same H (H.add (some (.cells (evC ε) 0 true))) := (Same.refl hw).add _
  refine GW_loop (fun k fr H1 => ∃ (j : Nat) (s : Value), k = ε.L.length - j ∧ j ≤ ε.L.length ∧ fr.get 3 = some (s) ∧ fr.get 7 = some (ε.v) ∧ fr.get 8 = some (.int .i64 ε.L.length) ∧ fr.get 9 = some (.int .i64 j) ∧ OS 1 1 H H1 s j (ints .i64 ((ε.rows.map lenF).take j))) ?_ ε.L.length ?_
  case refine_2 =>
    refine ⟨0, .slice none 0 0, by omega, by omega, ?_⟩
    simp only [↓yG, Nat.reduceEqDiff, ↓reduceIte, Int.natCast_add, Int.cast_ofNat_Int, Int.natCast_zero, true_and, and_true, Option.some.injEq, Value.int.injEq]
    exact OS.nil hSb
  rintro k fr H1 ⟨j, s, rfl, hj, f3, f7, f8, f9, hO⟩ J hJ
  have hS := hO.same
  have hw1 := hS.wf
  have hlim1 := hw1.1
  by_cases hj1 : j < ε.L.length
  · obtain ⟨e1, _, r1⟩ := (hT.later hw hS).row hj1
    have hsm := hs _ (bang_mem hj1)
    have htk : (ε.rows.map lenF).take (j + 1) = (ε.rows.map lenF).take j ++ [lenF ε.L[j]!.2] := by
      rw [List.take_succ_eq_append_getElem (by simpa [Ev.rows] using hj1)]
      simp [Ev.rows, getElem!_pos ε.L j hj1]
    have hrow : ∀ x, rowV x = .agg [x].toArray := fun _ => rfl
    generalize ε.L[j]!.1 = w0 at *
    generalize ε.L[j]!.2 = l0 at *
    have hf := r1.flat
    have hst := gst_add hw1 (n := 1) (z := [.slice none 0 0]) (u := 0) (vs := #[w0]) rfl rfl (by simp [hf])
    have hle := lenF_le hsm
    have htot := smR_tot hsm
    have hlen := hsm.1
    have ht2 : tot l0 ≤ 1099511627776 := Nat.le_trans htot (Nat.mul_le_mul_right 1048576 hlen)
    repeat' (first | (exfalso; omega) | refine zn ?_ | refine zK rfl ?_ | refine zP rfl ?_ | ((first | refine zm ?_ | skip); intro _; intros; simp (disch := first | exact zd | fail) only [↓yS, yT, gresults, gone, ↓reduceIte, Nat.reduceEqDiff, Nat.reduceAdd, Nat.reduceMul, reduceCtorEq, Int.reduceToNat, g35, f3, f7, f8, f9, hsl.ia, e1, hrow, hst]; first | (rename_i K k; (first | refine yC (k _ _ ?_) | refine zg (k _ ?_)); clear k K) | (rename_i A B C D a b c d; (first | refine zx (a ?_) | refine zy (b ?_) | refine zz (fun hc => c ?_) (fun hc => d ?_) | refine zv (b ?_) | refine zw (a ?_)) <;> clear a b c d A B C D <;> try simp only [yL] at hc)) | refine zA ?_ | refine zB ?_ | refine zF ?_)
    have hS12 : Same H1 ((H1.add (some (.cells [.slice none 0 0] 0 true))).put H1.len (.cells [w0] 0 true)) := (Same.refl hw1).new _ _
    generalize (H1.add (some (.cells [.slice none 0 0] 0 true))).put H1.len (.cells [w0] 0 true) = H2 at *
    refine Gw_s fun K' hK' => G1_call (by simp only [gtarget, ↓GArg.ev, ↓evs, ↓Tr.get_set, Nat.reduceEqDiff, if_true, if_false, ↓reduceIte, Option.map_some, f3, f7, f8, f9]; rfl) (Len_ok (hS.trans hS12).wf (r1.later hw1 hS12) (by omega) (by omega)) fun r3 H3 hq => hK' _ _ ?_
    obtain ⟨rfl, hS3⟩ := hq
    repeat' (first | (exfalso; omega) | refine zn ?_ | refine zK rfl ?_ | refine zP rfl ?_ | ((first | refine zm ?_ | skip); intro _; intros; simp (disch := first | exact zd | fail) only [↓yS, yT, gresults, gone, ↓reduceIte, Nat.reduceEqDiff, Nat.reduceAdd, Nat.reduceMul, reduceCtorEq, Int.reduceToNat, g35, f3, f7, f8, f9]; first | (rename_i K k; (first | refine yC (k _ _ ?_) | refine zg (k _ ?_)); clear k K) | (rename_i A B C D a b c d; (first | refine zx (a ?_) | refine zy (b ?_) | refine zz (fun hc => c ?_) (fun hc => d ?_) | refine zv (b ?_) | refine zw (a ?_)) <;> clear a b c d A B C D <;> try simp only [yL] at hc)) | refine zA ?_ | refine zB ?_ | refine zF ?_)
    have hO3 := (hO.later hS12).later hS3
    refine Gw_s fun K' hK' => ?_
    simp (disch := first | exact zd | fail) only [↓yS, yT, ↓reduceIte, Nat.reduceEqDiff, Nat.reduceAdd, Nat.reduceMul, reduceCtorEq, Int.reduceToNat, f3, f7, f8, f9]
    obtain ⟨v', H4, e, hO4, _⟩ := hO3.app1 (by decide) (by decide) (news := ints .i64 ((List.replicate 1 0).set 0 (lenF l0))) rfl (b := 8) (by omega) (by omega)
    refine G1_eq e (hK' _ _ ?_)
    clear hK' K' e
    repeat' (first | (exfalso; omega) | refine zn ?_ | refine zK rfl ?_ | refine zP rfl ?_ | ((first | refine zm ?_ | skip); intro _; intros; simp (disch := first | exact zd | fail) only [↓yS, yT, gresults, gone, ↓reduceIte, Nat.reduceEqDiff, Nat.reduceAdd, Nat.reduceMul, reduceCtorEq, Int.reduceToNat, g35, f3, f7, f8, f9]; first | (rename_i K k; (first | refine yC (k _ _ ?_) | refine zg (k _ ?_)); clear k K) | (rename_i A B C D a b c d; (first | refine zx (a ?_) | refine zy (b ?_) | refine zz (fun hc => c ?_) (fun hc => d ?_) | refine zv (b ?_) | refine zw (a ?_)) <;> clear a b c d A B C D <;> try simp only [yL] at hc)) | refine zA ?_ | refine zB ?_ | refine zF ?_)
    refine hJ _ _ ⟨ε.L.length - (j + 1), by omega, j + 1, v', rfl, by omega, ?_⟩
    simp only [↓yG, Nat.reduceEqDiff, ↓reduceIte, Int.natCast_add, Int.cast_ofNat_Int, Int.natCast_zero, true_and, and_true, Option.some.injEq, Value.int.injEq, f7, f8]
    have e4 : ints .i64 ((ε.rows.map lenF).take (j + 1)) = ints .i64 ((ε.rows.map lenF).take j) ++ ints .i64 ((List.replicate 1 0).set 0 (lenF l0)) := by
      rw [htk]; simp [ints]
    rw [e4]; exact hO4
  · obtain rfl : j = ε.L.length := by omega
    rw [List.take_of_length_le (by simp [Ev.rows])] at hO
    repeat' (first | (exfalso; omega) | refine zn ?_ | refine zK rfl ?_ | refine zP rfl ?_ | ((first | refine zm ?_ | skip); intro _; intros; simp (disch := first | exact zd | fail) only [↓yS, yT, gresults, gone, ↓reduceIte, Nat.reduceEqDiff, Nat.reduceAdd, Nat.reduceMul, reduceCtorEq, Int.reduceToNat, g35, f3, f7, f8, f9]; first | (rename_i K k; (first | refine yC (k _ _ ?_) | refine zg (k _ ?_)); clear k K) | (rename_i A B C D a b c d; (first | refine zx (a ?_) | refine zy (b ?_) | refine zz (fun hc => c ?_) (fun hc => d ?_) | refine zv (b ?_) | refine zw (a ?_)) <;> clear a b c d A B C D <;> try simp only [yL] at hc)) | refine zA ?_ | refine zB ?_ | refine zF ?_)
    exact hPost _ _ hO
theorem lenS_c {n a : Int} {r : List Int} : lenS (n :: r) a = if n < 0 then -1 else lenS r (a + n) := rfl
theorem lenE_ok {H : GHeap} (hw : H.wf) {e : Ev} (hT : TR H e.v e.L) (hl : e.L.length ≤ 1048576) (hs : ∀ x ∈ e.L, smR x.2) :
    ∃ r H', gev G 52 [evV e] H = some (r, H') ∧ (r = .int .i64 (lenE e.rows) ∧ Same H H') := by
  refine gev_GW (f := 52) rfl fun Post hPost => ?_
  have hlim := hw.1
  have hsl := hT.isSl
  have fe := ev_cflat hT.rd.flat
  have hrl : e.rows.length = e.L.length := by simp [Ev.rows]
  simp only [frameOf, Nat.reduceAdd]
  have hmx : (if (0 : Int) > (e.L.length : Int) - 1 then (0 : Int) else (e.L.length : Int) - 1) = max ((e.L.length : Int) - 1) 0 := by split <;> omega
  repeat' (first | refine zn ?_ | refine zK rfl ?_ | refine zP rfl ?_ | ((first | refine zm ?_ | skip); intro _; intros; simp (disch := first | exact zd | fail) only [↓yS, yT, gresults, gone, ↓reduceIte, Nat.reduceEqDiff, Nat.reduceAdd, Nat.reduceMul, reduceCtorEq, Int.reduceToNat, g52, RE, fe, hsl.len]; first | (rename_i K k; (first | refine yC (k _ _ ?_) | refine zg (k _ ?_)); clear k K) | (rename_i A B C D a b c d; (first | refine zx (a ?_) | refine zy (b ?_) | refine zz (fun hc => c ?_) (fun hc => d ?_) | refine zv (b ?_) | refine zw (a ?_)) <;> clear a b c d A B C D <;> try simp only [yL] at hc)) | refine zA ?_ | refine zB ?_ | refine zF ?_)
  have hSb : Same H (H.add (some (.cells (evC e) 0 true))) := (Same.refl hw).add _
  refine Gw_s fun K' hK' => G1_call (by simp only [gtarget, ↓GArg.ev, ↓evs, ↓Tr.get_set, Nat.reduceEqDiff, if_true, if_false, ↓reduceIte, Option.map_some]; rfl) (lens_ok hSb.wf (hT.later hw hSb) hl hs) fun r2 H2 hO => hK' _ _ ?_
  have hS2 := hSb.trans hO.same
  have hsl2 := hO.rd.isSl
  have hN : ∀ n ∈ e.rows.map lenF, -1 ≤ n ∧ n ≤ 1099511627776 := by
    intro n hn
    simp only [Ev.rows, List.map_map, List.mem_map] at hn
    obtain ⟨x, hx, rfl⟩ := hn
    exact lenF_le (hs x hx)
  have hPost2 : ∀ {n : Int} {H'}, Same H H' → n = lenS (e.rows.map lenF) (max ((e.L.length : Int) - 1) 0) → Post (.int .i64 n) H' := fun h1 h2 => hPost _ _ ⟨by rw [h2, lenE, hrl], h1⟩
  have hNl : (e.rows.map lenF).length = e.L.length := by simp [Ev.rows]
  have hrd := hO.rd
  generalize e.rows.map lenF = N at *
  clear hPost hmx
  repeat' (first | refine zn ?_ | refine zK rfl ?_ | refine zP rfl ?_ | ((first | refine zm ?_ | skip); intro _; intros; simp (disch := first | exact zd | fail) only [↓yS, yT, gresults, gone, ↓reduceIte, Nat.reduceEqDiff, Nat.reduceAdd, Nat.reduceMul, reduceCtorEq, Int.reduceToNat, g52, hsl2.len]; first | (rename_i K k; (first | refine yC (k _ _ ?_) | refine zg (k _ ?_)); clear k K) | (rename_i A B C D a b c d; (first | refine zx (a ?_) | refine zy (b ?_) | refine zz (fun hc => c ?_) (fun hc => d ?_) | refine zv (b ?_) | refine zw (a ?_)) <;> clear a b c d A B C D <;> try simp only [yL] at hc)) | refine zA ?_ | refine zB ?_ | refine zF ?_)
  refine GW_loop (fun k fr H1 => ∃ (j : Nat) (a : Int), k = N.length - j ∧ j ≤ N.length ∧ fr.get 3 = some (.int .i64 a) ∧ fr.get 12 = some (r2) ∧ fr.get 13 = some (.int .i64 e.L.length) ∧ fr.get 14 = some (.int .i64 j) ∧ H1 = H2 ∧ lenS N (max ((e.L.length : Int) - 1) 0) = lenS (N.drop j) a ∧ (0 ≤ a ∧ a ≤ 1048576 + j * 1099511627776)) ?_ N.length ?_
  case refine_2 =>
    refine ⟨0, max ((e.L.length : Int) - 1) 0, by omega, by omega, ?_⟩
    simp only [↓yG, Nat.reduceEqDiff, ↓reduceIte, Int.natCast_add, Int.cast_ofNat_Int, Int.natCast_zero, true_and, and_true, Option.some.injEq, Value.int.injEq]
    exact ⟨rfl, by omega⟩
  rintro k fr H1 ⟨j, a, rfl, hj, f3, f12, f13, f14, rfl, hL, ha⟩ J hJ
  by_cases hj1 : j < N.length
  · have e1 : H1.rd (blk r2) (ofs r2 + j) = some (.int .i64 N[j]!) := by rw [hrd.rd (by rw [ints_length]; exact hj1), ints_at hj1]
    have hb := hN _ (bang_mem hj1)
    rw [List.drop_eq_getElem_cons hj1, ← getElem!_pos N j hj1] at hL
    generalize N[j]! = n at *
    rw [lenS_c] at hL
    repeat' (first | (exfalso; omega) | refine zn ?_ | refine zK rfl ?_ | refine zP rfl ?_ | ((first | refine zm ?_ | skip); intro _; intros; simp (disch := first | exact zd | fail) only [↓yS, yT, gresults, gone, ↓reduceIte, Nat.reduceEqDiff, Nat.reduceAdd, Nat.reduceMul, reduceCtorEq, Int.reduceToNat, g52, f3, f12, f13, f14, hsl2.ia, Nat.mul_one, e1]; first | (rename_i K k; (first | refine yC (k _ _ ?_) | refine zg (k _ ?_)); clear k K) | (rename_i A B C D a b c d; (first | refine zx (a ?_) | refine zy (b ?_) | refine zz (fun hc => c ?_) (fun hc => d ?_) | refine zv (b ?_) | refine zw (a ?_)) <;> clear a b c d A B C D <;> try simp only [yL] at hc)) | refine zA ?_ | refine zB ?_ | refine zF ?_)
    case pos.refine_1 =>
      rw [if_pos hc] at hL
      exact hPost2 hS2 hL.symm
    rw [if_neg (by omega)] at hL
    refine hJ _ _ ⟨N.length - (j + 1), by omega, j + 1, a + n, rfl, by omega, ?_⟩
    simp only [↓yG, Nat.reduceEqDiff, ↓reduceIte, Int.natCast_add, Int.cast_ofNat_Int, Int.natCast_zero, true_and, and_true, Option.some.injEq, Value.int.injEq, f12, f13]
    exact ⟨hL, by omega, by omega⟩
  · obtain rfl : j = N.length := by omega
    rw [List.drop_length] at hL
    repeat' (first | (exfalso; omega) | refine zn ?_ | refine zK rfl ?_ | refine zP rfl ?_ | ((first | refine zm ?_ | skip); intro _; intros; simp (disch := first | exact zd | fail) only [↓yS, yT, gresults, gone, ↓reduceIte, Nat.reduceEqDiff, Nat.reduceAdd, Nat.reduceMul, reduceCtorEq, Int.reduceToNat, g52, f3, f12, f13, f14]; first | (rename_i K k; (first | refine yC (k _ _ ?_) | refine zg (k _ ?_)); clear k K) | (rename_i A B C D a b c d; (first | refine zx (a ?_) | refine zy (b ?_) | refine zz (fun hc => c ?_) (fun hc => d ?_) | refine zv (b ?_) | refine zw (a ?_)) <;> clear a b c d A B C D <;> try simp only [yL] at hc)) | refine zA ?_ | refine zB ?_ | refine zF ?_)
    exact hPost2 hS2 hL.symm
end Go.Gh
