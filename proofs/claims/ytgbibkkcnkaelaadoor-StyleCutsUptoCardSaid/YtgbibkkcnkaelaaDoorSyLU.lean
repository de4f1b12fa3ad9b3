/-
  The law StyleCuts, walked.
-/
import Derived.Test.YtgbibkkcnkaelaaDoorSyM
import Derived.Test.YtgbibkkcnkaelaaDoorSyA3
namespace Go.Gh
set_option linter.unusedSimpArgs false
set_option linter.unusedVariables false
open Go.RowKit
set_option maxRecDepth 4000

set_option maxHeartbeats 1000000 in
theorem cuts_ok {H : GHeap} (hw : H.wf) {a : Value} {A : List SR} (ha : ArgR H a A) {i : Int} (hi : -9223372036854775808 ≤ i ∧ i ≤ 9223372036854775807) :
    ∃ r H', gev G 4 [rowV a, .int .i64 i] H = some (r, H') ∧ r = .bool true := by
  refine gev_GW (f := 4) rfl fun Post hPost => ?_
  have hlim := hw.1
  have hf := ha.rr.flat
  have htA := ha.tot
  have hlA := ha.len
  have hlr := lenF_range A
  have hsA := sliceF_tot A 0 i
  have hsB := sliceF_tot A i (lenF A)
  have hsN := normF_tot (sliceF A 0 i ++ sliceF A i (lenF A))
  rw [List.length_append, tot_append] at hsN
  simp only [frameOf, Nat.reduceAdd]
  have hS0 : Same H (H.add (some (.cells [a] 0 true))) := (Same.refl hw).add _
  have kr : (H.add (some (.cells [a] 0 true))).rdn H.len 0 1 = some (rowV a) := rdn_add_all (n := 1) rfl rfl
  have hl0 : (H.add (some (.cells [a] 0 true))).len = H.len + 1 := by rw [len_add]
  repeat' (first | refine zA ?_ | refine zB ?_ | refine zC ?_ | refine zD ?_ | refine zE ?_ | refine zF ?_ | refine zG ?_ | refine zH ?_ | refine zI ?_ | refine zJ ?_ | refine zK rfl ?_ | refine zL ?_ | refine zM ?_ | refine zN ?_ | refine zO ?_ | refine zP rfl ?_ | refine zQ ?_ | ((first | refine zR ?_ | refine zS ?_ | refine zT ?_ | skip); intro K k; simp (disch := (first | (simp only [yD2, beq_self_eq_true, Nat.reduceLT, Nat.reduceAdd]; done) | ((fail_if_success (apply Bool.eq_iff_iff.2)); first | omega | (simp only [yD2, beq_self_eq_true, Nat.reduceLT, Nat.reduceAdd] <;> omega)) | fail)) only [↓yS, yT, ↓reduceIte, Nat.reduceEqDiff, Nat.reduceAdd, Nat.reduceMul, reduceCtorEq, Int.reduceToNat, g4, rowV_eq, agg_all, agg_list, hf]; refine yC (k _ _ ?_); clear k K) | ((first | refine zU ?_ | refine zV ?_ | refine zW ?_); intro A B C D a b c d; simp only [↓yG, Nat.reduceEqDiff, ↓reduceIte, g4, rowV_eq, agg_all, agg_list, hf]; (first | refine zX (a ?_) | refine zY (b ?_) | refine zZ (fun hc => c ?_) (fun hc => d ?_)) <;> clear a b c d A B C D <;> try simp only [yL] at hc) | (refine yA ?_; intro A a; simp only [↓yG, Nat.reduceEqDiff, ↓reduceIte, g4, rowV_eq, agg_all, agg_list, hf]; refine yB (a ?_); clear a A) | (refine yD ?_; simp only [gresults, ↓yG, Nat.reduceEqDiff, ↓reduceIte, Option.bind_some, gld_1, gld_n, g4, rowV_eq, agg_all, agg_list, hf]; refine ⟨_, rfl, ?_⟩; simp only [gone]))
  generalize H.add (some (.cells [a] 0 true)) = Hb at *
  have mr : ∀ {H'}, Same Hb H' → H'.rdn H.len 0 1 = some (rowV a) := fun hs => by rw [hs.rdn (by omega)]; exact kr
  have aA : ∀ {H'}, Same Hb H' → RR H' a A := fun hs => ha.rr.later hw (hS0.trans hs)
  have hwb := hS0.wf
  refine Gw_s fun K' hK' => G1_call (by simp only [gtarget, ↓GArg.ev, ↓evs, ↓Tr.get_set, Nat.reduceEqDiff, if_true, if_false, ↓reduceIte, Option.map_some]; rfl) (one_of (awake_gev _)) fun r0 H0 hq => hK' _ _ ?_
  obtain ⟨rfl, rfl⟩ := hq
  have s0 := Same.refl hwb
  have hzc : [Value.int .u8 0, .bool false, .bool false] = syC syZ := rfl
  have hgp : ∀ w, gpart none 0 (rowV w) = some w := fun _ => rfl
  repeat' (first | (exfalso; omega) | refine zA ?_ | refine zB ?_ | refine zC ?_ | refine zD ?_ | refine zE ?_ | refine zF ?_ | refine zG ?_ | refine zH ?_ | refine zI ?_ | refine zJ ?_ | refine zK rfl ?_ | refine zL ?_ | refine zM ?_ | refine zN ?_ | refine zO ?_ | refine zP rfl ?_ | refine zQ ?_ | ((first | refine zR ?_ | refine zS ?_ | refine zT ?_ | skip); intro K k; simp (disch := (first | (simp only [yD2, beq_self_eq_true, Nat.reduceLT, Nat.reduceAdd]; done) | ((fail_if_success (apply Bool.eq_iff_iff.2)); first | omega | (simp only [yD2, beq_self_eq_true, Nat.reduceLT, Nat.reduceAdd] <;> omega)) | fail)) only [↓yS, yT, ↓reduceIte, Nat.reduceEqDiff, Nat.reduceAdd, Nat.reduceMul, reduceCtorEq, Int.reduceToNat, g4, mr s0]; refine yC (k _ _ ?_); clear k K) | ((first | refine zU ?_ | refine zV ?_ | refine zW ?_); intro A B C D a b c d; simp only [↓yG, Nat.reduceEqDiff, ↓reduceIte, g4, mr s0]; (first | refine zX (a ?_) | refine zY (b ?_) | refine zZ (fun hc => c ?_) (fun hc => d ?_)) <;> clear a b c d A B C D <;> try simp only [yL] at hc) | (refine yA ?_; intro A a; simp only [↓yG, Nat.reduceEqDiff, ↓reduceIte, g4, mr s0]; refine yB (a ?_); clear a A) | (refine yD ?_; simp only [gresults, ↓yG, Nat.reduceEqDiff, ↓reduceIte, Option.bind_some, gld_1, gld_n, g4, mr s0]; refine ⟨_, rfl, ?_⟩; simp only [gone]))
  refine Gw_s fun K' hK' => G1_call (by simp only [gtarget, ↓GArg.ev, ↓evs, ↓Tr.get_set, Nat.reduceEqDiff, if_true, if_false, ↓reduceIte, Option.map_some]; rfl) (Len_ok s0.wf (aA s0) (by omega) (by omega)) fun r1 K1 hq => hK' _ _ ?_
  obtain ⟨rfl, hS⟩ := hq
  have s1a := s0.trans hS
  have i1 := hS
  clear hS
  by_cases hneg : lenF A < 0
  · repeat' (first | (exfalso; omega) | refine zA ?_ | refine zB ?_ | refine zC ?_ | refine zD ?_ | refine zE ?_ | refine zF ?_ | refine zG ?_ | refine zH ?_ | refine zI ?_ | refine zJ ?_ | refine zK rfl ?_ | refine zL ?_ | refine zM ?_ | refine zN ?_ | refine zO ?_ | refine zP rfl ?_ | refine zQ ?_ | ((first | refine zR ?_ | refine zS ?_ | refine zT ?_ | skip); intro K k; simp (disch := (first | (simp only [yD2, beq_self_eq_true, Nat.reduceLT, Nat.reduceAdd]; done) | ((fail_if_success (apply Bool.eq_iff_iff.2)); first | omega | (simp only [yD2, beq_self_eq_true, Nat.reduceLT, Nat.reduceAdd] <;> omega)) | fail)) only [↓yS, yT, ↓reduceIte, Nat.reduceEqDiff, Nat.reduceAdd, Nat.reduceMul, reduceCtorEq, Int.reduceToNat, g4, mr s1a]; refine yC (k _ _ ?_); clear k K) | ((first | refine zU ?_ | refine zV ?_ | refine zW ?_); intro A B C D a b c d; simp only [↓yG, Nat.reduceEqDiff, ↓reduceIte, g4, mr s1a]; (first | refine zX (a ?_) | refine zY (b ?_) | refine zZ (fun hc => c ?_) (fun hc => d ?_)) <;> clear a b c d A B C D <;> try simp only [yL] at hc) | (refine yA ?_; intro A a; simp only [↓yG, Nat.reduceEqDiff, ↓reduceIte, g4, mr s1a]; refine yB (a ?_); clear a A) | (refine yD ?_; simp only [gresults, ↓yG, Nat.reduceEqDiff, ↓reduceIte, Option.bind_some, gld_1, gld_n, g4, mr s1a]; refine ⟨_, rfl, ?_⟩; simp only [gone]))
    refine Gw_s fun K' hK' => G1_call (by simp only [gtarget, ↓GArg.ev, ↓evs, ↓Tr.get_set, Nat.reduceEqDiff, if_true, if_false, ↓reduceIte, Option.map_some]; rfl) (slice_ok' s1a.wf (aA s1a) (by omega) (by omega) (i := 0) (j := i) (by omega) hi) fun r2 K2 hq => hK' _ _ ?_
    obtain ⟨w1, rfl, hO⟩ := hq
    have o2 := hO
    clear hO
    have s2a := s1a.trans o2.same
    have i2 := o2.same
    have hnil : sliceF A 0 i = [] := by rw [sliceF, if_pos hneg]
    rw [hnil] at o2
    have hsw := (OR.rr o2).isSl
    repeat' (first | (exfalso; omega) | refine zA ?_ | refine zB ?_ | refine zC ?_ | refine zD ?_ | refine zE ?_ | refine zF ?_ | refine zG ?_ | refine zH ?_ | refine zI ?_ | refine zJ ?_ | refine zK rfl ?_ | refine zL ?_ | refine zM ?_ | refine zN ?_ | refine zO ?_ | refine zP rfl ?_ | refine zQ ?_ | ((first | refine zR ?_ | refine zS ?_ | refine zT ?_ | skip); intro K k; simp (disch := (first | (simp only [yD2, beq_self_eq_true, Nat.reduceLT, Nat.reduceAdd]; done) | ((fail_if_success (apply Bool.eq_iff_iff.2)); first | omega | (simp only [yD2, beq_self_eq_true, Nat.reduceLT, Nat.reduceAdd] <;> omega)) | fail)) only [↓yS, yT, ↓reduceIte, Nat.reduceEqDiff, Nat.reduceAdd, Nat.reduceMul, reduceCtorEq, Int.reduceToNat, g4, hgp, hsw.len, List.length_nil]; refine yC (k _ _ ?_); clear k K) | ((first | refine zU ?_ | refine zV ?_ | refine zW ?_); intro A B C D a b c d; simp only [↓yG, Nat.reduceEqDiff, ↓reduceIte, g4, hgp, hsw.len, List.length_nil]; (first | refine zX (a ?_) | refine zY (b ?_) | refine zZ (fun hc => c ?_) (fun hc => d ?_)) <;> clear a b c d A B C D <;> try simp only [yL] at hc) | (refine yA ?_; intro A a; simp only [↓yG, Nat.reduceEqDiff, ↓reduceIte, g4, hgp, hsw.len, List.length_nil]; refine yB (a ?_); clear a A) | (refine yD ?_; simp only [gresults, ↓yG, Nat.reduceEqDiff, ↓reduceIte, Option.bind_some, gld_1, gld_n, g4, hgp, hsw.len, List.length_nil]; refine ⟨_, rfl, ?_⟩; simp only [gone]))
    exact hPost _ _ rfl
  have hok := lenF_okV (l := A) (by omega)
  obtain ⟨hch, hokR⟩ := cuts_plain hok i
  have hlen := lenF_ok hok
  repeat' (first | (exfalso; omega) | refine zA ?_ | refine zB ?_ | refine zC ?_ | refine zD ?_ | refine zE ?_ | refine zF ?_ | refine zG ?_ | refine zH ?_ | refine zI ?_ | refine zJ ?_ | refine zK rfl ?_ | refine zL ?_ | refine zM ?_ | refine zN ?_ | refine zO ?_ | refine zP rfl ?_ | refine zQ ?_ | ((first | refine zR ?_ | refine zS ?_ | refine zT ?_ | skip); intro K k; simp (disch := (first | (simp only [yD2, beq_self_eq_true, Nat.reduceLT, Nat.reduceAdd]; done) | ((fail_if_success (apply Bool.eq_iff_iff.2)); first | omega | (simp only [yD2, beq_self_eq_true, Nat.reduceLT, Nat.reduceAdd] <;> omega)) | fail)) only [↓yS, yT, ↓reduceIte, Nat.reduceEqDiff, Nat.reduceAdd, Nat.reduceMul, reduceCtorEq, Int.reduceToNat, g4, mr s1a]; refine yC (k _ _ ?_); clear k K) | ((first | refine zU ?_ | refine zV ?_ | refine zW ?_); intro A B C D a b c d; simp only [↓yG, Nat.reduceEqDiff, ↓reduceIte, g4, mr s1a]; (first | refine zX (a ?_) | refine zY (b ?_) | refine zZ (fun hc => c ?_) (fun hc => d ?_)) <;> clear a b c d A B C D <;> try simp only [yL] at hc) | (refine yA ?_; intro A a; simp only [↓yG, Nat.reduceEqDiff, ↓reduceIte, g4, mr s1a]; refine yB (a ?_); clear a A) | (refine yD ?_; simp only [gresults, ↓yG, Nat.reduceEqDiff, ↓reduceIte, Option.bind_some, gld_1, gld_n, g4, mr s1a]; refine ⟨_, rfl, ?_⟩; simp only [gone]))
  refine Gw_s fun K' hK' => G1_callM (by simp only [gtarget, ↓GArg.ev, ↓evs, ↓Tr.get_set, Nat.reduceEqDiff, if_true, if_false, ↓reduceIte, Option.map_some]; rfl) (slice_ok' (wf_up s1a.wf) (aA s1a).up (by omega) (by omega) (i := 0) (j := i) (by omega) hi) fun r3 K3 hq => hK' _ _ ?_
  obtain ⟨w2, rfl, hO⟩ := hq
  have o3 := OR.down s1a.wf hO
  clear hO
  generalize K3.down K1.lim = L3 at o3 ⊢
  have s3a := s1a.trans o3.same
  have i3 := o3.same
  repeat' (first | (exfalso; omega) | refine zA ?_ | refine zB ?_ | refine zC ?_ | refine zD ?_ | refine zE ?_ | refine zF ?_ | refine zG ?_ | refine zH ?_ | refine zI ?_ | refine zJ ?_ | refine zK rfl ?_ | refine zL ?_ | refine zM ?_ | refine zN ?_ | refine zO ?_ | refine zP rfl ?_ | refine zQ ?_ | ((first | refine zR ?_ | refine zS ?_ | refine zT ?_ | skip); intro K k; simp (disch := (first | (simp only [yD2, beq_self_eq_true, Nat.reduceLT, Nat.reduceAdd]; done) | ((fail_if_success (apply Bool.eq_iff_iff.2)); first | omega | (simp only [yD2, beq_self_eq_true, Nat.reduceLT, Nat.reduceAdd] <;> omega)) | fail)) only [↓yS, yT, ↓reduceIte, Nat.reduceEqDiff, Nat.reduceAdd, Nat.reduceMul, reduceCtorEq, Int.reduceToNat, g4, mr s3a]; refine yC (k _ _ ?_); clear k K) | ((first | refine zU ?_ | refine zV ?_ | refine zW ?_); intro A B C D a b c d; simp only [↓yG, Nat.reduceEqDiff, ↓reduceIte, g4, mr s3a]; (first | refine zX (a ?_) | refine zY (b ?_) | refine zZ (fun hc => c ?_) (fun hc => d ?_)) <;> clear a b c d A B C D <;> try simp only [yL] at hc) | (refine yA ?_; intro A a; simp only [↓yG, Nat.reduceEqDiff, ↓reduceIte, g4, mr s3a]; refine yB (a ?_); clear a A) | (refine yD ?_; simp only [gresults, ↓yG, Nat.reduceEqDiff, ↓reduceIte, Option.bind_some, gld_1, gld_n, g4, mr s3a]; refine ⟨_, rfl, ?_⟩; simp only [gone]))
  refine Gw_s fun K' hK' => G1_callM (by simp only [gtarget, ↓GArg.ev, ↓evs, ↓Tr.get_set, Nat.reduceEqDiff, if_true, if_false, ↓reduceIte, Option.map_some]; rfl) (slice_ok' (wf_up s3a.wf) (aA s3a).up (by omega) (by omega) (i := i) (j := lenF A) hi (by omega)) fun r4 K4 hq => hK' _ _ ?_
  obtain ⟨w3, rfl, hO⟩ := hq
  have o4 := OR.down s3a.wf hO
  clear hO
  generalize K4.down L3.lim = L4 at o4 ⊢
  have s4a := s3a.trans o4.same
  have i4 := o4.same
  repeat' (first | (exfalso; omega) | refine zA ?_ | refine zB ?_ | refine zC ?_ | refine zD ?_ | refine zE ?_ | refine zF ?_ | refine zG ?_ | refine zH ?_ | refine zI ?_ | refine zJ ?_ | refine zK rfl ?_ | refine zL ?_ | refine zM ?_ | refine zN ?_ | refine zO ?_ | refine zP rfl ?_ | refine zQ ?_ | ((first | refine zR ?_ | refine zS ?_ | refine zT ?_ | skip); intro K k; simp (disch := (first | (simp only [yD2, beq_self_eq_true, Nat.reduceLT, Nat.reduceAdd]; done) | ((fail_if_success (apply Bool.eq_iff_iff.2)); first | omega | (simp only [yD2, beq_self_eq_true, Nat.reduceLT, Nat.reduceAdd] <;> omega)) | fail)) only [↓yS, yT, ↓reduceIte, Nat.reduceEqDiff, Nat.reduceAdd, Nat.reduceMul, reduceCtorEq, Int.reduceToNat, g4, mr s4a]; refine yC (k _ _ ?_); clear k K) | ((first | refine zU ?_ | refine zV ?_ | refine zW ?_); intro A B C D a b c d; simp only [↓yG, Nat.reduceEqDiff, ↓reduceIte, g4, mr s4a]; (first | refine zX (a ?_) | refine zY (b ?_) | refine zZ (fun hc => c ?_) (fun hc => d ?_)) <;> clear a b c d A B C D <;> try simp only [yL] at hc) | (refine yA ?_; intro A a; simp only [↓yG, Nat.reduceEqDiff, ↓reduceIte, g4, mr s4a]; refine yB (a ?_); clear a A) | (refine yD ?_; simp only [gresults, ↓yG, Nat.reduceEqDiff, ↓reduceIte, Option.bind_some, gld_1, gld_n, g4, mr s4a]; refine ⟨_, rfl, ?_⟩; simp only [gone]))
  refine Gw_s fun K' hK' => G1_callM (by simp only [gtarget, ↓GArg.ev, ↓evs, ↓Tr.get_set, Nat.reduceEqDiff, if_true, if_false, ↓reduceIte, Option.map_some]; rfl) (Concat_ok (wf_up s4a.wf) (OR.rr (o3.later i4)).up (OR.rr o4).up (by omega) (by omega)) fun r5 K5 hq => hK' _ _ ?_
  obtain ⟨w4, rfl, hO⟩ := hq
  have o5 := OR.down s4a.wf hO
  clear hO
  generalize K5.down L4.lim = L5 at o5 ⊢
  have s5a := s4a.trans o5.same
  have i5 := o5.same
  generalize hR : normF (sliceF A 0 i ++ sliceF A i (lenF A)) = R at *
  have hg1 : ∀ c, gsetn [c] 0 1 (rowV w4) = some [w4] := fun c => gsetn_all (vs := #[w4]) rfl rfl (by simpa using OR.flat o5)
  have t6 : Same L5 ((L5.add (some (.cells [.slice none 0 0] 0 true))).put L5.len (.cells [w4] 0 true)) := (Same.refl s5a.wf).new _ _
  have k6 : ((L5.add (some (.cells [.slice none 0 0] 0 true))).put L5.len (.cells [w4] 0 true)).rdn L5.len 0 1 = some (rowV w4) := rdn_put_all rfl
  have l6 : ((L5.add (some (.cells [.slice none 0 0] 0 true))).put L5.len (.cells [w4] 0 true)).len = L5.len + 1 := by rw [len_put, len_add]
  have hlm6 := s5a.wf.1
  repeat' (first | (exfalso; omega) | refine zA ?_ | refine zB ?_ | refine zC ?_ | refine zD ?_ | refine zE ?_ | refine zF ?_ | refine zG ?_ | refine zH ?_ | refine zI ?_ | refine zJ ?_ | refine zK rfl ?_ | refine zL ?_ | refine zM ?_ | refine zN ?_ | refine zO ?_ | refine zP rfl ?_ | refine zQ ?_ | ((first | refine zR ?_ | refine zS ?_ | refine zT ?_ | skip); intro K k; simp (disch := (first | (simp only [yD2, beq_self_eq_true, Nat.reduceLT, Nat.reduceAdd]; done) | ((fail_if_success (apply Bool.eq_iff_iff.2)); first | omega | (simp only [yD2, beq_self_eq_true, Nat.reduceLT, Nat.reduceAdd] <;> omega)) | fail)) only [↓yS, yT, ↓reduceIte, Nat.reduceEqDiff, Nat.reduceAdd, Nat.reduceMul, reduceCtorEq, Int.reduceToNat, g4, hg1]; refine yC (k _ _ ?_); clear k K) | ((first | refine zU ?_ | refine zV ?_ | refine zW ?_); intro A B C D a b c d; simp only [↓yG, Nat.reduceEqDiff, ↓reduceIte, g4, hg1]; (first | refine zX (a ?_) | refine zY (b ?_) | refine zZ (fun hc => c ?_) (fun hc => d ?_)) <;> clear a b c d A B C D <;> try simp only [yL] at hc) | (refine yA ?_; intro A a; simp only [↓yG, Nat.reduceEqDiff, ↓reduceIte, g4, hg1]; refine yB (a ?_); clear a A) | (refine yD ?_; simp only [gresults, ↓yG, Nat.reduceEqDiff, ↓reduceIte, Option.bind_some, gld_1, gld_n, g4, hg1]; refine ⟨_, rfl, ?_⟩; simp only [gone]))
  have sH := s5a.trans t6
  have oR := o5.later t6
  generalize (L5.add (some (.cells [.slice none 0 0] 0 true))).put L5.len (.cells [w4] 0 true) = HR at *
  have m6 : ∀ {H'}, Same HR H' → H'.rdn L5.len 0 1 = some (rowV w4) := fun hs => by rw [hs.rdn (by omega)]; exact k6
  have aR : ∀ {H'}, Same HR H' → RR H' w4 R := fun hs => (OR.rr oR).later sH.wf hs
  have u0 := Same.refl sH.wf
  repeat' (first | (exfalso; omega) | refine zA ?_ | refine zB ?_ | refine zC ?_ | refine zD ?_ | refine zE ?_ | refine zF ?_ | refine zG ?_ | refine zH ?_ | refine zI ?_ | refine zJ ?_ | refine zK rfl ?_ | refine zL ?_ | refine zM ?_ | refine zN ?_ | refine zO ?_ | refine zP rfl ?_ | refine zQ ?_ | ((first | refine zR ?_ | refine zS ?_ | refine zT ?_ | skip); intro K k; simp (disch := (first | (simp only [yD2, beq_self_eq_true, Nat.reduceLT, Nat.reduceAdd]; done) | ((fail_if_success (apply Bool.eq_iff_iff.2)); first | omega | (simp only [yD2, beq_self_eq_true, Nat.reduceLT, Nat.reduceAdd] <;> omega)) | fail)) only [↓yS, yT, ↓reduceIte, Nat.reduceEqDiff, Nat.reduceAdd, Nat.reduceMul, reduceCtorEq, Int.reduceToNat, g4, mr (sH.trans u0), m6 u0]; refine yC (k _ _ ?_); clear k K) | ((first | refine zU ?_ | refine zV ?_ | refine zW ?_); intro A B C D a b c d; simp only [↓yG, Nat.reduceEqDiff, ↓reduceIte, g4, mr (sH.trans u0), m6 u0]; (first | refine zX (a ?_) | refine zY (b ?_) | refine zZ (fun hc => c ?_) (fun hc => d ?_)) <;> clear a b c d A B C D <;> try simp only [yL] at hc) | (refine yA ?_; intro A a; simp only [↓yG, Nat.reduceEqDiff, ↓reduceIte, g4, mr (sH.trans u0), m6 u0]; refine yB (a ?_); clear a A) | (refine yD ?_; simp only [gresults, ↓yG, Nat.reduceEqDiff, ↓reduceIte, Option.bind_some, gld_1, gld_n, g4, mr (sH.trans u0), m6 u0]; refine ⟨_, rfl, ?_⟩; simp only [gone]))
  refine Gw_s fun K' hK' => G1_callM (by simp only [gtarget, ↓GArg.ev, ↓evs, ↓Tr.get_set, Nat.reduceEqDiff, if_true, if_false, ↓reduceIte, Option.map_some]; rfl) (plain_ok (wf_up u0.wf) (aR u0).up (by omega) (by omega)) fun r6 K6 hq => hK' _ _ ?_
  obtain ⟨rfl, hS⟩ := hq
  have s6a := u0.trans (Same.down u0.wf hS)
  have i6 := Same.down u0.wf hS
  generalize K6.down HR.lim = L6 at s6a i6 ⊢
  clear hS
  have hpl : plainF R = plainF A := by rw [plainF_chars hokR, plainF_chars hok, hch]
  rw [hpl]
  repeat' (first | (exfalso; omega) | refine zA ?_ | refine zB ?_ | refine zC ?_ | refine zD ?_ | refine zE ?_ | refine zF ?_ | refine zG ?_ | refine zH ?_ | refine zI ?_ | refine zJ ?_ | refine zK rfl ?_ | refine zL ?_ | refine zM ?_ | refine zN ?_ | refine zO ?_ | refine zP rfl ?_ | refine zQ ?_ | ((first | refine zR ?_ | refine zS ?_ | refine zT ?_ | skip); intro K k; simp (disch := (first | (simp only [yD2, beq_self_eq_true, Nat.reduceLT, Nat.reduceAdd]; done) | ((fail_if_success (apply Bool.eq_iff_iff.2)); first | omega | (simp only [yD2, beq_self_eq_true, Nat.reduceLT, Nat.reduceAdd] <;> omega)) | fail)) only [↓yS, yT, ↓reduceIte, Nat.reduceEqDiff, Nat.reduceAdd, Nat.reduceMul, reduceCtorEq, Int.reduceToNat, g4, mr (sH.trans s6a), m6 s6a]; refine yC (k _ _ ?_); clear k K) | ((first | refine zU ?_ | refine zV ?_ | refine zW ?_); intro A B C D a b c d; simp only [↓yG, Nat.reduceEqDiff, ↓reduceIte, g4, mr (sH.trans s6a), m6 s6a]; (first | refine zX (a ?_) | refine zY (b ?_) | refine zZ (fun hc => c ?_) (fun hc => d ?_)) <;> clear a b c d A B C D <;> try simp only [yL] at hc) | (refine yA ?_; intro A a; simp only [↓yG, Nat.reduceEqDiff, ↓reduceIte, g4, mr (sH.trans s6a), m6 s6a]; refine yB (a ?_); clear a A) | (refine yD ?_; simp only [gresults, ↓yG, Nat.reduceEqDiff, ↓reduceIte, Option.bind_some, gld_1, gld_n, g4, mr (sH.trans s6a), m6 s6a]; refine ⟨_, rfl, ?_⟩; simp only [gone]))
  refine Gw_s fun K' hK' => G1_callM (by simp only [gtarget, ↓GArg.ev, ↓evs, ↓Tr.get_set, Nat.reduceEqDiff, if_true, if_false, ↓reduceIte, Option.map_some]; rfl) (plain_ok (wf_up s6a.wf) (aA (sH.trans s6a)).up (by omega) (by omega)) fun r7 K7 hq => hK' _ _ ?_
  obtain ⟨rfl, hS⟩ := hq
  have s7a := s6a.trans (Same.down s6a.wf hS)
  have i7 := Same.down s6a.wf hS
  generalize K7.down L6.lim = L7 at s7a i7 ⊢
  clear hS
  have hneq := fun e => gb_neqB (e := e) (a := plainF A) (b := plainF A)
  simp only [not_true_eq_false, decide_false] at hneq
  repeat' (first | (exfalso; omega) | refine zA ?_ | refine zB ?_ | refine zC ?_ | refine zD ?_ | refine zE ?_ | refine zF ?_ | refine zG ?_ | refine zH ?_ | refine zI ?_ | refine zJ ?_ | refine zK rfl ?_ | refine zL ?_ | refine zM ?_ | refine zN ?_ | refine zO ?_ | refine zP rfl ?_ | refine zQ ?_ | ((first | refine zR ?_ | refine zS ?_ | refine zT ?_ | skip); intro K k; simp (disch := (first | (simp only [yD2, beq_self_eq_true, Nat.reduceLT, Nat.reduceAdd]; done) | ((fail_if_success (apply Bool.eq_iff_iff.2)); first | omega | (simp only [yD2, beq_self_eq_true, Nat.reduceLT, Nat.reduceAdd] <;> omega)) | fail)) only [↓yS, yT, ↓reduceIte, Nat.reduceEqDiff, Nat.reduceAdd, Nat.reduceMul, reduceCtorEq, Int.reduceToNat, g4, mr (sH.trans s7a), m6 s7a, hneq]; refine yC (k _ _ ?_); clear k K) | ((first | refine zU ?_ | refine zV ?_ | refine zW ?_); intro A B C D a b c d; simp only [↓yG, Nat.reduceEqDiff, ↓reduceIte, g4, mr (sH.trans s7a), m6 s7a, hneq]; (first | refine zX (a ?_) | refine zY (b ?_) | refine zZ (fun hc => c ?_) (fun hc => d ?_)) <;> clear a b c d A B C D <;> try simp only [yL] at hc) | (refine yA ?_; intro A a; simp only [↓yG, Nat.reduceEqDiff, ↓reduceIte, g4, mr (sH.trans s7a), m6 s7a, hneq]; refine yB (a ?_); clear a A) | (refine yD ?_; simp only [gresults, ↓yG, Nat.reduceEqDiff, ↓reduceIte, Option.bind_some, gld_1, gld_n, g4, mr (sH.trans s7a), m6 s7a, hneq]; refine ⟨_, rfl, ?_⟩; simp only [gone]))
  intro K' hK'; refine G1_callM (by simp only [gtarget, ↓GArg.ev, ↓evs, ↓Tr.get_set, Nat.reduceEqDiff, if_true, if_false, ↓reduceIte, Option.map_some]; rfl) (Len_ok (wf_up s7a.wf) (aR s7a).up (by omega) (by omega)) fun r8 K8 hq => hK' _ _ ?_
  obtain ⟨rfl, hS⟩ := hq
  have s8a := s7a.trans (Same.down s7a.wf hS)
  have i8 := Same.down s7a.wf hS
  generalize K8.down L7.lim = L8 at s8a i8 ⊢
  clear hS
  have hll : lenF R = lenF A := by rw [lenF_ok hokR, hlen, hch]
  rw [hll]
  repeat' (first | (exfalso; omega) | refine zA ?_ | refine zB ?_ | refine zC ?_ | refine zD ?_ | refine zE ?_ | refine zF ?_ | refine zG ?_ | refine zH ?_ | refine zI ?_ | refine zJ ?_ | refine zK rfl ?_ | refine zL ?_ | refine zM ?_ | refine zN ?_ | refine zO ?_ | refine zP rfl ?_ | refine zQ ?_ | ((first | refine zR ?_ | refine zS ?_ | refine zT ?_ | skip); intro K k; simp (disch := (first | (simp only [yD2, beq_self_eq_true, Nat.reduceLT, Nat.reduceAdd]; done) | ((fail_if_success (apply Bool.eq_iff_iff.2)); first | omega | (simp only [yD2, beq_self_eq_true, Nat.reduceLT, Nat.reduceAdd] <;> omega)) | fail)) only [↓yS, yT, ↓reduceIte, Nat.reduceEqDiff, Nat.reduceAdd, Nat.reduceMul, reduceCtorEq, Int.reduceToNat, g4, mr (sH.trans s8a), m6 s8a, neI_self]; refine yC (k _ _ ?_); clear k K) | ((first | refine zU ?_ | refine zV ?_ | refine zW ?_); intro A B C D a b c d; simp only [↓yG, Nat.reduceEqDiff, ↓reduceIte, g4, mr (sH.trans s8a), m6 s8a, neI_self]; (first | refine zX (a ?_) | refine zY (b ?_) | refine zZ (fun hc => c ?_) (fun hc => d ?_)) <;> clear a b c d A B C D <;> try simp only [yL] at hc) | (refine yA ?_; intro A a; simp only [↓yG, Nat.reduceEqDiff, ↓reduceIte, g4, mr (sH.trans s8a), m6 s8a, neI_self]; refine yB (a ?_); clear a A) | (refine yD ?_; simp only [gresults, ↓yG, Nat.reduceEqDiff, ↓reduceIte, Option.bind_some, gld_1, gld_n, g4, mr (sH.trans s8a), m6 s8a, neI_self]; refine ⟨_, rfl, ?_⟩; simp only [gone]))
  have hln : lenF A ≤ 4398046511104 := by omega
  generalize hnn : (charsR A).length = n at *
  refine GW_loop (fun k fr Hk => ∃ (j : Nat), k = n - j ∧ j ≤ n ∧ fr.get 2 = some (.pointer (some ⟨H.len, 0, none⟩)) ∧ fr.get 6 = some (.pointer (some ⟨L5.len, 0, none⟩)) ∧ fr.get 45 = some (.int .i64 (lenF A)) ∧ fr.get 46 = some (.int .i64 j) ∧ Same HR Hk) ?_ n ?_
  rotate_left
  · refine ⟨0, by omega, by omega, ?_⟩
    simp only [↓yG, Nat.reduceEqDiff, ↓reduceIte, Int.natCast_add, Int.cast_ofNat_Int, Int.natCast_zero, true_and, and_true, Option.some.injEq, Value.int.injEq]
    exact s8a
  rintro k fr H1 ⟨j, rfl, hj, f2, f6, f45, f46, v0⟩ J hJ
  by_cases hj1 : j < n
  · have hjl : (charsR A)[j]? = some (charsR A)[j]! := gget (by omega)
    have hat : atF A (j : Int) = some (charsR A)[j]! := by rw [atF_ok hok (by omega), Int.toNat_natCast]; exact hjl
    have har : atF R (j : Int) = some (charsR A)[j]! := by rw [atF_ok hokR (by omega), Int.toNat_natCast, hch]; exact hjl
    generalize (charsR A)[j]! = cs at *
    repeat' (first | (exfalso; omega) | refine zA ?_ | refine zB ?_ | refine zC ?_ | refine zD ?_ | refine zE ?_ | refine zF ?_ | refine zG ?_ | refine zH ?_ | refine zI ?_ | refine zJ ?_ | refine zK rfl ?_ | refine zL ?_ | refine zM ?_ | refine zN ?_ | refine zO ?_ | refine zP rfl ?_ | refine zQ ?_ | ((first | refine zR ?_ | refine zS ?_ | refine zT ?_ | skip); intro K k; simp (disch := (first | (simp only [yD2, beq_self_eq_true, Nat.reduceLT, Nat.reduceAdd]; done) | ((fail_if_success (apply Bool.eq_iff_iff.2)); first | omega | (simp only [yD2, beq_self_eq_true, Nat.reduceLT, Nat.reduceAdd] <;> omega)) | fail)) only [↓yS, yT, ↓reduceIte, Nat.reduceEqDiff, Nat.reduceAdd, Nat.reduceMul, reduceCtorEq, Int.reduceToNat, g4, f2, f6, f45, f46, mr (sH.trans v0), m6 v0]; refine yC (k _ _ ?_); clear k K) | ((first | refine zU ?_ | refine zV ?_ | refine zW ?_); intro A B C D a b c d; simp only [↓yG, Nat.reduceEqDiff, ↓reduceIte, g4, f2, f6, f45, f46, mr (sH.trans v0), m6 v0]; (first | refine zX (a ?_) | refine zY (b ?_) | refine zZ (fun hc => c ?_) (fun hc => d ?_)) <;> clear a b c d A B C D <;> try simp only [yL] at hc) | (refine yA ?_; intro A a; simp only [↓yG, Nat.reduceEqDiff, ↓reduceIte, g4, f2, f6, f45, f46, mr (sH.trans v0), m6 v0]; refine yB (a ?_); clear a A) | (refine yD ?_; simp only [gresults, ↓yG, Nat.reduceEqDiff, ↓reduceIte, Option.bind_some, gld_1, gld_n, g4, f2, f6, f45, f46, mr (sH.trans v0), m6 v0]; refine ⟨_, rfl, ?_⟩; simp only [gone]))
    refine Gw_s fun K' hK' => G1_call (by simp only [gtarget, ↓GArg.ev, ↓evs, ↓Tr.get_set, Nat.reduceEqDiff, if_true, if_false, ↓reduceIte, Option.map_some, f2, f6, f45, f46]; rfl) (at_ok v0.wf (aA (sH.trans v0)) (by omega) (by omega) (i := j) (by omega)) fun r9 K9 hq => hK' _ _ ?_
    obtain ⟨rfl, hS⟩ := hq
    have s9a := v0.trans hS
    have i9 := hS
    clear hS
    rw [hat, atV_eq]
    have t9 : Same K9 (styH K9 cs.2) := styH_same s9a.wf _
    have hh9 : (K9.add (some (.cells (syC syZ) 0 true))).put K9.len (.cells (syC cs.2) 0 true) = styH K9 cs.2 := rfl
    have p9 := styH_rdn (H := K9) cs.2
    have pl9 := styH_len (H := K9) cs.2
    have hlm9 := s9a.wf.1
    have hcs : atS (some cs) = cs.2 ∧ atC (some cs) = cs.1 ∧ (some cs).isSome = true := ⟨rfl, rfl, rfl⟩
    simp only [hcs.1, hcs.2.1, hcs.2.2]
    have s8 := s9a.trans t9
    repeat' (first | (exfalso; omega) | refine zA ?_ | refine zB ?_ | refine zC ?_ | refine zD ?_ | refine zE ?_ | refine zF ?_ | refine zG ?_ | refine zH ?_ | refine zI ?_ | refine zJ ?_ | refine zK rfl ?_ | refine zL ?_ | refine zM ?_ | refine zN ?_ | refine zO ?_ | refine zP rfl ?_ | refine zQ ?_ | ((first | refine zR ?_ | refine zS ?_ | refine zT ?_ | skip); intro K k; simp (disch := (first | (simp only [yD2, beq_self_eq_true, Nat.reduceLT, Nat.reduceAdd]; done) | ((fail_if_success (apply Bool.eq_iff_iff.2)); first | omega | (simp only [yD2, beq_self_eq_true, Nat.reduceLT, Nat.reduceAdd] <;> omega)) | fail)) only [↓yS, yT, ↓reduceIte, Nat.reduceEqDiff, Nat.reduceAdd, Nat.reduceMul, reduceCtorEq, Int.reduceToNat, g4, f2, f6, f45, f46, hzc, RN, gsetn_z, hh9, m6 s8]; refine yC (k _ _ ?_); clear k K) | ((first | refine zU ?_ | refine zV ?_ | refine zW ?_); intro A B C D a b c d; simp only [↓yG, Nat.reduceEqDiff, ↓reduceIte, g4, f2, f6, f45, f46, hzc, RN, gsetn_z, hh9, m6 s8]; (first | refine zX (a ?_) | refine zY (b ?_) | refine zZ (fun hc => c ?_) (fun hc => d ?_)) <;> clear a b c d A B C D <;> try simp only [yL] at hc) | (refine yA ?_; intro A a; simp only [↓yG, Nat.reduceEqDiff, ↓reduceIte, g4, f2, f6, f45, f46, hzc, RN, gsetn_z, hh9, m6 s8]; refine yB (a ?_); clear a A) | (refine yD ?_; simp only [gresults, ↓yG, Nat.reduceEqDiff, ↓reduceIte, Option.bind_some, gld_1, gld_n, g4, f2, f6, f45, f46, hzc, RN, gsetn_z, hh9, m6 s8]; refine ⟨_, rfl, ?_⟩; simp only [gone]))
    generalize styH K9 cs.2 = HA at *
    have y8 : ∀ {H'}, Same HA H' → H'.rdn K9.len 0 3 = some (syV cs.2) := fun hs => by rw [hs.rdn (by omega)]; exact p9
    refine Gw_s fun K' hK' => G1_call (by simp only [gtarget, ↓GArg.ev, ↓evs, ↓Tr.get_set, Nat.reduceEqDiff, if_true, if_false, ↓reduceIte, Option.map_some, f2, f6, f45, f46]; rfl) (at_ok s8.wf (aR s8) (by omega) (by omega) (i := j) (by omega)) fun r10 K10 hq => hK' _ _ ?_
    obtain ⟨rfl, hS⟩ := hq
    have s10a := s8.trans hS
    have i10 := hS
    clear hS
    rw [har, atV_eq]
    simp only [hcs.1, hcs.2.1, hcs.2.2]
    have t10 : Same K10 (styH K10 cs.2) := styH_same s10a.wf _
    have hh10 : (K10.add (some (.cells (syC syZ) 0 true))).put K10.len (.cells (syC cs.2) 0 true) = styH K10 cs.2 := rfl
    have p10 := styH_rdn (H := K10) cs.2
    have pl10 := styH_len (H := K10) cs.2
    have hlm10 := s10a.wf.1
    have s11 := s10a.trans t10
    have y8b := y8 (i10.trans t10)
    repeat' (first | (exfalso; omega) | refine zA ?_ | refine zB ?_ | refine zC ?_ | refine zD ?_ | refine zE ?_ | refine zF ?_ | refine zG ?_ | refine zH ?_ | refine zI ?_ | refine zJ ?_ | refine zK rfl ?_ | refine zL ?_ | refine zM ?_ | refine zN ?_ | refine zO ?_ | refine zP rfl ?_ | refine zQ ?_ | ((first | refine zR ?_ | refine zS ?_ | refine zT ?_ | skip); intro K k; simp (disch := (first | (simp only [yD2, beq_self_eq_true, Nat.reduceLT, Nat.reduceAdd]; done) | ((fail_if_success (apply Bool.eq_iff_iff.2)); first | omega | (simp only [yD2, beq_self_eq_true, Nat.reduceLT, Nat.reduceAdd] <;> omega)) | fail)) only [↓yS, yT, ↓reduceIte, Nat.reduceEqDiff, Nat.reduceAdd, Nat.reduceMul, reduceCtorEq, Int.reduceToNat, g4, f2, f6, f45, f46, hzc, RN, gsetn_z, hh10, neS_self, neI_self, y8b, p10]; refine yC (k _ _ ?_); clear k K) | ((first | refine zU ?_ | refine zV ?_ | refine zW ?_); intro A B C D a b c d; simp only [↓yG, Nat.reduceEqDiff, ↓reduceIte, g4, f2, f6, f45, f46, hzc, RN, gsetn_z, hh10, neS_self, neI_self, y8b, p10]; (first | refine zX (a ?_) | refine zY (b ?_) | refine zZ (fun hc => c ?_) (fun hc => d ?_)) <;> clear a b c d A B C D <;> try simp only [yL] at hc) | (refine yA ?_; intro A a; simp only [↓yG, Nat.reduceEqDiff, ↓reduceIte, g4, f2, f6, f45, f46, hzc, RN, gsetn_z, hh10, neS_self, neI_self, y8b, p10]; refine yB (a ?_); clear a A) | (refine yD ?_; simp only [gresults, ↓yG, Nat.reduceEqDiff, ↓reduceIte, Option.bind_some, gld_1, gld_n, g4, f2, f6, f45, f46, hzc, RN, gsetn_z, hh10, neS_self, neI_self, y8b, p10]; refine ⟨_, rfl, ?_⟩; simp only [gone]))
    refine hJ _ _ ⟨n - (j + 1), by omega, j + 1, rfl, by omega, ?_⟩
    simp only [↓yG, Nat.reduceEqDiff, ↓reduceIte, Int.natCast_add, Int.cast_ofNat_Int, Int.natCast_zero, true_and, and_true, Option.some.injEq, Value.int.injEq, f2, f6, f45]
    exact s11
  · obtain rfl : j = n := by omega
    repeat' (first | (exfalso; omega) | refine zA ?_ | refine zB ?_ | refine zC ?_ | refine zD ?_ | refine zE ?_ | refine zF ?_ | refine zG ?_ | refine zH ?_ | refine zI ?_ | refine zJ ?_ | refine zK rfl ?_ | refine zL ?_ | refine zM ?_ | refine zN ?_ | refine zO ?_ | refine zP rfl ?_ | refine zQ ?_ | ((first | refine zR ?_ | refine zS ?_ | refine zT ?_ | skip); intro K k; simp (disch := (first | (simp only [yD2, beq_self_eq_true, Nat.reduceLT, Nat.reduceAdd]; done) | ((fail_if_success (apply Bool.eq_iff_iff.2)); first | omega | (simp only [yD2, beq_self_eq_true, Nat.reduceLT, Nat.reduceAdd] <;> omega)) | fail)) only [↓yS, yT, ↓reduceIte, Nat.reduceEqDiff, Nat.reduceAdd, Nat.reduceMul, reduceCtorEq, Int.reduceToNat, g4, f2, f6, f45, f46]; refine yC (k _ _ ?_); clear k K) | ((first | refine zU ?_ | refine zV ?_ | refine zW ?_); intro A B C D a b c d; simp only [↓yG, Nat.reduceEqDiff, ↓reduceIte, g4, f2, f6, f45, f46]; (first | refine zX (a ?_) | refine zY (b ?_) | refine zZ (fun hc => c ?_) (fun hc => d ?_)) <;> clear a b c d A B C D <;> try simp only [yL] at hc) | (refine yA ?_; intro A a; simp only [↓yG, Nat.reduceEqDiff, ↓reduceIte, g4, f2, f6, f45, f46]; refine yB (a ?_); clear a A) | (refine yD ?_; simp only [gresults, ↓yG, Nat.reduceEqDiff, ↓reduceIte, Option.bind_some, gld_1, gld_n, g4, f2, f6, f45, f46]; refine ⟨_, rfl, ?_⟩; simp only [gone]))
    exact hPost _ _ rfl
theorem cuts_law {H : GHeap} (hw : H.wf) {gvs : List Value} (h : RdAsQ (fun m => m ≤ 1048576) H [.st [.sl runShp], .int .i64] gvs) : ∃ v H2, gev G 4 gvs H = some (v, H2) ∧ v = .bool true := by
  obtain ⟨_, _, rfl, h1, _, _, rfl, h2, rfl⟩ := h
  obtain ⟨a, A, rfl, ha⟩ := argR_of h1
  obtain ⟨i, rfl, hi⟩ := h2.int_
  exact cuts_ok hw ha (wf_i64 hi)
end Go.Gh
