/-
  glossary's reference, walked: flat, Contains.
-/
import Derived.Test.YtfldcmeecpgpeaaGreatDoorGlW1
namespace Go.Gh
set_option linter.unusedSimpArgs false
set_option linter.unusedVariables false
set_option maxHeartbeats 4000000
open Go.RowKit Go.Lib
set_option maxRecDepth 4000
theorem gb_addB {e : Option EqK} {a b : List UInt8} (h : a.length + b.length ≤ 9223372036854775807) : gbin .add e (.string (strB a)) (.string (strB b)) = some (.string (strB (a ++ b))) := by
  have := gb_addS (k := e) (a := a) (e := strB b) (by simpa [toL, strB] using h)
  rw [this]; simp [toL, strB]
theorem add_c {e : Option EqK} {a b : List UInt8} {B : ByteArray} (hB : B = strB b) (h : a.length + b.length ≤ 9223372036854775807) : gbin .add e (.string (strB a)) (.string B) = some (.string (strB (a ++ b))) := by
  rw [hB]; exact gb_addB h
theorem strB_nil : (⟨#[]⟩ : ByteArray) = strB [] := rfl
theorem by10 {b : UInt8} : (((b.toNat : Nat) : Int) = 10) = (b = 10) := byte_eq (n := 10) (by decide)
theorem flat_ok {l : List UInt8} (hl : l.length ≤ 16777216) (H : GHeap) : gev G 49 [.string (strB l)] H = some (.string (strB (rpl l)), H) := by
  refine gev_GWP (f := 49) rfl rfl rfl (fun Post hPost => ?_) H
  have hls := strB_size l
  simp only [frameOf, Nat.reduceAdd]
  repeat' (first | refine zn ?_ | refine zK rfl ?_ | refine zP rfl ?_ | ((first | refine zm ?_ | skip); intro _; intros; simp (disch := first | exact zd | fail) only [↓yS, yT, gresults, gone, ↓reduceIte, Nat.reduceEqDiff, Nat.reduceAdd, Nat.reduceMul, reduceCtorEq, Int.reduceToNat, g49]; first | (rename_i K k; (first | refine yC (k _ _ ?_) | refine zg (k _ ?_)); clear k K) | (rename_i A B C D a b c d; (first | refine zx (a ?_) | refine zy (b ?_) | refine zz (fun hc => c ?_) (fun hc => d ?_) | refine zv (b ?_) | refine zw (a ?_)) <;> clear a b c d A B C D <;> try simp only [yL] at hc)) | refine zA ?_ | refine zB ?_ | refine zF ?_)
  refine GW_loop (fun k fr H2 => ∃ (s i : Nat), k = l.length - i ∧ s ≤ i ∧ i ≤ l.length ∧ fr.get 0 = some (.string (strB l)) ∧ fr.get 3 = some (.string (strB (rpl (l.take s)))) ∧ fr.get 4 = some (.int .i64 s) ∧ fr.get 5 = some (.int .i64 i) ∧ ∀ j, s ≤ j → j < i → l[j]! ≠ 10) ?_ l.length ?_
  rotate_left
  · refine ⟨0, 0, by omega, by omega, by omega, ?_⟩
    simp only [↓yG, Nat.reduceEqDiff, ↓reduceIte, Int.natCast_add, Int.cast_ofNat_Int, Int.natCast_zero, true_and, and_true, Option.some.injEq, Value.int.injEq]
    first | exact ⟨by first | trivial | exact congrArg Value.string strB_nil, fun j h1 h2 => by omega⟩ | exact fun j h1 h2 => by omega
  rintro k fr H2 ⟨s, i, rfl, hsi, hi, f0, f3, f4, f5, hno⟩ J hJ
  have hno2 : 10 ∉ (l.take i).drop s := fun hm => by
    obtain ⟨j, hj, e⟩ := List.mem_iff_getElem.1 hm
    simp only [List.length_drop, List.length_take] at hj
    rw [List.getElem_drop, List.getElem_take] at e
    exact hno (s + j) (by omega) (by omega) (by rw [getElem!_pos l (s + j) (by omega)]; exact e)
  have hr1 := rpl_len (l.take s)
  rw [List.length_take] at hr1
  by_cases hi1 : i < l.length
  · have ej := fun k => strB_at (k := k) hi1
    by_cases hb : l[i]! = 10
    · have hb' := eq_true hb
      have hmid : ∀ H k k', gslice .str H (.string (strB l)) (some (.int k (s : Int))) (some (.int k' (i : Int))) none = some (.string (strB ((l.take i).drop s))) := fun H k k' => by
        have h1 := sl_mid (H := H) (l := l) (k := k) (k' := k') (a := s) (b := i) (by omega) (by omega) (by omega)
        rw [h1, Int.toNat_natCast, Int.toNat_natCast]
      have hl1 : ((l.take i).drop s).length ≤ l.length := by simp; omega
      have ha1 : ∀ e, gbin .add e (.string (strB ((l.take i).drop s))) (.string ⟨#[32]⟩) = some (.string (strB ((l.take i).drop s ++ [32]))) := fun e => add_c (by rfl) (by simp only [List.length_cons, List.length_nil]; omega)
      have hfin : rpl (l.take s) ++ ((l.take i).drop s ++ [32]) = rpl (l.take (i + 1)) := by
        have e1 : l.take (i + 1) = l.take s ++ ((l.take i).drop s ++ [10]) := by
          rw [List.take_succ_eq_append_getElem hi1, ← getElem!_pos l i hi1, hb, ← List.append_assoc]
          congr 1
          have : l.take s = (l.take i).take s := by rw [List.take_take, Nat.min_eq_left hsi]
          rw [this, List.take_append_drop]
        rw [e1, rpl_app, rpl_app, rpl_id hno2]; rfl
      have ha2 : ∀ e, gbin .add e (.string (strB (rpl (l.take s)))) (.string (strB ((l.take i).drop s ++ [32]))) = some (.string (strB (rpl (l.take (i + 1))))) := fun e => by
        rw [gb_addB (by simp only [List.length_append, List.length_cons, List.length_nil]; omega), hfin]
      repeat' (first | (exfalso; omega) | refine zn ?_ | refine zK rfl ?_ | refine zP rfl ?_ | ((first | refine zm ?_ | skip); intro _; intros; simp (disch := first | exact zd | fail) only [↓yS, yT, gresults, gone, ↓reduceIte, Nat.reduceEqDiff, Nat.reduceAdd, Nat.reduceMul, reduceCtorEq, Int.reduceToNat, g49, f0, f3, f4, f5, hls, ej, by10, hb', decide_true, hmid, ha1, ha2]; first | (rename_i K k; (first | refine yC (k _ _ ?_) | refine zg (k _ ?_)); clear k K) | (rename_i A B C D a b c d; (first | refine zx (a ?_) | refine zy (b ?_) | refine zz (fun hc => c ?_) (fun hc => d ?_) | refine zv (b ?_) | refine zw (a ?_)) <;> clear a b c d A B C D <;> try simp only [yL] at hc)) | refine zA ?_ | refine zB ?_ | refine zF ?_)
      refine hJ _ _ ⟨l.length - (i + 1), by omega, i + 1, i + 1, rfl, by omega, by omega, ?_⟩
      simp only [↓yG, Nat.reduceEqDiff, ↓reduceIte, Int.natCast_add, Int.cast_ofNat_Int, Int.natCast_zero, true_and, and_true, Option.some.injEq, Value.int.injEq, f0]
      exact fun j h1 h2 => by omega
    · have hb' := eq_false hb
      repeat' (first | (exfalso; omega) | refine zn ?_ | refine zK rfl ?_ | refine zP rfl ?_ | ((first | refine zm ?_ | skip); intro _; intros; simp (disch := first | exact zd | fail) only [↓yS, yT, gresults, gone, ↓reduceIte, Nat.reduceEqDiff, Nat.reduceAdd, Nat.reduceMul, reduceCtorEq, Int.reduceToNat, g49, f0, f3, f4, f5, hls, ej, by10, hb', decide_false]; first | (rename_i K k; (first | refine yC (k _ _ ?_) | refine zg (k _ ?_)); clear k K) | (rename_i A B C D a b c d; (first | refine zx (a ?_) | refine zy (b ?_) | refine zz (fun hc => c ?_) (fun hc => d ?_) | refine zv (b ?_) | refine zw (a ?_)) <;> clear a b c d A B C D <;> try simp only [yL] at hc)) | refine zA ?_ | refine zB ?_ | refine zF ?_)
      refine hJ _ _ ⟨l.length - (i + 1), by omega, s, i + 1, rfl, by omega, by omega, ?_⟩
      simp only [↓yG, Nat.reduceEqDiff, ↓reduceIte, Int.natCast_add, Int.cast_ofNat_Int, Int.natCast_zero, true_and, and_true, Option.some.injEq, Value.int.injEq, f0, f3, f4]
      intro j h1 h2
      rcases Nat.lt_or_eq_of_le (Nat.le_of_lt_succ h2) with h3 | rfl
      · exact hno j h1 h3
      · exact hb
  · obtain rfl : i = l.length := by omega
    rw [List.take_length] at hno2
    have hsuf : ∀ H k, gslice .str H (.string (strB l)) (some (.int k (s : Int))) none none = some (.string (strB (l.drop s))) := fun H k => by
      have h1 := sl_suf (H := H) (l := l) (k := k) (a := s) (by omega) (by omega)
      rw [h1, Int.toNat_natCast]
    have hl1 : (l.drop s).length ≤ l.length := by simp
    have hfin : rpl (l.take s) ++ l.drop s = rpl l := by
      conv => rhs; rw [← List.take_append_drop s l, rpl_app, rpl_id hno2]
    have ha2 : ∀ e, gbin .add e (.string (strB (rpl (l.take s)))) (.string (strB (l.drop s))) = some (.string (strB (rpl l))) := fun e => by
      rw [gb_addB (by omega), hfin]
    repeat' (first | (exfalso; omega) | refine zn ?_ | refine zK rfl ?_ | refine zP rfl ?_ | ((first | refine zm ?_ | skip); intro _; intros; simp (disch := first | exact zd | fail) only [↓yS, yT, gresults, gone, ↓reduceIte, Nat.reduceEqDiff, Nat.reduceAdd, Nat.reduceMul, reduceCtorEq, Int.reduceToNat, g49, f0, f3, f4, f5, hls, hsuf, ha2]; first | (rename_i K k; (first | refine yC (k _ _ ?_) | refine zg (k _ ?_)); clear k K) | (rename_i A B C D a b c d; (first | refine zx (a ?_) | refine zy (b ?_) | refine zz (fun hc => c ?_) (fun hc => d ?_) | refine zv (b ?_) | refine zw (a ?_)) <;> clear a b c d A B C D <;> try simp only [yL] at hc)) | refine zA ?_ | refine zB ?_ | refine zF ?_)
    exact hPost _
set_option maxHeartbeats 2000000 in
theorem rContains_ok {x t : List UInt8} (hx : x.length ≤ 16777216) (ht : t.length ≤ 16777216) (H : GHeap) : gev G 26 [.string (strB x), .string (strB t)] H = some (.bool (conB x t), H) := by
  refine gev_GWP (f := 26) rfl rfl rfl (fun Post hPost => ?_) H
  unfold conB at hPost
  have hrl := rpl_len x
  simp only [frameOf, Nat.reduceAdd]
  repeat' (first | refine zn ?_ | refine zK rfl ?_ | refine zP rfl ?_ | ((first | refine zm ?_ | skip); intro _; intros; simp (disch := first | exact zd | fail) only [↓yS, yT, gresults, gone, ↓reduceIte, Nat.reduceEqDiff, Nat.reduceAdd, Nat.reduceMul, reduceCtorEq, Int.reduceToNat, g26]; first | (rename_i K k; (first | refine yC (k _ _ ?_) | refine zg (k _ ?_)); clear k K) | (rename_i A B C D a b c d; (first | refine zx (a ?_) | refine zy (b ?_) | refine zz (fun hc => c ?_) (fun hc => d ?_) | refine zv (b ?_) | refine zw (a ?_)) <;> clear a b c d A B C D <;> try simp only [yL] at hc)) | refine zA ?_ | refine zB ?_ | refine zF ?_)
  refine Gw_s fun K' hK' => G1_call (by simp only [gtarget, ↓GArg.ev, ↓evs, ↓Tr.get_set, Nat.reduceEqDiff, if_true, if_false, ↓reduceIte, Option.map_some]; rfl) (one_of (flat_ok hx _)) fun r1 H1 hq => hK' _ _ ?_
  obtain ⟨rfl, rfl⟩ := hq
  generalize rpl x = l at *
  have hll : l.length ≤ 16777216 := by omega
  repeat' (first | refine zn ?_ | refine zK rfl ?_ | refine zP rfl ?_ | ((first | refine zm ?_ | skip); intro _; intros; simp (disch := first | exact zd | fail) only [↓yS, yT, gresults, gone, ↓reduceIte, Nat.reduceEqDiff, Nat.reduceAdd, Nat.reduceMul, reduceCtorEq, Int.reduceToNat, g26]; first | (rename_i K k; (first | refine yC (k _ _ ?_) | refine zg (k _ ?_)); clear k K) | (rename_i A B C D a b c d; (first | refine zx (a ?_) | refine zy (b ?_) | refine zz (fun hc => c ?_) (fun hc => d ?_) | refine zv (b ?_) | refine zw (a ?_)) <;> clear a b c d A B C D <;> try simp only [yL] at hc)) | refine zA ?_ | refine zB ?_ | refine zF ?_)
  refine Gw_s fun K' hK' => G1_call (by simp only [gtarget, ↓GArg.ev, ↓evs, ↓Tr.get_set, Nat.reduceEqDiff, if_true, if_false, ↓reduceIte, Option.map_some]; rfl) (one_of (rvalid_ok (s := strB l) (by rw [strB_size]; omega) _)) fun r1 H1 hq => hK' _ _ ?_
  obtain ⟨rfl, rfl⟩ := hq
  by_cases hv : vldB (strB l) = true
  case neg =>
    have hv' : vldB (strB l) = false := by simpa using hv
    rw [if_neg (fun h => hv h.1)] at hPost
    rw [hv']
    repeat' (first | (exfalso; omega) | refine zn ?_ | refine zK rfl ?_ | refine zP rfl ?_ | ((first | refine zm ?_ | skip); intro _; intros; simp (disch := first | exact zd | fail) only [↓yS, yT, gresults, gone, ↓reduceIte, Nat.reduceEqDiff, Nat.reduceAdd, Nat.reduceMul, reduceCtorEq, Int.reduceToNat, g26]; first | (rename_i K k; (first | refine yC (k _ _ ?_) | refine zg (k _ ?_)); clear k K) | (rename_i A B C D a b c d; (first | refine zx (a ?_) | refine zy (b ?_) | refine zz (fun hc => c ?_) (fun hc => d ?_) | refine zv (b ?_) | refine zw (a ?_)) <;> clear a b c d A B C D <;> try simp only [yL] at hc)) | refine zA ?_ | refine zB ?_ | refine zF ?_)
    exact hPost _
  rw [hv]
  repeat' (first | (exfalso; omega) | refine zn ?_ | refine zK rfl ?_ | refine zP rfl ?_ | ((first | refine zm ?_ | skip); intro _; intros; simp (disch := first | exact zd | fail) only [↓yS, yT, gresults, gone, ↓reduceIte, Nat.reduceEqDiff, Nat.reduceAdd, Nat.reduceMul, reduceCtorEq, Int.reduceToNat, g26]; first | (rename_i K k; (first | refine yC (k _ _ ?_) | refine zg (k _ ?_)); clear k K) | (rename_i A B C D a b c d; (first | refine zx (a ?_) | refine zy (b ?_) | refine zz (fun hc => c ?_) (fun hc => d ?_) | refine zv (b ?_) | refine zw (a ?_)) <;> clear a b c d A B C D <;> try simp only [yL] at hc)) | refine zA ?_ | refine zB ?_ | refine zF ?_)
  intro K' hK'; refine G1_call (by simp only [gtarget, ↓GArg.ev, ↓evs, ↓Tr.get_set, Nat.reduceEqDiff, if_true, if_false, ↓reduceIte, Option.map_some]; rfl) (one_of (rphrase_ok ht _)) fun r1 H1 hq => hK' _ _ ?_
  obtain ⟨rfl, rfl⟩ := hq
  by_cases hp : phrB t = true
  case neg =>
    have hp' : phrB t = false := by simpa using hp
    rw [if_neg (fun h => hp h.2)] at hPost
    rw [hp']
    repeat' (first | (exfalso; omega) | refine zn ?_ | refine zK rfl ?_ | refine zP rfl ?_ | ((first | refine zm ?_ | skip); intro _; intros; simp (disch := first | exact zd | fail) only [↓yS, yT, gresults, gone, ↓reduceIte, Nat.reduceEqDiff, Nat.reduceAdd, Nat.reduceMul, reduceCtorEq, Int.reduceToNat, g26]; first | (rename_i K k; (first | refine yC (k _ _ ?_) | refine zg (k _ ?_)); clear k K) | (rename_i A B C D a b c d; (first | refine zx (a ?_) | refine zy (b ?_) | refine zz (fun hc => c ?_) (fun hc => d ?_) | refine zv (b ?_) | refine zw (a ?_)) <;> clear a b c d A B C D <;> try simp only [yL] at hc)) | refine zA ?_ | refine zB ?_ | refine zF ?_)
    exact hPost _
  rw [if_pos ⟨hv, hp⟩] at hPost
  rw [hp]
  have hbl := foldB_len l
  have hbt := foldB_len t
  have hfl := fcs_len l
  have hft := fcs_len t
  repeat' (first | (exfalso; omega) | refine zn ?_ | refine zK rfl ?_ | refine zP rfl ?_ | ((first | refine zm ?_ | skip); intro _; intros; simp (disch := first | exact zd | fail) only [↓yS, yT, gresults, gone, ↓reduceIte, Nat.reduceEqDiff, Nat.reduceAdd, Nat.reduceMul, reduceCtorEq, Int.reduceToNat, g26]; first | (rename_i K k; (first | refine yC (k _ _ ?_) | refine zg (k _ ?_)); clear k K) | (rename_i A B C D a b c d; (first | refine zx (a ?_) | refine zy (b ?_) | refine zz (fun hc => c ?_) (fun hc => d ?_) | refine zv (b ?_) | refine zw (a ?_)) <;> clear a b c d A B C D <;> try simp only [yL] at hc)) | refine zA ?_ | refine zB ?_ | refine zF ?_)
  refine Gw_s fun K' hK' => G1_call (by simp only [gtarget, ↓GArg.ev, ↓evs, ↓Tr.get_set, Nat.reduceEqDiff, if_true, if_false, ↓reduceIte, Option.map_some]; rfl) (one_of (rfold_ok (s := strB l) (by rw [strB_size]; omega) _)) fun r1 H1 hq => hK' _ _ ?_
  obtain ⟨rfl, rfl⟩ := hq
  repeat' (first | (exfalso; omega) | refine zn ?_ | refine zK rfl ?_ | refine zP rfl ?_ | ((first | refine zm ?_ | skip); intro _; intros; simp (disch := first | exact zd | fail) only [↓yS, yT, gresults, gone, ↓reduceIte, Nat.reduceEqDiff, Nat.reduceAdd, Nat.reduceMul, reduceCtorEq, Int.reduceToNat, g26]; first | (rename_i K k; (first | refine yC (k _ _ ?_) | refine zg (k _ ?_)); clear k K) | (rename_i A B C D a b c d; (first | refine zx (a ?_) | refine zy (b ?_) | refine zz (fun hc => c ?_) (fun hc => d ?_) | refine zv (b ?_) | refine zw (a ?_)) <;> clear a b c d A B C D <;> try simp only [yL] at hc)) | refine zA ?_ | refine zB ?_ | refine zF ?_)
  refine Gw_s fun K' hK' => G1_call (by simp only [gtarget, ↓GArg.ev, ↓evs, ↓Tr.get_set, Nat.reduceEqDiff, if_true, if_false, ↓reduceIte, Option.map_some]; rfl) (rchars_ok (s := strB (foldB (strB l))) (by rw [strB_size]; omega) root_wf) fun av H1 hA => hK' _ _ ?_
  repeat' (first | (exfalso; omega) | refine zn ?_ | refine zK rfl ?_ | refine zP rfl ?_ | ((first | refine zm ?_ | skip); intro _; intros; simp (disch := first | exact zd | fail) only [↓yS, yT, gresults, gone, ↓reduceIte, Nat.reduceEqDiff, Nat.reduceAdd, Nat.reduceMul, reduceCtorEq, Int.reduceToNat, g26]; first | (rename_i K k; (first | refine yC (k _ _ ?_) | refine zg (k _ ?_)); clear k K) | (rename_i A B C D a b c d; (first | refine zx (a ?_) | refine zy (b ?_) | refine zz (fun hc => c ?_) (fun hc => d ?_) | refine zv (b ?_) | refine zw (a ?_)) <;> clear a b c d A B C D <;> try simp only [yL] at hc)) | refine zA ?_ | refine zB ?_ | refine zF ?_)
  refine Gw_s fun K' hK' => G1_call (by simp only [gtarget, ↓GArg.ev, ↓evs, ↓Tr.get_set, Nat.reduceEqDiff, if_true, if_false, ↓reduceIte, Option.map_some]; rfl) (one_of (rfold_ok (s := strB t) (by rw [strB_size]; omega) _)) fun r1 H1 hq => hK' _ _ ?_
  obtain ⟨rfl, rfl⟩ := hq
  repeat' (first | (exfalso; omega) | refine zn ?_ | refine zK rfl ?_ | refine zP rfl ?_ | ((first | refine zm ?_ | skip); intro _; intros; simp (disch := first | exact zd | fail) only [↓yS, yT, gresults, gone, ↓reduceIte, Nat.reduceEqDiff, Nat.reduceAdd, Nat.reduceMul, reduceCtorEq, Int.reduceToNat, g26]; first | (rename_i K k; (first | refine yC (k _ _ ?_) | refine zg (k _ ?_)); clear k K) | (rename_i A B C D a b c d; (first | refine zx (a ?_) | refine zy (b ?_) | refine zz (fun hc => c ?_) (fun hc => d ?_) | refine zv (b ?_) | refine zw (a ?_)) <;> clear a b c d A B C D <;> try simp only [yL] at hc)) | refine zA ?_ | refine zB ?_ | refine zF ?_)
  refine Gw_s fun K' hK' => G1_call (by simp only [gtarget, ↓GArg.ev, ↓evs, ↓Tr.get_set, Nat.reduceEqDiff, if_true, if_false, ↓reduceIte, Option.map_some]; rfl) (rchars_ok (s := strB (foldB (strB t))) (by rw [strB_size]; omega) hA.same.wf) fun bv H2 hB => hK' _ _ ?_
  have hA2 := hA.later hB.same
  rw [charL_fold] at hA2 hB
  have hasl := fcs_ascii l
  generalize fcs l = S at *
  generalize fcs t = T at *
  have hslA := hA2.rd.isSl
  have hslB := hB.rd.isSl
  have hatA : ∀ j, j < S.length → H2.rd (blk av) (ofs av + j) = some (.int .i32 (S[j]! : Nat)) := fun j hj => by
    rw [hA2.rd.rd (by rw [RL_len]; exact hj)]; exact RL_at hj
  have hatB : ∀ j, j < T.length → H2.rd (blk bv) (ofs bv + j) = some (.int .i32 (T[j]! : Nat)) := fun j hj => by
    rw [hB.rd.rd (by rw [RL_len]; exact hj)]; exact RL_at hj
  have hasc : ∀ j, j < S.length → 32 ≤ S[j]! ∧ S[j]! ≤ 126 := fun j hj => hasl _ (by rw [getElem!_pos S j hj]; exact List.getElem_mem hj)
  clear hA
  repeat' (first | (exfalso; omega) | refine zn ?_ | refine zK rfl ?_ | refine zP rfl ?_ | ((first | refine zm ?_ | skip); intro _; intros; simp (disch := first | exact zd | fail) only [↓yS, yT, gresults, gone, ↓reduceIte, Nat.reduceEqDiff, Nat.reduceAdd, Nat.reduceMul, reduceCtorEq, Int.reduceToNat, g26]; first | (rename_i K k; (first | refine yC (k _ _ ?_) | refine zg (k _ ?_)); clear k K) | (rename_i A B C D a b c d; (first | refine zx (a ?_) | refine zy (b ?_) | refine zz (fun hc => c ?_) (fun hc => d ?_) | refine zv (b ?_) | refine zw (a ?_)) <;> clear a b c d A B C D <;> try simp only [yL] at hc)) | refine zA ?_ | refine zB ?_ | refine zF ?_)
  refine GW_loop (fun k fr H3 => ∃ (i : Nat), k = S.length + 1 - i ∧ i ≤ S.length + 1 ∧ fr.get 6 = some (av) ∧ fr.get 7 = some (bv) ∧ fr.get 8 = some (.int .i64 i) ∧ H3 = H2 ∧ ∀ j, j < i → j + T.length ≤ S.length → mat S T j = false) ?_ (S.length + 1) ?_
  rotate_left
  · refine ⟨0, by omega, by omega, ?_⟩
    simp only [↓yG, Nat.reduceEqDiff, ↓reduceIte, Int.natCast_add, Int.cast_ofNat_Int, Int.natCast_zero, true_and, and_true, Option.some.injEq, Value.int.injEq]
    first | exact ⟨rfl, fun j h => absurd h (Nat.not_lt_zero _)⟩ | exact fun j h => absurd h (Nat.not_lt_zero _)
  rintro k fr H3 ⟨i, rfl, hi, f6, f7, f8, rfl, hno⟩ J hJ
  by_cases hi2 : i + T.length ≤ S.length
  case neg =>
    have hcf : conF S T = false := conF_false fun j hj => hno j (by omega) hj
    rw [hcf] at hPost
    repeat' (first | (exfalso; omega) | refine zn ?_ | refine zK rfl ?_ | refine zP rfl ?_ | ((first | refine zm ?_ | skip); intro _; intros; simp (disch := first | exact zd | fail) only [↓yS, yT, gresults, gone, ↓reduceIte, Nat.reduceEqDiff, Nat.reduceAdd, Nat.reduceMul, reduceCtorEq, Int.reduceToNat, g26, f6, f7, f8, hslA.len, hslB.len]; first | (rename_i K k; (first | refine yC (k _ _ ?_) | refine zg (k _ ?_)); clear k K) | (rename_i A B C D a b c d; (first | refine zx (a ?_) | refine zy (b ?_) | refine zz (fun hc => c ?_) (fun hc => d ?_) | refine zv (b ?_) | refine zw (a ?_)) <;> clear a b c d A B C D <;> try simp only [yL] at hc)) | refine zA ?_ | refine zB ?_ | refine zF ?_)
    exact hPost _
  have hnx : mat S T i = false → ∀ j, j < i + 1 → j + T.length ≤ S.length → mat S T j = false := fun h j hj => by
    rcases Nat.lt_or_eq_of_le (Nat.le_of_lt_succ hj) with h3 | rfl
    · exact hno j h3
    · exact fun _ => h
  have hyes : mat S T i = true → conF S T = true := fun h => conF_true hi2 h
  unfold mat at hnx hyes
  repeat' (first | (exfalso; omega) | refine zn ?_ | refine zK rfl ?_ | refine zP rfl ?_ | ((first | refine zm ?_ | skip); intro _; intros; simp (disch := first | exact zd | fail) only [↓yS, yT, gresults, gone, ↓reduceIte, Nat.reduceEqDiff, Nat.reduceAdd, Nat.reduceMul, reduceCtorEq, Int.reduceToNat, g26, f6, f7, f8, hslA.len, hslB.len]; first | (rename_i K k; (first | refine yC (k _ _ ?_) | refine zg (k _ ?_)); clear k K) | (rename_i A B C D a b c d; (first | refine zx (a ?_) | refine zy (b ?_) | refine zz (fun hc => c ?_) (fun hc => d ?_) | refine zv (b ?_) | refine zw (a ?_)) <;> clear a b c d A B C D <;> try simp only [yL] at hc)) | refine zA ?_ | refine zB ?_ | refine zF ?_)
  refine GW_loop (fun k fr H4 => ∃ (q : Nat), k = T.length - q ∧ q ≤ T.length ∧ fr.get 6 = some (av) ∧ fr.get 7 = some (bv) ∧ fr.get 8 = some (.int .i64 i) ∧ fr.get 9 = some (.bool (decide ((S.drop i).take q = T.take q))) ∧ fr.get 37 = some (.int .i64 T.length) ∧ fr.get 38 = some (.int .i64 q) ∧ H4 = H3) ?_ T.length ?_
  rotate_left
  · refine ⟨0, by omega, by omega, ?_⟩
    have h0 : decide ((S.drop i).take 0 = T.take 0) = true := by simp
    simp only [↓yG, Nat.reduceEqDiff, ↓reduceIte, Int.natCast_add, Int.cast_ofNat_Int, Int.natCast_zero, true_and, and_true, Option.some.injEq, Value.int.injEq, f6, f7, f8, h0]
  rintro k fr2 H4 ⟨q, rfl, hq, i6, i7, i8, i9, i37, i38, rfl⟩ J2 hJ2
  by_cases hq1 : q < T.length
  · have e1 := hatA (i + q) (by omega)
    have e2 := hatB q hq1
    have hstep : ((S.drop i).take (q + 1) = T.take (q + 1)) = ((S.drop i).take q = T.take q ∧ S[i + q]! = T[q]!) := by
      have hd : q < (S.drop i).length := by simp; omega
      rw [List.take_succ_eq_append_getElem hd, List.take_succ_eq_append_getElem hq1, List.getElem_drop, ← getElem!_pos S (i + q) (by omega), ← getElem!_pos T q hq1]
      apply propext
      constructor
      · intro h
        have := List.append_inj h (by simp; omega)
        exact ⟨this.1, (List.cons.inj this.2).1⟩
      · rintro ⟨h1, h2⟩; rw [h1, h2]
    have hia : (i : Int) + (q : Int) = ((i + q : Nat) : Int) := by omega
    by_cases hs : (S.drop i).take q = T.take q
    · have hs' : decide ((S.drop i).take q = T.take q) = true := decide_eq_true hs
      rw [hs'] at i9
      by_cases hx : S[i + q]! = T[q]!
      · have hx' : (((S[i + q]! : Nat) : Int) = ((T[q]! : Nat) : Int)) = True := eq_true (by omega)
        have hd : decide ((S.drop i).take (q + 1) = T.take (q + 1)) = true := decide_eq_true (by rw [hstep]; exact ⟨hs, hx⟩)
        repeat' (first | (exfalso; omega) | refine zn ?_ | refine zK rfl ?_ | refine zP rfl ?_ | ((first | refine zm ?_ | skip); intro _; intros; simp (disch := first | exact zd | fail) only [↓yS, yT, gresults, gone, ↓reduceIte, Nat.reduceEqDiff, Nat.reduceAdd, Nat.reduceMul, reduceCtorEq, Int.reduceToNat, g26, i6, i7, i8, i9, i37, i38, hslA.ia, hslB.ia, hia, e1, e2, hx', decide_true]; first | (rename_i K k; (first | refine yC (k _ _ ?_) | refine zg (k _ ?_)); clear k K) | (rename_i A B C D a b c d; (first | refine zx (a ?_) | refine zy (b ?_) | refine zz (fun hc => c ?_) (fun hc => d ?_) | refine zv (b ?_) | refine zw (a ?_)) <;> clear a b c d A B C D <;> try simp only [yL] at hc)) | refine zA ?_ | refine zB ?_ | refine zF ?_)
        refine hJ2 _ _ ⟨T.length - (q + 1), by omega, q + 1, rfl, by omega, ?_⟩
        simp only [↓yG, Nat.reduceEqDiff, ↓reduceIte, Int.natCast_add, Int.cast_ofNat_Int, Int.natCast_zero, true_and, and_true, Option.some.injEq, Value.int.injEq, i6, i7, i8, i37, hd]
      · have hx' : (((S[i + q]! : Nat) : Int) = ((T[q]! : Nat) : Int)) = False := eq_false (by omega)
        have hd : decide ((S.drop i).take (q + 1) = T.take (q + 1)) = false := decide_eq_false (by rw [hstep]; exact fun h => hx h.2)
        repeat' (first | (exfalso; omega) | refine zn ?_ | refine zK rfl ?_ | refine zP rfl ?_ | ((first | refine zm ?_ | skip); intro _; intros; simp (disch := first | exact zd | fail) only [↓yS, yT, gresults, gone, ↓reduceIte, Nat.reduceEqDiff, Nat.reduceAdd, Nat.reduceMul, reduceCtorEq, Int.reduceToNat, g26, i6, i7, i8, i9, i37, i38, hslA.ia, hslB.ia, hia, e1, e2, hx', decide_false]; first | (rename_i K k; (first | refine yC (k _ _ ?_) | refine zg (k _ ?_)); clear k K) | (rename_i A B C D a b c d; (first | refine zx (a ?_) | refine zy (b ?_) | refine zz (fun hc => c ?_) (fun hc => d ?_) | refine zv (b ?_) | refine zw (a ?_)) <;> clear a b c d A B C D <;> try simp only [yL] at hc)) | refine zA ?_ | refine zB ?_ | refine zF ?_)
        refine hJ2 _ _ ⟨T.length - (q + 1), by omega, q + 1, rfl, by omega, ?_⟩
        simp only [↓yG, Nat.reduceEqDiff, ↓reduceIte, Int.natCast_add, Int.cast_ofNat_Int, Int.natCast_zero, true_and, and_true, Option.some.injEq, Value.int.injEq, i6, i7, i8, i37, hd]
    · have hs' : decide ((S.drop i).take q = T.take q) = false := decide_eq_false hs
      rw [hs'] at i9
      have hd : decide ((S.drop i).take (q + 1) = T.take (q + 1)) = false := decide_eq_false (by rw [hstep]; exact fun h => hs h.1)
      repeat' (first | (exfalso; omega) | refine zn ?_ | refine zK rfl ?_ | refine zP rfl ?_ | ((first | refine zm ?_ | skip); intro _; intros; simp (disch := first | exact zd | fail) only [↓yS, yT, gresults, gone, ↓reduceIte, Nat.reduceEqDiff, Nat.reduceAdd, Nat.reduceMul, reduceCtorEq, Int.reduceToNat, g26, i6, i7, i8, i9, i37, i38]; first | (rename_i K k; (first | refine yC (k _ _ ?_) | refine zg (k _ ?_)); clear k K) | (rename_i A B C D a b c d; (first | refine zx (a ?_) | refine zy (b ?_) | refine zz (fun hc => c ?_) (fun hc => d ?_) | refine zv (b ?_) | refine zw (a ?_)) <;> clear a b c d A B C D <;> try simp only [yL] at hc)) | refine zA ?_ | refine zB ?_ | refine zF ?_)
      refine hJ2 _ _ ⟨T.length - (q + 1), by omega, q + 1, rfl, by omega, ?_⟩
      simp only [↓yG, Nat.reduceEqDiff, ↓reduceIte, Int.natCast_add, Int.cast_ofNat_Int, Int.natCast_zero, true_and, and_true, Option.some.injEq, Value.int.injEq, i6, i7, i8, i37, hd]
  · obtain rfl : q = T.length := by omega
    rw [List.take_length] at i9
    by_cases he : (S.drop i).take T.length = T
    case neg =>
      rw [decide_eq_false he] at i9
      rw [decide_eq_false he, Bool.false_and, Bool.false_and] at hnx
      repeat' (first | (exfalso; omega) | refine zn ?_ | refine zK rfl ?_ | refine zP rfl ?_ | ((first | refine zm ?_ | skip); intro _; intros; simp (disch := first | exact zd | fail) only [↓yS, yT, gresults, gone, ↓reduceIte, Nat.reduceEqDiff, Nat.reduceAdd, Nat.reduceMul, reduceCtorEq, Int.reduceToNat, g26, i6, i7, i8, i9, i37, i38]; first | (rename_i K k; (first | refine yC (k _ _ ?_) | refine zg (k _ ?_)); clear k K) | (rename_i A B C D a b c d; (first | refine zx (a ?_) | refine zy (b ?_) | refine zz (fun hc => c ?_) (fun hc => d ?_) | refine zv (b ?_) | refine zw (a ?_)) <;> clear a b c d A B C D <;> try simp only [yL] at hc)) | refine zA ?_ | refine zB ?_ | refine zF ?_)
      refine hJ _ _ ⟨S.length + 1 - (i + 1), by omega, i + 1, rfl, by omega, ?_⟩
      simp only [↓yG, Nat.reduceEqDiff, ↓reduceIte, Int.natCast_add, Int.cast_ofNat_Int, Int.natCast_zero, true_and, and_true, Option.some.injEq, Value.int.injEq, i6, i7]
      first | exact ⟨rfl, hnx rfl⟩ | exact hnx rfl
    rw [decide_eq_true he] at i9
    rw [decide_eq_true he, Bool.true_and] at hnx hyes
    have hno1 : brd S ((i : Int) - 1) = false → ∀ j, j < i + 1 → j + T.length ≤ S.length → mat S T j = false := fun h => hnx (by rw [h]; rfl)
    have hno2 : brd S ((i : Int) + T.length) = false → ∀ j, j < i + 1 → j + T.length ≤ S.length → mat S T j = false := fun h => hnx (by rw [h, Bool.and_false])
    have hyes2 : brd S ((i : Int) - 1) = true → brd S ((i : Int) + T.length) = true → conF S T = true := fun h1 h2 => hyes (by rw [h1, h2]; rfl)
    have b2 : ∀ z, brd S ((i : Int) + T.length) = z → (if i + T.length = S.length then true else !jnd (S[i + T.length]!)) = z := fun z h => by
      rw [← h, brd]
      by_cases e : i + T.length = S.length
      · rw [if_pos e, if_pos (by omega)]
      · rw [if_neg e, if_neg (by omega), show ((i : Int) + (T.length : Int)).toNat = i + T.length by omega]
    have hiT : (i : Int) + (T.length : Int) = ((i + T.length : Nat) : Int) := by omega
    clear hnx hyes
    by_cases hi0 : i = 0
    · have hb1 : brd S ((i : Int) - 1) = true := by rw [brd, if_pos (.inl (by omega))]
      have hi0' : ((i : Int) = 0) = True := eq_true (by omega)
      by_cases he2 : i + T.length = S.length
      · have he2' : (((i + T.length : Nat) : Int) = (S.length : Int)) = True := eq_true (by omega)
        have hb2 : brd S ((i : Int) + T.length) = true := by rw [brd, if_pos (.inr (by omega))]
        rw [hyes2 hb1 hb2] at hPost
        repeat' (first | (exfalso; omega) | refine zn ?_ | refine zK rfl ?_ | refine zP rfl ?_ | ((first | refine zm ?_ | skip); intro _; intros; simp (disch := first | exact zd | fail) only [↓yS, yT, gresults, gone, ↓reduceIte, Nat.reduceEqDiff, Nat.reduceAdd, Nat.reduceMul, reduceCtorEq, Int.reduceToNat, g26, i6, i7, i8, i9, i37, i38, hi0', decide_true, hslA.len, hslB.len, hiT, he2']; first | (rename_i K k; (first | refine yC (k _ _ ?_) | refine zg (k _ ?_)); clear k K) | (rename_i A B C D a b c d; (first | refine zx (a ?_) | refine zy (b ?_) | refine zz (fun hc => c ?_) (fun hc => d ?_) | refine zv (b ?_) | refine zw (a ?_)) <;> clear a b c d A B C D <;> try simp only [yL] at hc)) | refine zA ?_ | refine zB ?_ | refine zF ?_)
        exact hPost _
      · have he2' : (((i + T.length : Nat) : Int) = (S.length : Int)) = False := eq_false (by omega)
        have e3 := hatA (i + T.length) (by omega)
        have a3 := hasc (i + T.length) (by omega)
        repeat' (first | (exfalso; omega) | refine zn ?_ | refine zK rfl ?_ | refine zP rfl ?_ | ((first | refine zm ?_ | skip); intro _; intros; simp (disch := first | exact zd | fail) only [↓yS, yT, gresults, gone, ↓reduceIte, Nat.reduceEqDiff, Nat.reduceAdd, Nat.reduceMul, reduceCtorEq, Int.reduceToNat, g26, i6, i7, i8, i9, i37, i38, hi0', decide_true, hslA.len, hslB.len, hiT, he2', decide_false, hslA.ia, e3]; first | (rename_i K k; (first | refine yC (k _ _ ?_) | refine zg (k _ ?_)); clear k K) | (rename_i A B C D a b c d; (first | refine zx (a ?_) | refine zy (b ?_) | refine zz (fun hc => c ?_) (fun hc => d ?_) | refine zv (b ?_) | refine zw (a ?_)) <;> clear a b c d A B C D <;> try simp only [yL] at hc)) | refine zA ?_ | refine zB ?_ | refine zF ?_)
        intro K' hK'; refine G1_call (by simp only [gtarget, ↓GArg.ev, ↓evs, ↓Tr.get_set, Nat.reduceEqDiff, if_true, if_false, ↓reduceIte, Option.map_some, i6, i7, i8]; rfl) (one_of (joined_ok a3 _)) fun r9 H9 hq => hK' _ _ ?_
        obtain ⟨rfl, rfl⟩ := hq
        cases hj : jnd (S[i + T.length]!) with
        | false =>
          have hb2 : brd S ((i : Int) + T.length) = true := by
            cases h : brd S ((i : Int) + T.length) with
            | true => rfl
            | false => have := b2 false h; rw [if_neg he2, hj] at this; cases this
          rw [hyes2 hb1 hb2] at hPost
          repeat' (first | (exfalso; omega) | refine zn ?_ | refine zK rfl ?_ | refine zP rfl ?_ | ((first | refine zm ?_ | skip); intro _; intros; simp (disch := first | exact zd | fail) only [↓yS, yT, gresults, gone, ↓reduceIte, Nat.reduceEqDiff, Nat.reduceAdd, Nat.reduceMul, reduceCtorEq, Int.reduceToNat, g26, i6, i7, i8]; first | (rename_i K k; (first | refine yC (k _ _ ?_) | refine zg (k _ ?_)); clear k K) | (rename_i A B C D a b c d; (first | refine zx (a ?_) | refine zy (b ?_) | refine zz (fun hc => c ?_) (fun hc => d ?_) | refine zv (b ?_) | refine zw (a ?_)) <;> clear a b c d A B C D <;> try simp only [yL] at hc)) | refine zA ?_ | refine zB ?_ | refine zF ?_)
          exact hPost _
        | true =>
          have hb2 : brd S ((i : Int) + T.length) = false := by
            cases h : brd S ((i : Int) + T.length) with
            | false => rfl
            | true => have := b2 true h; rw [if_neg he2, hj] at this; cases this
          repeat' (first | (exfalso; omega) | refine zn ?_ | refine zK rfl ?_ | refine zP rfl ?_ | ((first | refine zm ?_ | skip); intro _; intros; simp (disch := first | exact zd | fail) only [↓yS, yT, gresults, gone, ↓reduceIte, Nat.reduceEqDiff, Nat.reduceAdd, Nat.reduceMul, reduceCtorEq, Int.reduceToNat, g26, i6, i7, i8]; first | (rename_i K k; (first | refine yC (k _ _ ?_) | refine zg (k _ ?_)); clear k K) | (rename_i A B C D a b c d; (first | refine zx (a ?_) | refine zy (b ?_) | refine zz (fun hc => c ?_) (fun hc => d ?_) | refine zv (b ?_) | refine zw (a ?_)) <;> clear a b c d A B C D <;> try simp only [yL] at hc)) | refine zA ?_ | refine zB ?_ | refine zF ?_)
          refine hJ _ _ ⟨S.length + 1 - (i + 1), by omega, i + 1, rfl, by omega, ?_⟩
          simp only [↓yG, Nat.reduceEqDiff, ↓reduceIte, Int.natCast_add, Int.cast_ofNat_Int, Int.natCast_zero, true_and, and_true, Option.some.injEq, Value.int.injEq, i6, i7]
          first | exact ⟨rfl, hno2 hb2⟩ | exact hno2 hb2
    · have hi0' : ((i : Int) = 0) = False := eq_false (by omega)
      have e4 := hatA (i - 1) (by omega)
      have a4 := hasc (i - 1) (by omega)
      have hx1 : ((i : Int) - 1).toNat = i - 1 := by omega
      have b1 : brd S ((i : Int) - 1) = !jnd (S[i - 1]!) := by rw [brd, if_neg (by omega), hx1]
      repeat' (first | (exfalso; omega) | refine zn ?_ | refine zK rfl ?_ | refine zP rfl ?_ | ((first | refine zm ?_ | skip); intro _; intros; simp (disch := first | exact zd | fail) only [↓yS, yT, gresults, gone, ↓reduceIte, Nat.reduceEqDiff, Nat.reduceAdd, Nat.reduceMul, reduceCtorEq, Int.reduceToNat, g26, i6, i7, i8, i9, i37, i38, hi0', decide_false, hslA.ia, e4, hx1]; first | (rename_i K k; (first | refine yC (k _ _ ?_) | refine zg (k _ ?_)); clear k K) | (rename_i A B C D a b c d; (first | refine zx (a ?_) | refine zy (b ?_) | refine zz (fun hc => c ?_) (fun hc => d ?_) | refine zv (b ?_) | refine zw (a ?_)) <;> clear a b c d A B C D <;> try simp only [yL] at hc)) | refine zA ?_ | refine zB ?_ | refine zF ?_)
      intro K' hK'; refine G1_call (by simp only [gtarget, ↓GArg.ev, ↓evs, ↓Tr.get_set, Nat.reduceEqDiff, if_true, if_false, ↓reduceIte, Option.map_some, i6, i7, i8]; rfl) (one_of (joined_ok a4 _)) fun r9 H9 hq => hK' _ _ ?_
      obtain ⟨rfl, rfl⟩ := hq
      cases hj1 : jnd (S[i - 1]!) with
      | true =>
        rw [hj1] at b1
        repeat' (first | (exfalso; omega) | refine zn ?_ | refine zK rfl ?_ | refine zP rfl ?_ | ((first | refine zm ?_ | skip); intro _; intros; simp (disch := first | exact zd | fail) only [↓yS, yT, gresults, gone, ↓reduceIte, Nat.reduceEqDiff, Nat.reduceAdd, Nat.reduceMul, reduceCtorEq, Int.reduceToNat, g26, i6, i7, i8]; first | (rename_i K k; (first | refine yC (k _ _ ?_) | refine zg (k _ ?_)); clear k K) | (rename_i A B C D a b c d; (first | refine zx (a ?_) | refine zy (b ?_) | refine zz (fun hc => c ?_) (fun hc => d ?_) | refine zv (b ?_) | refine zw (a ?_)) <;> clear a b c d A B C D <;> try simp only [yL] at hc)) | refine zA ?_ | refine zB ?_ | refine zF ?_)
        refine hJ _ _ ⟨S.length + 1 - (i + 1), by omega, i + 1, rfl, by omega, ?_⟩
        simp only [↓yG, Nat.reduceEqDiff, ↓reduceIte, Int.natCast_add, Int.cast_ofNat_Int, Int.natCast_zero, true_and, and_true, Option.some.injEq, Value.int.injEq, i6, i7]
        first | exact ⟨rfl, hno1 b1⟩ | exact hno1 b1
      | false =>
        rw [hj1] at b1
        have hb1 : brd S ((i : Int) - 1) = true := b1
        by_cases he2 : i + T.length = S.length
        · have he2' : (((i + T.length : Nat) : Int) = (S.length : Int)) = True := eq_true (by omega)
          have hb2 : brd S ((i : Int) + T.length) = true := by rw [brd, if_pos (.inr (by omega))]
          rw [hyes2 hb1 hb2] at hPost
          repeat' (first | (exfalso; omega) | refine zn ?_ | refine zK rfl ?_ | refine zP rfl ?_ | ((first | refine zm ?_ | skip); intro _; intros; simp (disch := first | exact zd | fail) only [↓yS, yT, gresults, gone, ↓reduceIte, Nat.reduceEqDiff, Nat.reduceAdd, Nat.reduceMul, reduceCtorEq, Int.reduceToNat, g26, i6, i7, i8, i9, i37, i38, hslA.len, hslB.len, hiT, he2', decide_true]; first | (rename_i K k; (first | refine yC (k _ _ ?_) | refine zg (k _ ?_)); clear k K) | (rename_i A B C D a b c d; (first | refine zx (a ?_) | refine zy (b ?_) | refine zz (fun hc => c ?_) (fun hc => d ?_) | refine zv (b ?_) | refine zw (a ?_)) <;> clear a b c d A B C D <;> try simp only [yL] at hc)) | refine zA ?_ | refine zB ?_ | refine zF ?_)
          exact hPost _
        · have he2' : (((i + T.length : Nat) : Int) = (S.length : Int)) = False := eq_false (by omega)
          have e3 := hatA (i + T.length) (by omega)
          have a3 := hasc (i + T.length) (by omega)
          repeat' (first | (exfalso; omega) | refine zn ?_ | refine zK rfl ?_ | refine zP rfl ?_ | ((first | refine zm ?_ | skip); intro _; intros; simp (disch := first | exact zd | fail) only [↓yS, yT, gresults, gone, ↓reduceIte, Nat.reduceEqDiff, Nat.reduceAdd, Nat.reduceMul, reduceCtorEq, Int.reduceToNat, g26, i6, i7, i8, i9, i37, i38, hslA.len, hslB.len, hiT, he2', decide_false, hslA.ia, e3]; first | (rename_i K k; (first | refine yC (k _ _ ?_) | refine zg (k _ ?_)); clear k K) | (rename_i A B C D a b c d; (first | refine zx (a ?_) | refine zy (b ?_) | refine zz (fun hc => c ?_) (fun hc => d ?_) | refine zv (b ?_) | refine zw (a ?_)) <;> clear a b c d A B C D <;> try simp only [yL] at hc)) | refine zA ?_ | refine zB ?_ | refine zF ?_)
          intro K' hK'; refine G1_call (by simp only [gtarget, ↓GArg.ev, ↓evs, ↓Tr.get_set, Nat.reduceEqDiff, if_true, if_false, ↓reduceIte, Option.map_some, i6, i7, i8]; rfl) (one_of (joined_ok a3 _)) fun r9 H9 hq => hK' _ _ ?_
          obtain ⟨rfl, rfl⟩ := hq
          cases hj : jnd (S[i + T.length]!) with
          | false =>
            have hb2 : brd S ((i : Int) + T.length) = true := by
              cases h : brd S ((i : Int) + T.length) with
              | true => rfl
              | false => have := b2 false h; rw [if_neg he2, hj] at this; cases this
            rw [hyes2 hb1 hb2] at hPost
            repeat' (first | (exfalso; omega) | refine zn ?_ | refine zK rfl ?_ | refine zP rfl ?_ | ((first | refine zm ?_ | skip); intro _; intros; simp (disch := first | exact zd | fail) only [↓yS, yT, gresults, gone, ↓reduceIte, Nat.reduceEqDiff, Nat.reduceAdd, Nat.reduceMul, reduceCtorEq, Int.reduceToNat, g26, i6, i7, i8]; first | (rename_i K k; (first | refine yC (k _ _ ?_) | refine zg (k _ ?_)); clear k K) | (rename_i A B C D a b c d; (first | refine zx (a ?_) | refine zy (b ?_) | refine zz (fun hc => c ?_) (fun hc => d ?_) | refine zv (b ?_) | refine zw (a ?_)) <;> clear a b c d A B C D <;> try simp only [yL] at hc)) | refine zA ?_ | refine zB ?_ | refine zF ?_)
            exact hPost _
          | true =>
            have hb2 : brd S ((i : Int) + T.length) = false := by
              cases h : brd S ((i : Int) + T.length) with
              | false => rfl
              | true => have := b2 true h; rw [if_neg he2, hj] at this; cases this
            repeat' (first | (exfalso; omega) | refine zn ?_ | refine zK rfl ?_ | refine zP rfl ?_ | ((first | refine zm ?_ | skip); intro _; intros; simp (disch := first | exact zd | fail) only [↓yS, yT, gresults, gone, ↓reduceIte, Nat.reduceEqDiff, Nat.reduceAdd, Nat.reduceMul, reduceCtorEq, Int.reduceToNat, g26, i6, i7, i8]; first | (rename_i K k; (first | refine yC (k _ _ ?_) | refine zg (k _ ?_)); clear k K) | (rename_i A B C D a b c d; (first | refine zx (a ?_) | refine zy (b ?_) | refine zz (fun hc => c ?_) (fun hc => d ?_) | refine zv (b ?_) | refine zw (a ?_)) <;> clear a b c d A B C D <;> try simp only [yL] at hc)) | refine zA ?_ | refine zB ?_ | refine zF ?_)
            refine hJ _ _ ⟨S.length + 1 - (i + 1), by omega, i + 1, rfl, by omega, ?_⟩
            simp only [↓yG, Nat.reduceEqDiff, ↓reduceIte, Int.natCast_add, Int.cast_ofNat_Int, Int.natCast_zero, true_and, and_true, Option.some.injEq, Value.int.injEq, i6, i7]
            first | exact ⟨rfl, hno2 hb2⟩ | exact hno2 hb2
end Go.Gh
