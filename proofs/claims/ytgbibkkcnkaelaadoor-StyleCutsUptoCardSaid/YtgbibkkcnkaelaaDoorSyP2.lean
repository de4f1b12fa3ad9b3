/-
  style and its reference, walked: limit, Slice.
-/
import Derived.Test.YtgbibkkcnkaelaaDoorSyP1
namespace Go.Gh
set_option linter.unusedSimpArgs false
set_option linter.unusedVariables false
open Go.RowKit
set_option maxRecDepth 4000

def limI (n i : Int) : Int := min (max i 0) n
def limJ (n i j : Int) : Int := min (max j (limI n i)) n
theorem limit_ok (n i j : Int) (H : GHeap) : gev G 45 [.int .i64 n, .int .i64 i, .int .i64 j] H = some (.tuple #[.int .i64 (limI n i), .int .i64 (limJ n i j)], H) := by
  refine gev_GWP (f := 45) rfl rfl (by simp [litVal, litOk, litFlat]) (fun Post hPost => ?_) H
  simp only [frameOf, Nat.reduceAdd]
  repeat' (first | refine zA ?_ | refine zB ?_ | refine zC ?_ | refine zD ?_ | refine zE ?_ | refine zF ?_ | refine zG ?_ | refine zH ?_ | refine zI ?_ | refine zJ ?_ | refine zK rfl ?_ | refine zL ?_ | refine zM ?_ | refine zN ?_ | refine zO ?_ | refine zP rfl ?_ | refine zQ ?_ | ((first | refine zR ?_ | refine zS ?_ | refine zT ?_ | skip); intro K k; simp (disch := (first | (simp only [yD2, beq_self_eq_true, Nat.reduceLT, Nat.reduceAdd]; done) | ((fail_if_success (apply Bool.eq_iff_iff.2)); first | omega | (simp only [yD2, beq_self_eq_true, Nat.reduceLT, Nat.reduceAdd] <;> omega)) | fail)) only [↓yS, yT, ↓reduceIte, Nat.reduceEqDiff, Nat.reduceAdd, Nat.reduceMul, reduceCtorEq, Int.reduceToNat, g45]; refine yC (k _ _ ?_); clear k K) | ((first | refine zU ?_ | refine zV ?_ | refine zW ?_); intro A B C D a b c d; simp only [↓yG, Nat.reduceEqDiff, ↓reduceIte, g45]; (first | refine zX (a ?_) | refine zY (b ?_) | refine zZ (fun hc => c ?_) (fun hc => d ?_)) <;> clear a b c d A B C D <;> try simp only [yL] at hc) | (refine yA ?_; intro A a; simp only [↓yG, Nat.reduceEqDiff, ↓reduceIte, g45]; refine yB (a ?_); clear a A) | (refine yD ?_; simp only [gresults, ↓yG, Nat.reduceEqDiff, ↓reduceIte, Option.bind_some, gld_1, gld_n, g45]; refine ⟨_, rfl, ?_⟩; simp only [gone]))
  exact hPost _
/-! ### parts -/
def walkC (f : Nat → SR → List SR) : Nat → List SR → List SR
  | _, [] => []
  | a, x :: r => f a x ++ walkC f (a + cntR x) r
theorem walkC_append (f : Nat → SR → List SR) : ∀ (l m : List SR) (a : Nat), walkC f a (l ++ m) = walkC f a l ++ walkC f (a + cntL l) m
  | [], m, a => by simp [walkC, cntL]
  | x :: l, m, a => by
    have ih := walkC_append f l m (a + cntR x)
    have e : cntL (x :: l) = cntR x + cntL l := by simp [cntL]
    rw [List.cons_append, walkC, walkC, ih, List.append_assoc, e, Nat.add_assoc]
theorem walkC_take (f : Nat → SR → List SR) {l : List SR} {j : Nat} (h : j < l.length) : walkC f 0 (l.take (j + 1)) = walkC f 0 (l.take j) ++ f (cntL (l.take j)) l[j]! := by
  rw [List.take_succ_eq_append_getElem h, walkC_append, ← getElem!_pos l j h]
  simp [walkC]
theorem flat_part (l : List Nat) (a b : Nat) : (((l.drop a).take b).flatMap encL).length ≤ (l.flatMap encL).length := by
  have h1 : l.flatMap encL = (l.take a).flatMap encL ++ (l.drop a).flatMap encL := by
    rw [← List.flatMap_append, List.take_append_drop]
  have h2 : (l.drop a).flatMap encL = ((l.drop a).take b).flatMap encL ++ ((l.drop a).drop b).flatMap encL := by
    rw [← List.flatMap_append, List.take_append_drop]
  rw [h1, h2]
  simp only [List.length_append]
  omega
theorem sliceB_len (t : List UInt8) (i j : Int) : (sliceB (strB t) i j).length ≤ t.length := by
  unfold sliceB cutL
  refine Nat.le_trans (flat_part _ _ _) ?_
  cases h : vldB (strB t) with
  | false => rw [charL_no h]; simp
  | true =>
    rw [charL_yes h, enc_rns h, strB_data]
    exact Nat.le_refl _
/-- the part of a run at a place -/
def partA (i j : Int) (a : Nat) (x : SR) : SR := ⟨sliceB (strB x.t) (limI (cntR x) (i - a)) (limJ (cntR x) (i - a) (j - a)), x.s, if limJ (cntR x) (i - a) (j - a) - limI (cntR x) (i - a) < cntR x then [] else x.y⟩
def partsA (i j : Int) (a : Nat) (x : SR) : List SR := [partA i j a x]
def fromB (i : Int) (a : Nat) : Int := max (i - a) 0
def toB (j : Int) (a : Nat) (x : SR) : Int := min (j - a) (cntR x : Nat)
def partsB (i j : Int) (a : Nat) (x : SR) : List SR :=
  if fromB i a < toB j a x then [⟨sliceB (strB x.t) (fromB i a) (toB j a x), x.s, if fromB i a = 0 ∧ toB j a x = (cntR x : Nat) then x.y else []⟩] else []
theorem parts_len {f : Nat → SR → List SR} (hf : ∀ a x, (f a x).length ≤ 1 ∧ tot (f a x) ≤ x.t.length) : ∀ (l : List SR) (a : Nat), (walkC f a l).length ≤ l.length ∧ tot (walkC f a l) ≤ tot l
  | [], a => by simp [walkC, tot]
  | x :: l, a => by
    have h1 := hf a x
    have h2 := parts_len hf l (a + cntR x)
    rw [walkC, List.length_append, tot_append, tot_cons, List.length_cons]
    omega
theorem partsA_len (i j : Int) (a : Nat) (x : SR) : (partsA i j a x).length ≤ 1 ∧ tot (partsA i j a x) ≤ x.t.length := by
  have := sliceB_len x.t (limI (cntR x) (i - a)) (limJ (cntR x) (i - a) (j - a))
  simp only [partsA, partA, tot, List.length_cons, List.length_nil, List.map_cons, List.map_nil, List.sum_cons, List.sum_nil]
  omega
theorem partsB_len (i j : Int) (a : Nat) (x : SR) : (partsB i j a x).length ≤ 1 ∧ tot (partsB i j a x) ≤ x.t.length := by
  unfold partsB
  split
  · have := sliceB_len x.t (fromB i a) (toB j a x)
    simp only [tot, List.length_cons, List.length_nil, List.map_cons, List.map_nil, List.sum_cons, List.sum_nil]
    omega
  · simp [tot]
theorem pushN_nil (out : List SR) {x : SR} (h : x.t = []) : pushN out x = out := by rw [pushN, if_pos h]
theorem fold_same {f g : Nat → SR → List SR} (hfg : ∀ a x (out : List SR), (f a x).foldl pushN out = (g a x).foldl pushN out) : ∀ (l : List SR) (a : Nat) (out : List SR), (walkC f a l).foldl pushN out = (walkC g a l).foldl pushN out
  | [], _, _ => rfl
  | x :: l, a, out => by
    rw [walkC, walkC, List.foldl_append, List.foldl_append, hfg, fold_same hfg l]
theorem cutL_nil (l : List Nat) {i j : Int} (h0 : 0 ≤ i) (h : j ≤ i) : cutL l i j = [] := by
  unfold cutL
  rw [show (min (max j (min (max i 0) l.length)) l.length).toNat - (min (max i 0) l.length).toNat = 0 from by omega, List.take_zero]
theorem parts_same (i j : Int) (a : Nat) (x : SR) (out : List SR) : (partsA i j a x).foldl pushN out = (partsB i j a x).foldl pushN out := by
  unfold partsA partsB
  by_cases h : fromB i a < toB j a x
  · rw [if_pos h]
    unfold fromB toB at h
    have e1 : limI (cntR x) (i - a) = fromB i a := by unfold limI fromB; omega
    have e2 : limJ (cntR x) (i - a) (j - a) = toB j a x := by unfold limJ limI toB; omega
    unfold partA
    rw [e1, e2]
    congr 3
    unfold fromB toB
    by_cases h2 : min (j - a) ((cntR x : Nat) : Int) - max (i - a) 0 < (cntR x : Nat)
    · rw [if_pos h2, if_neg (by omega)]
    · rw [if_neg h2, if_pos (by omega)]
  · rw [if_neg h]
    unfold fromB toB at h
    rw [List.foldl_cons, List.foldl_nil, List.foldl_nil]
    refine pushN_nil out ?_
    unfold partA sliceB
    simp only
    rw [cutL_nil _ (by unfold limI; omega) (by unfold limJ limI; omega)]
    rfl
def sliceF (l : List SR) (i j : Int) : List SR :=
  if lenF l < 0 then [] else normF (walkC (partsA (limI (lenF l) i) (limJ (lenF l) i j)) 0 l)
theorem sliceF_B (l : List SR) (i j : Int) : sliceF l i j = if lenF l < 0 then [] else normF (walkC (partsB (limI (lenF l) i) (limJ (lenF l) i j)) 0 l) := by
  unfold sliceF normF
  rw [fold_same (fun a x out => parts_same _ _ a x out)]
theorem sliceF_tot (l : List SR) (i j : Int) : tot (sliceF l i j) ≤ tot l ∧ (sliceF l i j).length ≤ l.length := by
  unfold sliceF
  split
  · simp [tot]
  · have h1 := parts_len (partsA_len (limI (lenF l) i) (limJ (lenF l) i j)) l 0
    have h2 := normF_tot (walkC (partsA (limI (lenF l) i) (limJ (lenF l) i j)) 0 l)
    omega
theorem lenF_range (l : List SR) : -1 ≤ lenF l ∧ lenF l ≤ (tot l : Nat) := by
  have := cntL_le l
  unfold lenF
  split <;> omega
set_option maxHeartbeats 1000000 in
theorem slice_ok' {H : GHeap} (hw : H.wf) {v : Value} {l : List SR} (hv : RR H v l) (hll : l.length ≤ 16777216) (ht : tot l ≤ 4398046511104) {i j : Int} (hi : -9223372036854775808 ≤ i ∧ i ≤ 9223372036854775807) (hj : -9223372036854775808 ≤ j ∧ j ≤ 9223372036854775807) :
    ∃ r H', gev G 14 [rowV v, .int .i64 i, .int .i64 j] H = some (r, H') ∧ ∃ w, r = rowV w ∧ OR H H' w (sliceF l i j) := by
  refine gev_GW (f := 14) rfl fun Post hPost => ?_
  have hlim := hw.1
  have hf := hv.flat
  have hsl := hv.isSl
  have hlr := lenF_range l
  simp only [frameOf, Nat.reduceAdd]
  have hS0 : Same H ((H.add (some (.cells [v] 0 true))).add (some (.cells [.slice none 0 0] 0 true))) := ((Same.refl hw).add _).add _
  have kr : ((H.add (some (.cells [v] 0 true))).add (some (.cells [.slice none 0 0] 0 true))).rdn H.len 0 1 = some (rowV v) := by
    rw [rdn_add_ne (by rw [len_add]; omega)]; exact rdn_add_all (n := 1) rfl rfl
  have k0 : ((H.add (some (.cells [v] 0 true))).add (some (.cells [.slice none 0 0] 0 true))).rd H.len 0 = some v := by
    rw [rd_add_ne (by rw [len_add]; omega), rd_add_eq rfl]; rfl
  have km : ((H.add (some (.cells [v] 0 true))).add (some (.cells [.slice none 0 0] 0 true))).mine (H.len + 1) = some ([.slice none 0 0], 0) := mine_add_eq (by rw [len_add]) (by rw [lim_add]; omega)
  have hl0 : ((H.add (some (.cells [v] 0 true))).add (some (.cells [.slice none 0 0] 0 true))).len = H.len + 2 := by rw [len_add, len_add]
  repeat' (first | refine zA ?_ | refine zB ?_ | refine zC ?_ | refine zD ?_ | refine zE ?_ | refine zF ?_ | refine zG ?_ | refine zH ?_ | refine zI ?_ | refine zJ ?_ | refine zK rfl ?_ | refine zL ?_ | refine zM ?_ | refine zN ?_ | refine zO ?_ | refine zP rfl ?_ | refine zQ ?_ | ((first | refine zR ?_ | refine zS ?_ | refine zT ?_ | skip); intro K k; simp (disch := (first | (simp only [yD2, beq_self_eq_true, Nat.reduceLT, Nat.reduceAdd]; done) | ((fail_if_success (apply Bool.eq_iff_iff.2)); first | omega | (simp only [yD2, beq_self_eq_true, Nat.reduceLT, Nat.reduceAdd] <;> omega)) | fail)) only [↓yS, yT, ↓reduceIte, Nat.reduceEqDiff, Nat.reduceAdd, Nat.reduceMul, reduceCtorEq, Int.reduceToNat, g14, rowV_eq, agg_all, agg_list, hf]; refine yC (k _ _ ?_); clear k K) | ((first | refine zU ?_ | refine zV ?_ | refine zW ?_); intro A B C D a b c d; simp only [↓yG, Nat.reduceEqDiff, ↓reduceIte, g14, rowV_eq, agg_all, agg_list, hf]; (first | refine zX (a ?_) | refine zY (b ?_) | refine zZ (fun hc => c ?_) (fun hc => d ?_)) <;> clear a b c d A B C D <;> try simp only [yL] at hc) | (refine yA ?_; intro A a; simp only [↓yG, Nat.reduceEqDiff, ↓reduceIte, g14, rowV_eq, agg_all, agg_list, hf]; refine yB (a ?_); clear a A) | (refine yD ?_; simp only [gresults, ↓yG, Nat.reduceEqDiff, ↓reduceIte, Option.bind_some, gld_1, gld_n, g14, rowV_eq, agg_all, agg_list, hf]; refine ⟨_, rfl, ?_⟩; simp only [gone]))
  generalize (H.add (some (.cells [v] 0 true))).add (some (.cells [.slice none 0 0] 0 true)) = Hb at *
  repeat' (first | refine zA ?_ | refine zB ?_ | refine zC ?_ | refine zD ?_ | refine zE ?_ | refine zF ?_ | refine zG ?_ | refine zH ?_ | refine zI ?_ | refine zJ ?_ | refine zK rfl ?_ | refine zL ?_ | refine zM ?_ | refine zN ?_ | refine zO ?_ | refine zP rfl ?_ | refine zQ ?_ | ((first | refine zR ?_ | refine zS ?_ | refine zT ?_ | skip); intro K k; simp (disch := (first | (simp only [yD2, beq_self_eq_true, Nat.reduceLT, Nat.reduceAdd]; done) | ((fail_if_success (apply Bool.eq_iff_iff.2)); first | omega | (simp only [yD2, beq_self_eq_true, Nat.reduceLT, Nat.reduceAdd] <;> omega)) | fail)) only [↓yS, yT, ↓reduceIte, Nat.reduceEqDiff, Nat.reduceAdd, Nat.reduceMul, reduceCtorEq, Int.reduceToNat, g14, kr]; refine yC (k _ _ ?_); clear k K) | ((first | refine zU ?_ | refine zV ?_ | refine zW ?_); intro A B C D a b c d; simp only [↓yG, Nat.reduceEqDiff, ↓reduceIte, g14, kr]; (first | refine zX (a ?_) | refine zY (b ?_) | refine zZ (fun hc => c ?_) (fun hc => d ?_)) <;> clear a b c d A B C D <;> try simp only [yL] at hc) | (refine yA ?_; intro A a; simp only [↓yG, Nat.reduceEqDiff, ↓reduceIte, g14, kr]; refine yB (a ?_); clear a A) | (refine yD ?_; simp only [gresults, ↓yG, Nat.reduceEqDiff, ↓reduceIte, Option.bind_some, gld_1, gld_n, g14, kr]; refine ⟨_, rfl, ?_⟩; simp only [gone]))
  refine Gw_s fun K' hK' => G1_call (by simp only [gtarget, ↓GArg.ev, ↓evs, ↓Tr.get_set, Nat.reduceEqDiff, if_true, if_false, ↓reduceIte, Option.map_some]; rfl) (Len_ok hS0.wf (hv.later hw hS0) hll ht) fun r1 H1 hq => hK' _ _ ?_
  obtain ⟨rfl, hS⟩ := hq
  have hS1 := hS0.trans hS
  have kr1 : H1.rdn H.len 0 1 = some (rowV v) := by rw [hS.rdn (by omega)]; exact kr
  repeat' (first | refine zA ?_ | refine zB ?_ | refine zC ?_ | refine zD ?_ | refine zE ?_ | refine zF ?_ | refine zG ?_ | refine zH ?_ | refine zI ?_ | refine zJ ?_ | refine zK rfl ?_ | refine zL ?_ | refine zM ?_ | refine zN ?_ | refine zO ?_ | refine zP rfl ?_ | refine zQ ?_ | ((first | refine zR ?_ | refine zS ?_ | refine zT ?_ | skip); intro K k; simp (disch := (first | (simp only [yD2, beq_self_eq_true, Nat.reduceLT, Nat.reduceAdd]; done) | ((fail_if_success (apply Bool.eq_iff_iff.2)); first | omega | (simp only [yD2, beq_self_eq_true, Nat.reduceLT, Nat.reduceAdd] <;> omega)) | fail)) only [↓yS, yT, ↓reduceIte, Nat.reduceEqDiff, Nat.reduceAdd, Nat.reduceMul, reduceCtorEq, Int.reduceToNat, g14]; refine yC (k _ _ ?_); clear k K) | ((first | refine zU ?_ | refine zV ?_ | refine zW ?_); intro A B C D a b c d; simp only [↓yG, Nat.reduceEqDiff, ↓reduceIte, g14]; (first | refine zX (a ?_) | refine zY (b ?_) | refine zZ (fun hc => c ?_) (fun hc => d ?_)) <;> clear a b c d A B C D <;> try simp only [yL] at hc) | (refine yA ?_; intro A a; simp only [↓yG, Nat.reduceEqDiff, ↓reduceIte, g14]; refine yB (a ?_); clear a A) | (refine yD ?_; simp only [gresults, ↓yG, Nat.reduceEqDiff, ↓reduceIte, Option.bind_some, gld_1, gld_n, g14]; refine ⟨_, rfl, ?_⟩; simp only [gone]))
  refine Gw_s fun K' hK' => G1_call (by simp only [gtarget, ↓GArg.ev, ↓evs, ↓Tr.get_set, Nat.reduceEqDiff, if_true, if_false, ↓reduceIte, Option.map_some]; rfl) (one_of (limit_ok (max (lenF l) 0) i j _)) fun r2 H2 hq => hK' _ _ ?_
  obtain ⟨rfl, rfl⟩ := hq
  repeat' (first | refine zA ?_ | refine zB ?_ | refine zC ?_ | refine zD ?_ | refine zE ?_ | refine zF ?_ | refine zG ?_ | refine zH ?_ | refine zI ?_ | refine zJ ?_ | refine zK rfl ?_ | refine zL ?_ | refine zM ?_ | refine zN ?_ | refine zO ?_ | refine zP rfl ?_ | refine zQ ?_ | ((first | refine zR ?_ | refine zS ?_ | refine zT ?_ | skip); intro K k; simp (disch := (first | (simp only [yD2, beq_self_eq_true, Nat.reduceLT, Nat.reduceAdd]; done) | ((fail_if_success (apply Bool.eq_iff_iff.2)); first | omega | (simp only [yD2, beq_self_eq_true, Nat.reduceLT, Nat.reduceAdd] <;> omega)) | fail)) only [↓yS, yT, ↓reduceIte, Nat.reduceEqDiff, Nat.reduceAdd, Nat.reduceMul, reduceCtorEq, Int.reduceToNat, g14, kr1]; refine yC (k _ _ ?_); clear k K) | ((first | refine zU ?_ | refine zV ?_ | refine zW ?_); intro A B C D a b c d; simp only [↓yG, Nat.reduceEqDiff, ↓reduceIte, g14, kr1]; (first | refine zX (a ?_) | refine zY (b ?_) | refine zZ (fun hc => c ?_) (fun hc => d ?_)) <;> clear a b c d A B C D <;> try simp only [yL] at hc) | (refine yA ?_; intro A a; simp only [↓yG, Nat.reduceEqDiff, ↓reduceIte, g14, kr1]; refine yB (a ?_); clear a A) | (refine yD ?_; simp only [gresults, ↓yG, Nat.reduceEqDiff, ↓reduceIte, Option.bind_some, gld_1, gld_n, g14, kr1]; refine ⟨_, rfl, ?_⟩; simp only [gone]))
  refine Gw_s fun K' hK' => G1_call (by simp only [gtarget, ↓GArg.ev, ↓evs, ↓Tr.get_set, Nat.reduceEqDiff, if_true, if_false, ↓reduceIte, Option.map_some]; rfl) (Len_ok hS1.wf (hv.later hw hS1) hll ht) fun r3 H3 hq => hK' _ _ ?_
  obtain ⟨rfl, hS3⟩ := hq
  have hS03 := hS.trans hS3
  have k03 : H3.rd H.len 0 = some v := by rw [hS03.rd (by omega)]; exact k0
  have km3 : H3.mine (H.len + 1) = some ([.slice none 0 0], 0) := by rw [hS03.mine (by omega)]; exact km
  have hSH3 := hS0.trans hS03
  have hw3 := hSH3.wf
  by_cases hneg : lenF l < 0
  · have hO : OR H H3 (.slice none 0 0) [] := OS.nil hSH3
    obtain ⟨g1, g2, g3⟩ := hO.res km3 rfl (by omega)
    rw [rowV_eq] at g1 g3
    repeat' (first | (exfalso; omega) | refine zA ?_ | refine zB ?_ | refine zC ?_ | refine zD ?_ | refine zE ?_ | refine zF ?_ | refine zG ?_ | refine zH ?_ | refine zI ?_ | refine zJ ?_ | refine zK rfl ?_ | refine zL ?_ | refine zM ?_ | refine zN ?_ | refine zO ?_ | refine zP rfl ?_ | refine zQ ?_ | ((first | refine zR ?_ | refine zS ?_ | refine zT ?_ | skip); intro K k; simp (disch := (first | (simp only [yD2, beq_self_eq_true, Nat.reduceLT, Nat.reduceAdd]; done) | ((fail_if_success (apply Bool.eq_iff_iff.2)); first | omega | (simp only [yD2, beq_self_eq_true, Nat.reduceLT, Nat.reduceAdd] <;> omega)) | fail)) only [↓yS, yT, ↓reduceIte, Nat.reduceEqDiff, Nat.reduceAdd, Nat.reduceMul, reduceCtorEq, Int.reduceToNat, g14, g1, g3]; refine yC (k _ _ ?_); clear k K) | ((first | refine zU ?_ | refine zV ?_ | refine zW ?_); intro A B C D a b c d; simp only [↓yG, Nat.reduceEqDiff, ↓reduceIte, g14, g1, g3]; (first | refine zX (a ?_) | refine zY (b ?_) | refine zZ (fun hc => c ?_) (fun hc => d ?_)) <;> clear a b c d A B C D <;> try simp only [yL] at hc) | (refine yA ?_; intro A a; simp only [↓yG, Nat.reduceEqDiff, ↓reduceIte, g14, g1, g3]; refine yB (a ?_); clear a A) | (refine yD ?_; simp only [gresults, ↓yG, Nat.reduceEqDiff, ↓reduceIte, Option.bind_some, gld_1, gld_n, g14, g1, g3]; refine ⟨_, rfl, ?_⟩; simp only [gone]))
    exact hPost _ _ ⟨_, rfl, by rw [sliceF, if_pos hneg]; exact g2⟩
  have hmax : max (lenF l) 0 = lenF l := by omega
  have hsf : sliceF l i j = normF (walkC (partsA (limI (lenF l) i) (limJ (lenF l) i j)) 0 l) := by rw [sliceF, if_neg hneg]
  have hIb : 0 ≤ limI (lenF l) i ∧ limI (lenF l) i ≤ lenF l := by unfold limI; omega
  have hJb : 0 ≤ limJ (lenF l) i j ∧ limJ (lenF l) i j ≤ lenF l := by unfold limJ limI; omega
  rw [hmax]
  generalize limI (lenF l) i = I at *
  generalize limJ (lenF l) i j = J at *
  obtain ⟨hall, hlc⟩ := lenF_all (l := l) (by omega)
  repeat' (first | (exfalso; omega) | refine zA ?_ | refine zB ?_ | refine zC ?_ | refine zD ?_ | refine zE ?_ | refine zF ?_ | refine zG ?_ | refine zH ?_ | refine zI ?_ | refine zJ ?_ | refine zK rfl ?_ | refine zL ?_ | refine zM ?_ | refine zN ?_ | refine zO ?_ | refine zP rfl ?_ | refine zQ ?_ | ((first | refine zR ?_ | refine zS ?_ | refine zT ?_ | skip); intro K k; simp (disch := (first | (simp only [yD2, beq_self_eq_true, Nat.reduceLT, Nat.reduceAdd]; done) | ((fail_if_success (apply Bool.eq_iff_iff.2)); first | omega | (simp only [yD2, beq_self_eq_true, Nat.reduceLT, Nat.reduceAdd] <;> omega)) | fail)) only [↓yS, yT, ↓reduceIte, Nat.reduceEqDiff, Nat.reduceAdd, Nat.reduceMul, reduceCtorEq, Int.reduceToNat, g14, k03, hsl.len]; refine yC (k _ _ ?_); clear k K) | ((first | refine zU ?_ | refine zV ?_ | refine zW ?_); intro A B C D a b c d; simp only [↓yG, Nat.reduceEqDiff, ↓reduceIte, g14, k03, hsl.len]; (first | refine zX (a ?_) | refine zY (b ?_) | refine zZ (fun hc => c ?_) (fun hc => d ?_)) <;> clear a b c d A B C D <;> try simp only [yL] at hc) | (refine yA ?_; intro A a; simp only [↓yG, Nat.reduceEqDiff, ↓reduceIte, g14, k03, hsl.len]; refine yB (a ?_); clear a A) | (refine yD ?_; simp only [gresults, ↓yG, Nat.reduceEqDiff, ↓reduceIte, Option.bind_some, gld_1, gld_n, g14, k03, hsl.len]; refine ⟨_, rfl, ?_⟩; simp only [gone]))
  refine GW_loop (fun k fr Hk => ∃ (q : Nat) (w : Value), k = l.length - q ∧ q ≤ l.length ∧ fr.get 1 = some (.int .i64 I) ∧ fr.get 2 = some (.int .i64 J) ∧ fr.get 6 = some (.pointer (some ⟨H.len + 1, 0, none⟩)) ∧ fr.get 7 = some (w) ∧ fr.get 8 = some (.int .i64 (cntL (l.take q))) ∧ fr.get 28 = some (v) ∧ fr.get 29 = some (.int .i64 l.length) ∧ fr.get 30 = some (.int .i64 q) ∧ Hk.mine (H.len + 1) = some ([.slice none 0 0], 0) ∧ OR H Hk w (walkC (partsA I J) 0 (l.take q))) ?_ l.length ?_
  rotate_left
  · refine ⟨0, .slice none 0 0, by omega, by omega, ?_⟩
    simp only [↓yG, Nat.reduceEqDiff, ↓reduceIte, Int.natCast_add, Int.cast_ofNat_Int, Int.natCast_zero, true_and, and_true, Option.some.injEq, Value.int.injEq]
    exact ⟨rfl, km3, OS.nil hSH3⟩
  rintro k fr H4 ⟨q, w, rfl, hq, f1, f2, f6, f7, f8, f28, f29, f30, m4, hO⟩ J0 hJ
  have hS4 := hO.same
  have hw4 := hS4.wf
  have hlim4 := hw4.1
  have hlm := mine_lt hw4 m4
  have hcq := cntL_le (l.take q)
  have htq := tot_le l q
  have hpl := parts_len (partsA_len I J) (l.take q) 0
  rw [List.length_take] at hpl
  generalize hout : walkC (partsA I J) 0 (l.take q) = out at *
  by_cases hq1 : q < l.length
  · have e1 := (hv.later hw hS4).rowN hq1
    have hmem : l[q]! ∈ l := by rw [getElem!_pos l q hq1]; exact List.getElem_mem _
    have hmt := mem_tot hmem
    have hvx := List.all_eq_true.1 hall _ hmem
    have hstep := cntL_take hq1
    have hwst : walkC (partsA I J) 0 (l.take (q + 1)) = out ++ [partA I J (cntL (l.take q)) l[q]!] := by rw [walkC_take _ hq1, hout]; rfl
    generalize hx : l[q]! = x at *
    have hcx := cntR_le x
    generalize hca : cntL (l.take q) = a at *
    have hlen : lenN (strB x.t) = (cntR x : Nat) := by
      unfold vR at hvx
      rw [lenN_eq, hvx]; rfl
    obtain ⟨H5, hH5⟩ : ∃ H5, H5 = (H4.add (some (.cells [.string ⟨#[]⟩, .int .u8 0, .bool false, .bool false, .string ⟨#[]⟩] 0 true))).put H4.len (.cells (runC x) 0 true) := ⟨_, rfl⟩
    have hS45 : Same H4 H5 := hH5 ▸ (Same.refl hw4).new _ _
    have hl5 : H5.len = H4.len + 1 := by rw [hH5, len_put, len_add]
    have b5 : H5.mine H4.len = some (runC x, 0) := by
      rw [hH5]; exact mine_put_same (by rw [lim_add]; exact hlim4)
    have x0 : H5.rd H4.len 0 = some (.string (strB x.t)) := by rw [mine_rd b5]; rfl
    repeat' (first | (exfalso; omega) | refine zA ?_ | refine zB ?_ | refine zC ?_ | refine zD ?_ | refine zE ?_ | refine zF ?_ | refine zG ?_ | refine zH ?_ | refine zI ?_ | refine zJ ?_ | refine zK rfl ?_ | refine zL ?_ | refine zM ?_ | refine zN ?_ | refine zO ?_ | refine zP rfl ?_ | refine zQ ?_ | ((first | refine zR ?_ | refine zS ?_ | refine zT ?_ | skip); intro K k; simp (disch := (first | (simp only [yD2, beq_self_eq_true, Nat.reduceLT, Nat.reduceAdd]; done) | ((fail_if_success (apply Bool.eq_iff_iff.2)); first | omega | (simp only [yD2, beq_self_eq_true, Nat.reduceLT, Nat.reduceAdd] <;> omega)) | fail)) only [↓yS, yT, ↓reduceIte, Nat.reduceEqDiff, Nat.reduceAdd, Nat.reduceMul, reduceCtorEq, Int.reduceToNat, g14, f1, f2, f6, f7, f8, f28, f29, f30, RN, hsl.ia, e1]; refine yC (k _ _ ?_); clear k K) | ((first | refine zU ?_ | refine zV ?_ | refine zW ?_); intro A B C D a b c d; simp only [↓yG, Nat.reduceEqDiff, ↓reduceIte, g14, f1, f2, f6, f7, f8, f28, f29, f30, RN, hsl.ia, e1]; (first | refine zX (a ?_) | refine zY (b ?_) | refine zZ (fun hc => c ?_) (fun hc => d ?_)) <;> clear a b c d A B C D <;> try simp only [yL] at hc) | (refine yA ?_; intro A a; simp only [↓yG, Nat.reduceEqDiff, ↓reduceIte, g14, f1, f2, f6, f7, f8, f28, f29, f30, RN, hsl.ia, e1]; refine yB (a ?_); clear a A) | (refine yD ?_; simp only [gresults, ↓yG, Nat.reduceEqDiff, ↓reduceIte, Option.bind_some, gld_1, gld_n, g14, f1, f2, f6, f7, f8, f28, f29, f30, RN, hsl.ia, e1]; refine ⟨_, rfl, ?_⟩; simp only [gone]))
    try rw [← hH5]
    refine Gw_s fun K' hK' => G1_call (by simp only [gtarget, ↓GArg.ev, ↓evs, ↓Tr.get_set, Nat.reduceEqDiff, if_true, if_false, ↓reduceIte, Option.map_some, f1, f2, f6, f7, f8, f28, f29, f30]; rfl) (one_of (len_ok (s := strB x.t) (by rw [strB_size]; omega) _)) fun r6 H6 hq6 => hK' _ _ ?_
    obtain ⟨rfl, rfl⟩ := hq6
    rw [hlen]
    repeat' (first | (exfalso; omega) | refine zA ?_ | refine zB ?_ | refine zC ?_ | refine zD ?_ | refine zE ?_ | refine zF ?_ | refine zG ?_ | refine zH ?_ | refine zI ?_ | refine zJ ?_ | refine zK rfl ?_ | refine zL ?_ | refine zM ?_ | refine zN ?_ | refine zO ?_ | refine zP rfl ?_ | refine zQ ?_ | ((first | refine zR ?_ | refine zS ?_ | refine zT ?_ | skip); intro K k; simp (disch := (first | (simp only [yD2, beq_self_eq_true, Nat.reduceLT, Nat.reduceAdd]; done) | ((fail_if_success (apply Bool.eq_iff_iff.2)); first | omega | (simp only [yD2, beq_self_eq_true, Nat.reduceLT, Nat.reduceAdd] <;> omega)) | fail)) only [↓yS, yT, ↓reduceIte, Nat.reduceEqDiff, Nat.reduceAdd, Nat.reduceMul, reduceCtorEq, Int.reduceToNat, g14, f1, f2, f6, f7, f8, f28, f29, f30]; refine yC (k _ _ ?_); clear k K) | ((first | refine zU ?_ | refine zV ?_ | refine zW ?_); intro A B C D a b c d; simp only [↓yG, Nat.reduceEqDiff, ↓reduceIte, g14, f1, f2, f6, f7, f8, f28, f29, f30]; (first | refine zX (a ?_) | refine zY (b ?_) | refine zZ (fun hc => c ?_) (fun hc => d ?_)) <;> clear a b c d A B C D <;> try simp only [yL] at hc) | (refine yA ?_; intro A a; simp only [↓yG, Nat.reduceEqDiff, ↓reduceIte, g14, f1, f2, f6, f7, f8, f28, f29, f30]; refine yB (a ?_); clear a A) | (refine yD ?_; simp only [gresults, ↓yG, Nat.reduceEqDiff, ↓reduceIte, Option.bind_some, gld_1, gld_n, g14, f1, f2, f6, f7, f8, f28, f29, f30]; refine ⟨_, rfl, ?_⟩; simp only [gone]))
    refine Gw_s fun K' hK' => G1_call (by simp only [gtarget, ↓GArg.ev, ↓evs, ↓Tr.get_set, Nat.reduceEqDiff, if_true, if_false, ↓reduceIte, Option.map_some, f1, f2, f6, f7, f8, f28, f29, f30]; rfl) (one_of (limit_ok (cntR x : Nat) (I - a) (J - a) _)) fun r7 H7 hq7 => hK' _ _ ?_
    obtain ⟨rfl, rfl⟩ := hq7
    have hpa : partA I J a x = ⟨sliceB (strB x.t) (limI (cntR x) (I - a)) (limJ (cntR x) (I - a) (J - a)), x.s, if limJ (cntR x) (I - a) (J - a) - limI (cntR x) (I - a) < cntR x then [] else x.y⟩ := rfl
    have hFb : 0 ≤ limI (cntR x) (I - a) ∧ limI (cntR x) (I - a) ≤ cntR x := by unfold limI; omega
    have hTb : 0 ≤ limJ (cntR x) (I - a) (J - a) ∧ limJ (cntR x) (I - a) (J - a) ≤ cntR x := by unfold limJ limI; omega
    generalize limI (cntR x) (I - a) = F at *
    generalize limJ (cntR x) (I - a) (J - a) = T at *
    have hO5 := hO.later hS45
    have m5 : H7.mine (H.len + 1) = some ([.slice none 0 0], 0) := by rw [hS45.mine hlm]; exact m4
    have hn2 : ¬ (H.len + 1) ∈ idOf w := fun ha => by
      have := (hO5.ids ha).2.2
      rw [m5] at this
      simp at this
    have hnb : ¬ H4.len ∈ idOf w := fun ha => by
      have := (hO5.ids ha).2.2
      rw [b5] at this
      simp at this
    have hw7 := hS45.wf
    -- what the box holds, changed
    have box : ∀ (HX : GHeap) (y : SR), But (fun z => z = H4.len) H7 HX → HX.mine H4.len = some (runC y, 0) → OR H HX w out ∧ HX.mine (H.len + 1) = some ([.slice none 0 0], 0) ∧ H4.len < HX.len := fun HX y hB hm => ⟨hO5.but hB (fun z hz e => by have := hS4.len; omega) (fun b hb e => hnb (e ▸ hb)), by rw [hB.mine (by omega) (by omega)]; exact m5, mine_lt hB.wf hm⟩
    have sty : ∀ (HX : GHeap) (y : SR), But (fun z => z = H4.len) H7 HX → HX.mine H4.len = some (runC y, 0) → gst none HX (.pointer (some ⟨H4.len, 4, none⟩)) (.string ⟨#[]⟩) = some (HX.put H4.len (.cells (runC ⟨y.t, y.s, []⟩) 0 true)) ∧ But (fun z => z = H4.len) H7 (HX.put H4.len (.cells (runC ⟨y.t, y.s, []⟩) 0 true)) ∧ (HX.put H4.len (.cells (runC ⟨y.t, y.s, []⟩) 0 true)).mine H4.len = some (runC ⟨y.t, y.s, []⟩, 0) := fun HX y hB hm => ⟨by rw [gst_1, hm, Option.bind_some, gset_ok (by simp [runC]) flatV_str]; rfl, hB.put rfl (mine_lt hB.wf hm) _, mine_put_same (mine_obj hm).1⟩
    have stt : ∀ (HX : GHeap) (y : SR) (t : List UInt8), But (fun z => z = H4.len) H7 HX → HX.mine H4.len = some (runC y, 0) → gst none HX (.pointer (some ⟨H4.len, 0, none⟩)) (.string (strB t)) = some (HX.put H4.len (.cells (runC ⟨t, y.s, y.y⟩) 0 true)) ∧ But (fun z => z = H4.len) H7 (HX.put H4.len (.cells (runC ⟨t, y.s, y.y⟩) 0 true)) ∧ (HX.put H4.len (.cells (runC ⟨t, y.s, y.y⟩) 0 true)).mine H4.len = some (runC ⟨t, y.s, y.y⟩, 0) := fun HX y t hB hm => ⟨by rw [gst_1, hm, Option.bind_some, gset_ok (by simp [runC]) flatV_str]; rfl, hB.put rfl (mine_lt hB.wf hm) _, mine_put_same (mine_obj hm).1⟩
    have hB7 : But (fun z => z = H4.len) H7 H7 := But.refl hw7
    have htl := sliceB_len x.t F T
    by_cases hcut : T - F < (cntR x : Nat)
    · rw [if_pos hcut] at hpa
      obtain ⟨s1, s2, s3⟩ := sty H7 x hB7 b5
      have x1 : (H7.put H4.len (.cells (runC ⟨x.t, x.s, []⟩) 0 true)).rd H4.len 0 = some (.string (strB x.t)) := by rw [mine_rd s3]; rfl
      repeat' (first | (exfalso; omega) | refine zA ?_ | refine zB ?_ | refine zC ?_ | refine zD ?_ | refine zE ?_ | refine zF ?_ | refine zG ?_ | refine zH ?_ | refine zI ?_ | refine zJ ?_ | refine zK rfl ?_ | refine zL ?_ | refine zM ?_ | refine zN ?_ | refine zO ?_ | refine zP rfl ?_ | refine zQ ?_ | ((first | refine zR ?_ | refine zS ?_ | refine zT ?_ | skip); intro K k; simp (disch := (first | (simp only [yD2, beq_self_eq_true, Nat.reduceLT, Nat.reduceAdd]; done) | ((fail_if_success (apply Bool.eq_iff_iff.2)); first | omega | (simp only [yD2, beq_self_eq_true, Nat.reduceLT, Nat.reduceAdd] <;> omega)) | fail)) only [↓yS, yT, ↓reduceIte, Nat.reduceEqDiff, Nat.reduceAdd, Nat.reduceMul, reduceCtorEq, Int.reduceToNat, g14, f1, f2, f6, f7, f8, f28, f29, f30, s1, x1]; refine yC (k _ _ ?_); clear k K) | ((first | refine zU ?_ | refine zV ?_ | refine zW ?_); intro A B C D a b c d; simp only [↓yG, Nat.reduceEqDiff, ↓reduceIte, g14, f1, f2, f6, f7, f8, f28, f29, f30, s1, x1]; (first | refine zX (a ?_) | refine zY (b ?_) | refine zZ (fun hc => c ?_) (fun hc => d ?_)) <;> clear a b c d A B C D <;> try simp only [yL] at hc) | (refine yA ?_; intro A a; simp only [↓yG, Nat.reduceEqDiff, ↓reduceIte, g14, f1, f2, f6, f7, f8, f28, f29, f30, s1, x1]; refine yB (a ?_); clear a A) | (refine yD ?_; simp only [gresults, ↓yG, Nat.reduceEqDiff, ↓reduceIte, Option.bind_some, gld_1, gld_n, g14, f1, f2, f6, f7, f8, f28, f29, f30, s1, x1]; refine ⟨_, rfl, ?_⟩; simp only [gone]))
      generalize H7.put H4.len (.cells (runC ⟨x.t, x.s, []⟩) 0 true) = H8 at *
      refine Gw_s fun K' hK' => G1_call (by simp only [gtarget, ↓GArg.ev, ↓evs, ↓Tr.get_set, Nat.reduceEqDiff, if_true, if_false, ↓reduceIte, Option.map_some, f1, f2, f6, f7, f8, f28, f29, f30]; rfl) (one_of (slice_ok (s := strB x.t) (by rw [strB_size]; omega) (i := F) (j := T) (by omega) (by omega) _)) fun r10 H10 hq10 => hK' _ _ ?_
      obtain ⟨rfl, rfl⟩ := hq10
      obtain ⟨u1, u2, u3⟩ := stt H10 ⟨x.t, x.s, []⟩ (sliceB (strB x.t) F T) s2 s3
      have x5 : (H10.put H4.len (.cells (runC ⟨sliceB (strB x.t) F T, (⟨x.t, x.s, []⟩ : SR).s, (⟨x.t, x.s, []⟩ : SR).y⟩) 0 true)).rdn H4.len 0 5 = some (runV ⟨sliceB (strB x.t) F T, (⟨x.t, x.s, []⟩ : SR).s, (⟨x.t, x.s, []⟩ : SR).y⟩) := rdn_runp
      repeat' (first | (exfalso; omega) | refine zA ?_ | refine zB ?_ | refine zC ?_ | refine zD ?_ | refine zE ?_ | refine zF ?_ | refine zG ?_ | refine zH ?_ | refine zI ?_ | refine zJ ?_ | refine zK rfl ?_ | refine zL ?_ | refine zM ?_ | refine zN ?_ | refine zO ?_ | refine zP rfl ?_ | refine zQ ?_ | ((first | refine zR ?_ | refine zS ?_ | refine zT ?_ | skip); intro K k; simp (disch := (first | (simp only [yD2, beq_self_eq_true, Nat.reduceLT, Nat.reduceAdd]; done) | ((fail_if_success (apply Bool.eq_iff_iff.2)); first | omega | (simp only [yD2, beq_self_eq_true, Nat.reduceLT, Nat.reduceAdd] <;> omega)) | fail)) only [↓yS, yT, ↓reduceIte, Nat.reduceEqDiff, Nat.reduceAdd, Nat.reduceMul, reduceCtorEq, Int.reduceToNat, g14, f1, f2, f6, f7, f8, f28, f29, f30, RN, u1, x5]; refine yC (k _ _ ?_); clear k K) | ((first | refine zU ?_ | refine zV ?_ | refine zW ?_); intro A B C D a b c d; simp only [↓yG, Nat.reduceEqDiff, ↓reduceIte, g14, f1, f2, f6, f7, f8, f28, f29, f30, RN, u1, x5]; (first | refine zX (a ?_) | refine zY (b ?_) | refine zZ (fun hc => c ?_) (fun hc => d ?_)) <;> clear a b c d A B C D <;> try simp only [yL] at hc) | (refine yA ?_; intro A a; simp only [↓yG, Nat.reduceEqDiff, ↓reduceIte, g14, f1, f2, f6, f7, f8, f28, f29, f30, RN, u1, x5]; refine yB (a ?_); clear a A) | (refine yD ?_; simp only [gresults, ↓yG, Nat.reduceEqDiff, ↓reduceIte, Option.bind_some, gld_1, gld_n, g14, f1, f2, f6, f7, f8, f28, f29, f30, RN, u1, x5]; refine ⟨_, rfl, ?_⟩; simp only [gone]))
      obtain ⟨hO11, m11, hl11⟩ := box _ _ u2 u3
      have hle : (H10.put H4.len (.cells (runC ⟨sliceB (strB x.t) F T, (⟨x.t, x.s, []⟩ : SR).s, (⟨x.t, x.s, []⟩ : SR).y⟩) 0 true)).len = H10.len := len_put
      generalize H10.put H4.len (.cells (runC ⟨sliceB (strB x.t) F T, (⟨x.t, x.s, []⟩ : SR).s, (⟨x.t, x.s, []⟩ : SR).y⟩) 0 true) = H11 at *
      rw [← hle]
      refine Gw_s fun K' hK' => ?_
      simp (disch := (first | (simp only [yD2, beq_self_eq_true, Nat.reduceLT, Nat.reduceAdd]; done) | ((fail_if_success (apply Bool.eq_iff_iff.2)); first | omega | (simp only [yD2, beq_self_eq_true, Nat.reduceLT, Nat.reduceAdd] <;> omega)) | fail)) only [↓yS, yT, ↓reduceIte, Nat.reduceEqDiff, Nat.reduceAdd, Nat.reduceMul, reduceCtorEq, Int.reduceToNat, f1, f2, f6, f7, f8, f28, f29, f30]
      obtain ⟨w', H12, e, hO12, hB12⟩ := OS.app1 hO11 (by decide) (by decide) (news := runC ⟨sliceB (strB x.t) F T, (⟨x.t, x.s, []⟩ : SR).s, (⟨x.t, x.s, []⟩ : SR).y⟩) rfl (b := 40) (by omega) (by omega)
      refine G1_eq e (hK' _ _ ?_)
      clear hK' K' e
      have hO12' : OR H H12 w' (out ++ [partA I J a x]) := by
        have e1 : RunsC (out ++ [partA I J a x]) = RunsC out ++ runC ⟨sliceB (strB x.t) F T, (⟨x.t, x.s, []⟩ : SR).s, (⟨x.t, x.s, []⟩ : SR).y⟩ := by rw [hpa]; simp [RunsC]
        have e2 : (out ++ [partA I J a x]).length = out.length + 1 := by simp
        unfold OR
        rw [e1, e2]; exact hO12
      have m12 : H12.mine (H.len + 1) = some ([.slice none 0 0], 0) := by rw [hB12.mine (mine_lt hO11.same.wf m11) hn2]; exact m11
      repeat' (first | (exfalso; omega) | refine zA ?_ | refine zB ?_ | refine zC ?_ | refine zD ?_ | refine zE ?_ | refine zF ?_ | refine zG ?_ | refine zH ?_ | refine zI ?_ | refine zJ ?_ | refine zK rfl ?_ | refine zL ?_ | refine zM ?_ | refine zN ?_ | refine zO ?_ | refine zP rfl ?_ | refine zQ ?_ | ((first | refine zR ?_ | refine zS ?_ | refine zT ?_ | skip); intro K k; simp (disch := (first | (simp only [yD2, beq_self_eq_true, Nat.reduceLT, Nat.reduceAdd]; done) | ((fail_if_success (apply Bool.eq_iff_iff.2)); first | omega | (simp only [yD2, beq_self_eq_true, Nat.reduceLT, Nat.reduceAdd] <;> omega)) | fail)) only [↓yS, yT, ↓reduceIte, Nat.reduceEqDiff, Nat.reduceAdd, Nat.reduceMul, reduceCtorEq, Int.reduceToNat, g14, f1, f2, f6, f7, f8, f28, f29, f30]; refine yC (k _ _ ?_); clear k K) | ((first | refine zU ?_ | refine zV ?_ | refine zW ?_); intro A B C D a b c d; simp only [↓yG, Nat.reduceEqDiff, ↓reduceIte, g14, f1, f2, f6, f7, f8, f28, f29, f30]; (first | refine zX (a ?_) | refine zY (b ?_) | refine zZ (fun hc => c ?_) (fun hc => d ?_)) <;> clear a b c d A B C D <;> try simp only [yL] at hc) | (refine yA ?_; intro A a; simp only [↓yG, Nat.reduceEqDiff, ↓reduceIte, g14, f1, f2, f6, f7, f8, f28, f29, f30]; refine yB (a ?_); clear a A) | (refine yD ?_; simp only [gresults, ↓yG, Nat.reduceEqDiff, ↓reduceIte, Option.bind_some, gld_1, gld_n, g14, f1, f2, f6, f7, f8, f28, f29, f30]; refine ⟨_, rfl, ?_⟩; simp only [gone]))
      refine hJ _ _ ⟨l.length - (q + 1), by omega, q + 1, w', rfl, by omega, ?_⟩
      simp only [↓yG, Nat.reduceEqDiff, ↓reduceIte, Int.natCast_add, Int.cast_ofNat_Int, Int.natCast_zero, true_and, and_true, Option.some.injEq, Value.int.injEq, f1, f2, f6, f28, f29]
      rw [hstep, hwst]
      exact ⟨by omega, m12, hO12'⟩
    · rw [if_neg hcut] at hpa
      repeat' (first | (exfalso; omega) | refine zA ?_ | refine zB ?_ | refine zC ?_ | refine zD ?_ | refine zE ?_ | refine zF ?_ | refine zG ?_ | refine zH ?_ | refine zI ?_ | refine zJ ?_ | refine zK rfl ?_ | refine zL ?_ | refine zM ?_ | refine zN ?_ | refine zO ?_ | refine zP rfl ?_ | refine zQ ?_ | ((first | refine zR ?_ | refine zS ?_ | refine zT ?_ | skip); intro K k; simp (disch := (first | (simp only [yD2, beq_self_eq_true, Nat.reduceLT, Nat.reduceAdd]; done) | ((fail_if_success (apply Bool.eq_iff_iff.2)); first | omega | (simp only [yD2, beq_self_eq_true, Nat.reduceLT, Nat.reduceAdd] <;> omega)) | fail)) only [↓yS, yT, ↓reduceIte, Nat.reduceEqDiff, Nat.reduceAdd, Nat.reduceMul, reduceCtorEq, Int.reduceToNat, g14, f1, f2, f6, f7, f8, f28, f29, f30, x0]; refine yC (k _ _ ?_); clear k K) | ((first | refine zU ?_ | refine zV ?_ | refine zW ?_); intro A B C D a b c d; simp only [↓yG, Nat.reduceEqDiff, ↓reduceIte, g14, f1, f2, f6, f7, f8, f28, f29, f30, x0]; (first | refine zX (a ?_) | refine zY (b ?_) | refine zZ (fun hc => c ?_) (fun hc => d ?_)) <;> clear a b c d A B C D <;> try simp only [yL] at hc) | (refine yA ?_; intro A a; simp only [↓yG, Nat.reduceEqDiff, ↓reduceIte, g14, f1, f2, f6, f7, f8, f28, f29, f30, x0]; refine yB (a ?_); clear a A) | (refine yD ?_; simp only [gresults, ↓yG, Nat.reduceEqDiff, ↓reduceIte, Option.bind_some, gld_1, gld_n, g14, f1, f2, f6, f7, f8, f28, f29, f30, x0]; refine ⟨_, rfl, ?_⟩; simp only [gone]))
      have s2 := hB7
      have s3 := b5
      refine Gw_s fun K' hK' => G1_call (by simp only [gtarget, ↓GArg.ev, ↓evs, ↓Tr.get_set, Nat.reduceEqDiff, if_true, if_false, ↓reduceIte, Option.map_some, f1, f2, f6, f7, f8, f28, f29, f30]; rfl) (one_of (slice_ok (s := strB x.t) (by rw [strB_size]; omega) (i := F) (j := T) (by omega) (by omega) _)) fun r10 H10 hq10 => hK' _ _ ?_
      obtain ⟨rfl, rfl⟩ := hq10
      obtain ⟨u1, u2, u3⟩ := stt H10 x (sliceB (strB x.t) F T) s2 s3
      have x5 : (H10.put H4.len (.cells (runC ⟨sliceB (strB x.t) F T, (x : SR).s, (x : SR).y⟩) 0 true)).rdn H4.len 0 5 = some (runV ⟨sliceB (strB x.t) F T, (x : SR).s, (x : SR).y⟩) := rdn_runp
      repeat' (first | (exfalso; omega) | refine zA ?_ | refine zB ?_ | refine zC ?_ | refine zD ?_ | refine zE ?_ | refine zF ?_ | refine zG ?_ | refine zH ?_ | refine zI ?_ | refine zJ ?_ | refine zK rfl ?_ | refine zL ?_ | refine zM ?_ | refine zN ?_ | refine zO ?_ | refine zP rfl ?_ | refine zQ ?_ | ((first | refine zR ?_ | refine zS ?_ | refine zT ?_ | skip); intro K k; simp (disch := (first | (simp only [yD2, beq_self_eq_true, Nat.reduceLT, Nat.reduceAdd]; done) | ((fail_if_success (apply Bool.eq_iff_iff.2)); first | omega | (simp only [yD2, beq_self_eq_true, Nat.reduceLT, Nat.reduceAdd] <;> omega)) | fail)) only [↓yS, yT, ↓reduceIte, Nat.reduceEqDiff, Nat.reduceAdd, Nat.reduceMul, reduceCtorEq, Int.reduceToNat, g14, f1, f2, f6, f7, f8, f28, f29, f30, RN, u1, x5]; refine yC (k _ _ ?_); clear k K) | ((first | refine zU ?_ | refine zV ?_ | refine zW ?_); intro A B C D a b c d; simp only [↓yG, Nat.reduceEqDiff, ↓reduceIte, g14, f1, f2, f6, f7, f8, f28, f29, f30, RN, u1, x5]; (first | refine zX (a ?_) | refine zY (b ?_) | refine zZ (fun hc => c ?_) (fun hc => d ?_)) <;> clear a b c d A B C D <;> try simp only [yL] at hc) | (refine yA ?_; intro A a; simp only [↓yG, Nat.reduceEqDiff, ↓reduceIte, g14, f1, f2, f6, f7, f8, f28, f29, f30, RN, u1, x5]; refine yB (a ?_); clear a A) | (refine yD ?_; simp only [gresults, ↓yG, Nat.reduceEqDiff, ↓reduceIte, Option.bind_some, gld_1, gld_n, g14, f1, f2, f6, f7, f8, f28, f29, f30, RN, u1, x5]; refine ⟨_, rfl, ?_⟩; simp only [gone]))
      obtain ⟨hO11, m11, hl11⟩ := box _ _ u2 u3
      have hle : (H10.put H4.len (.cells (runC ⟨sliceB (strB x.t) F T, (x : SR).s, (x : SR).y⟩) 0 true)).len = H10.len := len_put
      generalize H10.put H4.len (.cells (runC ⟨sliceB (strB x.t) F T, (x : SR).s, (x : SR).y⟩) 0 true) = H11 at *
      rw [← hle]
      refine Gw_s fun K' hK' => ?_
      simp (disch := (first | (simp only [yD2, beq_self_eq_true, Nat.reduceLT, Nat.reduceAdd]; done) | ((fail_if_success (apply Bool.eq_iff_iff.2)); first | omega | (simp only [yD2, beq_self_eq_true, Nat.reduceLT, Nat.reduceAdd] <;> omega)) | fail)) only [↓yS, yT, ↓reduceIte, Nat.reduceEqDiff, Nat.reduceAdd, Nat.reduceMul, reduceCtorEq, Int.reduceToNat, f1, f2, f6, f7, f8, f28, f29, f30]
      obtain ⟨w', H12, e, hO12, hB12⟩ := OS.app1 hO11 (by decide) (by decide) (news := runC ⟨sliceB (strB x.t) F T, (x : SR).s, (x : SR).y⟩) rfl (b := 40) (by omega) (by omega)
      refine G1_eq e (hK' _ _ ?_)
      clear hK' K' e
      have hO12' : OR H H12 w' (out ++ [partA I J a x]) := by
        have e1 : RunsC (out ++ [partA I J a x]) = RunsC out ++ runC ⟨sliceB (strB x.t) F T, (x : SR).s, (x : SR).y⟩ := by rw [hpa]; simp [RunsC]
        have e2 : (out ++ [partA I J a x]).length = out.length + 1 := by simp
        unfold OR
        rw [e1, e2]; exact hO12
      have m12 : H12.mine (H.len + 1) = some ([.slice none 0 0], 0) := by rw [hB12.mine (mine_lt hO11.same.wf m11) hn2]; exact m11
      repeat' (first | (exfalso; omega) | refine zA ?_ | refine zB ?_ | refine zC ?_ | refine zD ?_ | refine zE ?_ | refine zF ?_ | refine zG ?_ | refine zH ?_ | refine zI ?_ | refine zJ ?_ | refine zK rfl ?_ | refine zL ?_ | refine zM ?_ | refine zN ?_ | refine zO ?_ | refine zP rfl ?_ | refine zQ ?_ | ((first | refine zR ?_ | refine zS ?_ | refine zT ?_ | skip); intro K k; simp (disch := (first | (simp only [yD2, beq_self_eq_true, Nat.reduceLT, Nat.reduceAdd]; done) | ((fail_if_success (apply Bool.eq_iff_iff.2)); first | omega | (simp only [yD2, beq_self_eq_true, Nat.reduceLT, Nat.reduceAdd] <;> omega)) | fail)) only [↓yS, yT, ↓reduceIte, Nat.reduceEqDiff, Nat.reduceAdd, Nat.reduceMul, reduceCtorEq, Int.reduceToNat, g14, f1, f2, f6, f7, f8, f28, f29, f30]; refine yC (k _ _ ?_); clear k K) | ((first | refine zU ?_ | refine zV ?_ | refine zW ?_); intro A B C D a b c d; simp only [↓yG, Nat.reduceEqDiff, ↓reduceIte, g14, f1, f2, f6, f7, f8, f28, f29, f30]; (first | refine zX (a ?_) | refine zY (b ?_) | refine zZ (fun hc => c ?_) (fun hc => d ?_)) <;> clear a b c d A B C D <;> try simp only [yL] at hc) | (refine yA ?_; intro A a; simp only [↓yG, Nat.reduceEqDiff, ↓reduceIte, g14, f1, f2, f6, f7, f8, f28, f29, f30]; refine yB (a ?_); clear a A) | (refine yD ?_; simp only [gresults, ↓yG, Nat.reduceEqDiff, ↓reduceIte, Option.bind_some, gld_1, gld_n, g14, f1, f2, f6, f7, f8, f28, f29, f30]; refine ⟨_, rfl, ?_⟩; simp only [gone]))
      refine hJ _ _ ⟨l.length - (q + 1), by omega, q + 1, w', rfl, by omega, ?_⟩
      simp only [↓yG, Nat.reduceEqDiff, ↓reduceIte, Int.natCast_add, Int.cast_ofNat_Int, Int.natCast_zero, true_and, and_true, Option.some.injEq, Value.int.injEq, f1, f2, f6, f28, f29]
      rw [hstep, hwst]
      exact ⟨by omega, m12, hO12'⟩
  · obtain rfl : q = l.length := by omega
    rw [List.take_length] at hout
    repeat' (first | (exfalso; omega) | refine zA ?_ | refine zB ?_ | refine zC ?_ | refine zD ?_ | refine zE ?_ | refine zF ?_ | refine zG ?_ | refine zH ?_ | refine zI ?_ | refine zJ ?_ | refine zK rfl ?_ | refine zL ?_ | refine zM ?_ | refine zN ?_ | refine zO ?_ | refine zP rfl ?_ | refine zQ ?_ | ((first | refine zR ?_ | refine zS ?_ | refine zT ?_ | skip); intro K k; simp (disch := (first | (simp only [yD2, beq_self_eq_true, Nat.reduceLT, Nat.reduceAdd]; done) | ((fail_if_success (apply Bool.eq_iff_iff.2)); first | omega | (simp only [yD2, beq_self_eq_true, Nat.reduceLT, Nat.reduceAdd] <;> omega)) | fail)) only [↓yS, yT, ↓reduceIte, Nat.reduceEqDiff, Nat.reduceAdd, Nat.reduceMul, reduceCtorEq, Int.reduceToNat, g14, f1, f2, f6, f7, f8, f28, f29, f30]; refine yC (k _ _ ?_); clear k K) | ((first | refine zU ?_ | refine zV ?_ | refine zW ?_); intro A B C D a b c d; simp only [↓yG, Nat.reduceEqDiff, ↓reduceIte, g14, f1, f2, f6, f7, f8, f28, f29, f30]; (first | refine zX (a ?_) | refine zY (b ?_) | refine zZ (fun hc => c ?_) (fun hc => d ?_)) <;> clear a b c d A B C D <;> try simp only [yL] at hc) | (refine yA ?_; intro A a; simp only [↓yG, Nat.reduceEqDiff, ↓reduceIte, g14, f1, f2, f6, f7, f8, f28, f29, f30]; refine yB (a ?_); clear a A) | (refine yD ?_; simp only [gresults, ↓yG, Nat.reduceEqDiff, ↓reduceIte, Option.bind_some, gld_1, gld_n, g14, f1, f2, f6, f7, f8, f28, f29, f30]; refine ⟨_, rfl, ?_⟩; simp only [gone]))
    refine Gw_s fun K' hK' => G1_call (by simp only [gtarget, ↓GArg.ev, ↓evs, ↓Tr.get_set, Nat.reduceEqDiff, if_true, if_false, ↓reduceIte, Option.map_some, f1, f2, f6, f7, f8, f28, f29, f30]; rfl) (norm_ok hw4 hO.rr (by omega) (by omega)) fun r9 H9 hq9 => hK' _ _ ?_
    obtain ⟨w9, rfl, hO9⟩ := hq9
    have m9 : H9.mine (H.len + 1) = some ([.slice none 0 0], 0) := by rw [hO9.same.mine hlm]; exact m4
    obtain ⟨g1, g2, g3⟩ := (hO9.weaken hS4).res m9 rfl (by omega)
    repeat' (first | (exfalso; omega) | refine zA ?_ | refine zB ?_ | refine zC ?_ | refine zD ?_ | refine zE ?_ | refine zF ?_ | refine zG ?_ | refine zH ?_ | refine zI ?_ | refine zJ ?_ | refine zK rfl ?_ | refine zL ?_ | refine zM ?_ | refine zN ?_ | refine zO ?_ | refine zP rfl ?_ | refine zQ ?_ | ((first | refine zR ?_ | refine zS ?_ | refine zT ?_ | skip); intro K k; simp (disch := (first | (simp only [yD2, beq_self_eq_true, Nat.reduceLT, Nat.reduceAdd]; done) | ((fail_if_success (apply Bool.eq_iff_iff.2)); first | omega | (simp only [yD2, beq_self_eq_true, Nat.reduceLT, Nat.reduceAdd] <;> omega)) | fail)) only [↓yS, yT, ↓reduceIte, Nat.reduceEqDiff, Nat.reduceAdd, Nat.reduceMul, reduceCtorEq, Int.reduceToNat, g14, f1, f2, f6, f7, f8, f28, f29, f30, g1, g3]; refine yC (k _ _ ?_); clear k K) | ((first | refine zU ?_ | refine zV ?_ | refine zW ?_); intro A B C D a b c d; simp only [↓yG, Nat.reduceEqDiff, ↓reduceIte, g14, f1, f2, f6, f7, f8, f28, f29, f30, g1, g3]; (first | refine zX (a ?_) | refine zY (b ?_) | refine zZ (fun hc => c ?_) (fun hc => d ?_)) <;> clear a b c d A B C D <;> try simp only [yL] at hc) | (refine yA ?_; intro A a; simp only [↓yG, Nat.reduceEqDiff, ↓reduceIte, g14, f1, f2, f6, f7, f8, f28, f29, f30, g1, g3]; refine yB (a ?_); clear a A) | (refine yD ?_; simp only [gresults, ↓yG, Nat.reduceEqDiff, ↓reduceIte, Option.bind_some, gld_1, gld_n, g14, f1, f2, f6, f7, f8, f28, f29, f30, g1, g3]; refine ⟨_, rfl, ?_⟩; simp only [gone]))
    exact hPost _ _ ⟨w9, rfl, by rw [hsf, hout]; exact g2⟩
set_option maxHeartbeats 1000000 in
theorem rslice_ok' {H : GHeap} (hw : H.wf) {v : Value} {l : List SR} (hv : RR H v l) (hll : l.length ≤ 16777216) (ht : tot l ≤ 4398046511104) {i j : Int} (hi : -9223372036854775808 ≤ i ∧ i ≤ 9223372036854775807) (hj : -9223372036854775808 ≤ j ∧ j ≤ 9223372036854775807) :
    ∃ r H', gev G 15 [rowV v, .int .i64 i, .int .i64 j] H = some (r, H') ∧ ∃ w, r = rowV w ∧ OR H H' w (sliceF l i j) := by
  refine gev_GW (f := 15) rfl fun Post hPost => ?_
  have hlim := hw.1
  have hf := hv.flat
  have hsl := hv.isSl
  have hlr := lenF_range l
  simp only [frameOf, Nat.reduceAdd]
  have hS0 : Same H ((H.add (some (.cells [v] 0 true))).add (some (.cells [.slice none 0 0] 0 true))) := ((Same.refl hw).add _).add _
  have kr : ((H.add (some (.cells [v] 0 true))).add (some (.cells [.slice none 0 0] 0 true))).rdn H.len 0 1 = some (rowV v) := by
    rw [rdn_add_ne (by rw [len_add]; omega)]; exact rdn_add_all (n := 1) rfl rfl
  have k0 : ((H.add (some (.cells [v] 0 true))).add (some (.cells [.slice none 0 0] 0 true))).rd H.len 0 = some v := by
    rw [rd_add_ne (by rw [len_add]; omega), rd_add_eq rfl]; rfl
  have km : ((H.add (some (.cells [v] 0 true))).add (some (.cells [.slice none 0 0] 0 true))).mine (H.len + 1) = some ([.slice none 0 0], 0) := mine_add_eq (by rw [len_add]) (by rw [lim_add]; omega)
  have hl0 : ((H.add (some (.cells [v] 0 true))).add (some (.cells [.slice none 0 0] 0 true))).len = H.len + 2 := by rw [len_add, len_add]
  repeat' (first | refine zA ?_ | refine zB ?_ | refine zC ?_ | refine zD ?_ | refine zE ?_ | refine zF ?_ | refine zG ?_ | refine zH ?_ | refine zI ?_ | refine zJ ?_ | refine zK rfl ?_ | refine zL ?_ | refine zM ?_ | refine zN ?_ | refine zO ?_ | refine zP rfl ?_ | refine zQ ?_ | ((first | refine zR ?_ | refine zS ?_ | refine zT ?_ | skip); intro K k; simp (disch := (first | (simp only [yD2, beq_self_eq_true, Nat.reduceLT, Nat.reduceAdd]; done) | ((fail_if_success (apply Bool.eq_iff_iff.2)); first | omega | (simp only [yD2, beq_self_eq_true, Nat.reduceLT, Nat.reduceAdd] <;> omega)) | fail)) only [↓yS, yT, ↓reduceIte, Nat.reduceEqDiff, Nat.reduceAdd, Nat.reduceMul, reduceCtorEq, Int.reduceToNat, g15, rowV_eq, agg_all, agg_list, hf]; refine yC (k _ _ ?_); clear k K) | ((first | refine zU ?_ | refine zV ?_ | refine zW ?_); intro A B C D a b c d; simp only [↓yG, Nat.reduceEqDiff, ↓reduceIte, g15, rowV_eq, agg_all, agg_list, hf]; (first | refine zX (a ?_) | refine zY (b ?_) | refine zZ (fun hc => c ?_) (fun hc => d ?_)) <;> clear a b c d A B C D <;> try simp only [yL] at hc) | (refine yA ?_; intro A a; simp only [↓yG, Nat.reduceEqDiff, ↓reduceIte, g15, rowV_eq, agg_all, agg_list, hf]; refine yB (a ?_); clear a A) | (refine yD ?_; simp only [gresults, ↓yG, Nat.reduceEqDiff, ↓reduceIte, Option.bind_some, gld_1, gld_n, g15, rowV_eq, agg_all, agg_list, hf]; refine ⟨_, rfl, ?_⟩; simp only [gone]))
  generalize (H.add (some (.cells [v] 0 true))).add (some (.cells [.slice none 0 0] 0 true)) = Hb at *
  repeat' (first | refine zA ?_ | refine zB ?_ | refine zC ?_ | refine zD ?_ | refine zE ?_ | refine zF ?_ | refine zG ?_ | refine zH ?_ | refine zI ?_ | refine zJ ?_ | refine zK rfl ?_ | refine zL ?_ | refine zM ?_ | refine zN ?_ | refine zO ?_ | refine zP rfl ?_ | refine zQ ?_ | ((first | refine zR ?_ | refine zS ?_ | refine zT ?_ | skip); intro K k; simp (disch := (first | (simp only [yD2, beq_self_eq_true, Nat.reduceLT, Nat.reduceAdd]; done) | ((fail_if_success (apply Bool.eq_iff_iff.2)); first | omega | (simp only [yD2, beq_self_eq_true, Nat.reduceLT, Nat.reduceAdd] <;> omega)) | fail)) only [↓yS, yT, ↓reduceIte, Nat.reduceEqDiff, Nat.reduceAdd, Nat.reduceMul, reduceCtorEq, Int.reduceToNat, g15, kr]; refine yC (k _ _ ?_); clear k K) | ((first | refine zU ?_ | refine zV ?_ | refine zW ?_); intro A B C D a b c d; simp only [↓yG, Nat.reduceEqDiff, ↓reduceIte, g15, kr]; (first | refine zX (a ?_) | refine zY (b ?_) | refine zZ (fun hc => c ?_) (fun hc => d ?_)) <;> clear a b c d A B C D <;> try simp only [yL] at hc) | (refine yA ?_; intro A a; simp only [↓yG, Nat.reduceEqDiff, ↓reduceIte, g15, kr]; refine yB (a ?_); clear a A) | (refine yD ?_; simp only [gresults, ↓yG, Nat.reduceEqDiff, ↓reduceIte, Option.bind_some, gld_1, gld_n, g15, kr]; refine ⟨_, rfl, ?_⟩; simp only [gone]))
  refine Gw_s fun K' hK' => G1_call (by simp only [gtarget, ↓GArg.ev, ↓evs, ↓Tr.get_set, Nat.reduceEqDiff, if_true, if_false, ↓reduceIte, Option.map_some]; rfl) (rLen_ok hS0.wf (hv.later hw hS0) hll ht) fun r3 H3 hq => hK' _ _ ?_
  obtain ⟨rfl, hS3⟩ := hq
  have k03 : H3.rd H.len 0 = some v := by rw [hS3.rd (by omega)]; exact k0
  have km3 : H3.mine (H.len + 1) = some ([.slice none 0 0], 0) := by rw [hS3.mine (by omega)]; exact km
  have hSH3 := hS0.trans hS3
  have hw3 := hSH3.wf
  by_cases hneg : lenF l < 0
  · have hO : OR H H3 (.slice none 0 0) [] := OS.nil hSH3
    obtain ⟨g1, g2, g3⟩ := hO.res km3 rfl (by omega)
    rw [rowV_eq] at g1 g3
    repeat' (first | (exfalso; omega) | refine zA ?_ | refine zB ?_ | refine zC ?_ | refine zD ?_ | refine zE ?_ | refine zF ?_ | refine zG ?_ | refine zH ?_ | refine zI ?_ | refine zJ ?_ | refine zK rfl ?_ | refine zL ?_ | refine zM ?_ | refine zN ?_ | refine zO ?_ | refine zP rfl ?_ | refine zQ ?_ | ((first | refine zR ?_ | refine zS ?_ | refine zT ?_ | skip); intro K k; simp (disch := (first | (simp only [yD2, beq_self_eq_true, Nat.reduceLT, Nat.reduceAdd]; done) | ((fail_if_success (apply Bool.eq_iff_iff.2)); first | omega | (simp only [yD2, beq_self_eq_true, Nat.reduceLT, Nat.reduceAdd] <;> omega)) | fail)) only [↓yS, yT, ↓reduceIte, Nat.reduceEqDiff, Nat.reduceAdd, Nat.reduceMul, reduceCtorEq, Int.reduceToNat, g15, g1, g3]; refine yC (k _ _ ?_); clear k K) | ((first | refine zU ?_ | refine zV ?_ | refine zW ?_); intro A B C D a b c d; simp only [↓yG, Nat.reduceEqDiff, ↓reduceIte, g15, g1, g3]; (first | refine zX (a ?_) | refine zY (b ?_) | refine zZ (fun hc => c ?_) (fun hc => d ?_)) <;> clear a b c d A B C D <;> try simp only [yL] at hc) | (refine yA ?_; intro A a; simp only [↓yG, Nat.reduceEqDiff, ↓reduceIte, g15, g1, g3]; refine yB (a ?_); clear a A) | (refine yD ?_; simp only [gresults, ↓yG, Nat.reduceEqDiff, ↓reduceIte, Option.bind_some, gld_1, gld_n, g15, g1, g3]; refine ⟨_, rfl, ?_⟩; simp only [gone]))
    exact hPost _ _ ⟨_, rfl, by rw [sliceF, if_pos hneg]; exact g2⟩
  have hsf : sliceF l i j = normF (walkC (partsB (limI (lenF l) i) (limJ (lenF l) i j)) 0 l) := by rw [sliceF_B, if_neg hneg]
  have hIb : 0 ≤ limI (lenF l) i ∧ limI (lenF l) i ≤ lenF l := by unfold limI; omega
  have hJb : 0 ≤ limJ (lenF l) i j ∧ limJ (lenF l) i j ≤ lenF l := by unfold limJ limI; omega
  have hI0 : min (max i 0) (lenF l) = limI (lenF l) i := rfl
  have hJ0 : min (max j (limI (lenF l) i)) (lenF l) = limJ (lenF l) i j := rfl
  obtain ⟨hall, hlc⟩ := lenF_all (l := l) (by omega)
  repeat' (first | (exfalso; omega) | refine zA ?_ | refine zB ?_ | refine zC ?_ | refine zD ?_ | refine zE ?_ | refine zF ?_ | refine zG ?_ | refine zH ?_ | refine zI ?_ | refine zJ ?_ | refine zK rfl ?_ | refine zL ?_ | refine zM ?_ | refine zN ?_ | refine zO ?_ | refine zP rfl ?_ | refine zQ ?_ | ((first | refine zR ?_ | refine zS ?_ | refine zT ?_ | skip); intro K k; simp (disch := (first | (simp only [yD2, beq_self_eq_true, Nat.reduceLT, Nat.reduceAdd]; done) | ((fail_if_success (apply Bool.eq_iff_iff.2)); first | omega | (simp only [yD2, beq_self_eq_true, Nat.reduceLT, Nat.reduceAdd] <;> omega)) | fail)) only [↓yS, yT, ↓reduceIte, Nat.reduceEqDiff, Nat.reduceAdd, Nat.reduceMul, reduceCtorEq, Int.reduceToNat, g15, k03, hsl.len, hI0, hJ0]; refine yC (k _ _ ?_); clear k K) | ((first | refine zU ?_ | refine zV ?_ | refine zW ?_); intro A B C D a b c d; simp only [↓yG, Nat.reduceEqDiff, ↓reduceIte, g15, k03, hsl.len, hI0, hJ0]; (first | refine zX (a ?_) | refine zY (b ?_) | refine zZ (fun hc => c ?_) (fun hc => d ?_)) <;> clear a b c d A B C D <;> try simp only [yL] at hc) | (refine yA ?_; intro A a; simp only [↓yG, Nat.reduceEqDiff, ↓reduceIte, g15, k03, hsl.len, hI0, hJ0]; refine yB (a ?_); clear a A) | (refine yD ?_; simp only [gresults, ↓yG, Nat.reduceEqDiff, ↓reduceIte, Option.bind_some, gld_1, gld_n, g15, k03, hsl.len, hI0, hJ0]; refine ⟨_, rfl, ?_⟩; simp only [gone]))
  generalize limI (lenF l) i = I at *
  generalize limJ (lenF l) i j = J at *
  refine GW_loop (fun k fr Hk => ∃ (q : Nat) (w : Value), k = l.length - q ∧ q ≤ l.length ∧ fr.get 1 = some (.int .i64 I) ∧ fr.get 2 = some (.int .i64 J) ∧ fr.get 6 = some (.pointer (some ⟨H.len + 1, 0, none⟩)) ∧ fr.get 8 = some (w) ∧ fr.get 9 = some (.int .i64 (cntL (l.take q))) ∧ fr.get 31 = some (v) ∧ fr.get 32 = some (.int .i64 l.length) ∧ fr.get 33 = some (.int .i64 q) ∧ Hk.mine (H.len + 1) = some ([.slice none 0 0], 0) ∧ OR H Hk w (walkC (partsB I J) 0 (l.take q))) ?_ l.length ?_
  rotate_left
  · refine ⟨0, .slice none 0 0, by omega, by omega, ?_⟩
    simp only [↓yG, Nat.reduceEqDiff, ↓reduceIte, Int.natCast_add, Int.cast_ofNat_Int, Int.natCast_zero, true_and, and_true, Option.some.injEq, Value.int.injEq]
    exact ⟨rfl, km3, OS.nil hSH3⟩
  rintro k fr H4 ⟨q, w, rfl, hq, f1, f2, f6, f7, f8, f28, f29, f30, m4, hO⟩ J0 hJ
  have hS4 := hO.same
  have hw4 := hS4.wf
  have hlim4 := hw4.1
  have hlm := mine_lt hw4 m4
  have hcq := cntL_le (l.take q)
  have htq := tot_le l q
  have hpl := parts_len (partsB_len I J) (l.take q) 0
  rw [List.length_take] at hpl
  generalize hout : walkC (partsB I J) 0 (l.take q) = out at *
  by_cases hq1 : q < l.length
  · have e1 := (hv.later hw hS4).rowN hq1
    have hmem : l[q]! ∈ l := by rw [getElem!_pos l q hq1]; exact List.getElem_mem _
    have hmt := mem_tot hmem
    have hvx := List.all_eq_true.1 hall _ hmem
    have hstep := cntL_take hq1
    have hwst : walkC (partsB I J) 0 (l.take (q + 1)) = out ++ partsB I J (cntL (l.take q)) l[q]! := by rw [walkC_take _ hq1, hout]
    generalize hx : l[q]! = x at *
    have hcx := cntR_le x
    generalize hca : cntL (l.take q) = a at *
    have hlen : lenN (strB x.t) = (cntR x : Nat) := by
      unfold vR at hvx
      rw [lenN_eq, hvx]; rfl
    obtain ⟨H5, hH5⟩ : ∃ H5, H5 = (H4.add (some (.cells [.string ⟨#[]⟩, .int .u8 0, .bool false, .bool false, .string ⟨#[]⟩] 0 true))).put H4.len (.cells (runC x) 0 true) := ⟨_, rfl⟩
    have hS45 : Same H4 H5 := hH5 ▸ (Same.refl hw4).new _ _
    have hl5 : H5.len = H4.len + 1 := by rw [hH5, len_put, len_add]
    have b5 : H5.mine H4.len = some (runC x, 0) := by
      rw [hH5]; exact mine_put_same (by rw [lim_add]; exact hlim4)
    have x0 : H5.rd H4.len 0 = some (.string (strB x.t)) := by rw [mine_rd b5]; rfl
    have x3 : H5.rdn H4.len 1 3 = some (syV x.s) := by simp only [GHeap.rdn, mine_cs b5, Option.bind_some]; rfl
    have x4 : H5.rd H4.len 4 = some (.string (strB x.y)) := by rw [mine_rd b5]; rfl
    repeat' (first | (exfalso; omega) | refine zA ?_ | refine zB ?_ | refine zC ?_ | refine zD ?_ | refine zE ?_ | refine zF ?_ | refine zG ?_ | refine zH ?_ | refine zI ?_ | refine zJ ?_ | refine zK rfl ?_ | refine zL ?_ | refine zM ?_ | refine zN ?_ | refine zO ?_ | refine zP rfl ?_ | refine zQ ?_ | ((first | refine zR ?_ | refine zS ?_ | refine zT ?_ | skip); intro K k; simp (disch := (first | (simp only [yD2, beq_self_eq_true, Nat.reduceLT, Nat.reduceAdd]; done) | ((fail_if_success (apply Bool.eq_iff_iff.2)); first | omega | (simp only [yD2, beq_self_eq_true, Nat.reduceLT, Nat.reduceAdd] <;> omega)) | fail)) only [↓yS, yT, ↓reduceIte, Nat.reduceEqDiff, Nat.reduceAdd, Nat.reduceMul, reduceCtorEq, Int.reduceToNat, g15, f1, f2, f6, f7, f8, f28, f29, f30, RN, hsl.ia, e1]; refine yC (k _ _ ?_); clear k K) | ((first | refine zU ?_ | refine zV ?_ | refine zW ?_); intro A B C D a b c d; simp only [↓yG, Nat.reduceEqDiff, ↓reduceIte, g15, f1, f2, f6, f7, f8, f28, f29, f30, RN, hsl.ia, e1]; (first | refine zX (a ?_) | refine zY (b ?_) | refine zZ (fun hc => c ?_) (fun hc => d ?_)) <;> clear a b c d A B C D <;> try simp only [yL] at hc) | (refine yA ?_; intro A a; simp only [↓yG, Nat.reduceEqDiff, ↓reduceIte, g15, f1, f2, f6, f7, f8, f28, f29, f30, RN, hsl.ia, e1]; refine yB (a ?_); clear a A) | (refine yD ?_; simp only [gresults, ↓yG, Nat.reduceEqDiff, ↓reduceIte, Option.bind_some, gld_1, gld_n, g15, f1, f2, f6, f7, f8, f28, f29, f30, RN, hsl.ia, e1]; refine ⟨_, rfl, ?_⟩; simp only [gone]))
    try rw [← hH5]
    refine Gw_s fun K' hK' => G1_call (by simp only [gtarget, ↓GArg.ev, ↓evs, ↓Tr.get_set, Nat.reduceEqDiff, if_true, if_false, ↓reduceIte, Option.map_some, f1, f2, f6, f7, f8, f28, f29, f30]; rfl) (one_of (rlen_ok (s := strB x.t) (by rw [strB_size]; omega) _)) fun r6 H6 hq6 => hK' _ _ ?_
    obtain ⟨rfl, rfl⟩ := hq6
    rw [hlen]
    have hF0 : max (I - (a : Int)) 0 = fromB I a := rfl
    have hT0 : min (J - (a : Int)) ((cntR x : Nat) : Int) = toB J a x := rfl
    have hpa : partsB I J a x = if fromB I a < toB J a x then [⟨sliceB (strB x.t) (fromB I a) (toB J a x), x.s, if fromB I a = 0 ∧ toB J a x = (cntR x : Nat) then x.y else []⟩] else [] := rfl
    have hFb : 0 ≤ fromB I a ∧ fromB I a ≤ 4398046511104 := by unfold fromB; omega
    have hTb : -4398046511104 ≤ toB J a x ∧ toB J a x ≤ cntR x := by unfold toB; omega
    have hO5 := hO.later hS45
    have m5 : H6.mine (H.len + 1) = some ([.slice none 0 0], 0) := by rw [hS45.mine hlm]; exact m4
    have hn2 : ¬ (H.len + 1) ∈ idOf w := fun ha => by
      have := (hO5.ids ha).2.2
      rw [m5] at this
      simp at this
    have hw6 := hS45.wf
    have hlim6 := hw6.1
    by_cases hcut : fromB I a < toB J a x
    rotate_left
    · rw [if_neg hcut] at hpa
      repeat' (first | (exfalso; omega) | refine zA ?_ | refine zB ?_ | refine zC ?_ | refine zD ?_ | refine zE ?_ | refine zF ?_ | refine zG ?_ | refine zH ?_ | refine zI ?_ | refine zJ ?_ | refine zK rfl ?_ | refine zL ?_ | refine zM ?_ | refine zN ?_ | refine zO ?_ | refine zP rfl ?_ | refine zQ ?_ | ((first | refine zR ?_ | refine zS ?_ | refine zT ?_ | skip); intro K k; simp (disch := (first | (simp only [yD2, beq_self_eq_true, Nat.reduceLT, Nat.reduceAdd]; done) | ((fail_if_success (apply Bool.eq_iff_iff.2)); first | omega | (simp only [yD2, beq_self_eq_true, Nat.reduceLT, Nat.reduceAdd] <;> omega)) | fail)) only [↓yS, yT, ↓reduceIte, Nat.reduceEqDiff, Nat.reduceAdd, Nat.reduceMul, reduceCtorEq, Int.reduceToNat, g15, f1, f2, f6, f7, f8, f28, f29, f30, hF0, hT0]; refine yC (k _ _ ?_); clear k K) | ((first | refine zU ?_ | refine zV ?_ | refine zW ?_); intro A B C D a b c d; simp only [↓yG, Nat.reduceEqDiff, ↓reduceIte, g15, f1, f2, f6, f7, f8, f28, f29, f30, hF0, hT0]; (first | refine zX (a ?_) | refine zY (b ?_) | refine zZ (fun hc => c ?_) (fun hc => d ?_)) <;> clear a b c d A B C D <;> try simp only [yL] at hc) | (refine yA ?_; intro A a; simp only [↓yG, Nat.reduceEqDiff, ↓reduceIte, g15, f1, f2, f6, f7, f8, f28, f29, f30, hF0, hT0]; refine yB (a ?_); clear a A) | (refine yD ?_; simp only [gresults, ↓yG, Nat.reduceEqDiff, ↓reduceIte, Option.bind_some, gld_1, gld_n, g15, f1, f2, f6, f7, f8, f28, f29, f30, hF0, hT0]; refine ⟨_, rfl, ?_⟩; simp only [gone]))
      refine hJ _ _ ⟨l.length - (q + 1), by omega, q + 1, w, rfl, by omega, ?_⟩
      simp only [↓yG, Nat.reduceEqDiff, ↓reduceIte, Int.natCast_add, Int.cast_ofNat_Int, Int.natCast_zero, true_and, and_true, Option.some.injEq, Value.int.injEq, f1, f2, f6, f7, f28, f29]
      rw [hstep, hwst, hpa, List.append_nil]
      exact ⟨by omega, m5, hO5⟩
    · rw [if_pos hcut] at hpa
      repeat' (first | (exfalso; omega) | refine zA ?_ | refine zB ?_ | refine zC ?_ | refine zD ?_ | refine zE ?_ | refine zF ?_ | refine zG ?_ | refine zH ?_ | refine zI ?_ | refine zJ ?_ | refine zK rfl ?_ | refine zL ?_ | refine zM ?_ | refine zN ?_ | refine zO ?_ | refine zP rfl ?_ | refine zQ ?_ | ((first | refine zR ?_ | refine zS ?_ | refine zT ?_ | skip); intro K k; simp (disch := (first | (simp only [yD2, beq_self_eq_true, Nat.reduceLT, Nat.reduceAdd]; done) | ((fail_if_success (apply Bool.eq_iff_iff.2)); first | omega | (simp only [yD2, beq_self_eq_true, Nat.reduceLT, Nat.reduceAdd] <;> omega)) | fail)) only [↓yS, yT, ↓reduceIte, Nat.reduceEqDiff, Nat.reduceAdd, Nat.reduceMul, reduceCtorEq, Int.reduceToNat, g15, f1, f2, f6, f7, f8, f28, f29, f30, hF0, hT0, x0, x3]; refine yC (k _ _ ?_); clear k K) | ((first | refine zU ?_ | refine zV ?_ | refine zW ?_); intro A B C D a b c d; simp only [↓yG, Nat.reduceEqDiff, ↓reduceIte, g15, f1, f2, f6, f7, f8, f28, f29, f30, hF0, hT0, x0, x3]; (first | refine zX (a ?_) | refine zY (b ?_) | refine zZ (fun hc => c ?_) (fun hc => d ?_)) <;> clear a b c d A B C D <;> try simp only [yL] at hc) | (refine yA ?_; intro A a; simp only [↓yG, Nat.reduceEqDiff, ↓reduceIte, g15, f1, f2, f6, f7, f8, f28, f29, f30, hF0, hT0, x0, x3]; refine yB (a ?_); clear a A) | (refine yD ?_; simp only [gresults, ↓yG, Nat.reduceEqDiff, ↓reduceIte, Option.bind_some, gld_1, gld_n, g15, f1, f2, f6, f7, f8, f28, f29, f30, hF0, hT0, x0, x3]; refine ⟨_, rfl, ?_⟩; simp only [gone]))
      generalize fromB I a = F at *
      generalize toB J a x = T at *
      refine Gw_s fun K' hK' => G1_callM (by simp only [gtarget, ↓GArg.ev, ↓evs, ↓Tr.get_set, Nat.reduceEqDiff, if_true, if_false, ↓reduceIte, Option.map_some, f1, f2, f6, f7, f8, f28, f29, f30]; rfl) (one_of (rslice_ok (s := strB x.t) (by rw [strB_size]; omega) (i := F) (j := T) (by omega) (by omega) _)) fun r7 H7 hq7 => hK' _ _ ?_
      obtain ⟨rfl, rfl⟩ := hq7
      rw [updown]
      repeat' (first | (exfalso; omega) | refine zA ?_ | refine zB ?_ | refine zC ?_ | refine zD ?_ | refine zE ?_ | refine zF ?_ | refine zG ?_ | refine zH ?_ | refine zI ?_ | refine zJ ?_ | refine zK rfl ?_ | refine zL ?_ | refine zM ?_ | refine zN ?_ | refine zO ?_ | refine zP rfl ?_ | refine zQ ?_ | ((first | refine zR ?_ | refine zS ?_ | refine zT ?_ | skip); intro K k; simp (disch := (first | (simp only [yD2, beq_self_eq_true, Nat.reduceLT, Nat.reduceAdd]; done) | ((fail_if_success (apply Bool.eq_iff_iff.2)); first | omega | (simp only [yD2, beq_self_eq_true, Nat.reduceLT, Nat.reduceAdd] <;> omega)) | fail)) only [↓yS, yT, ↓reduceIte, Nat.reduceEqDiff, Nat.reduceAdd, Nat.reduceMul, reduceCtorEq, Int.reduceToNat, g15, f1, f2, f6, f7, f8, f28, f29, f30, x0, x3, fill_of, runV_eq]; refine yC (k _ _ ?_); clear k K) | ((first | refine zU ?_ | refine zV ?_ | refine zW ?_); intro A B C D a b c d; simp only [↓yG, Nat.reduceEqDiff, ↓reduceIte, g15, f1, f2, f6, f7, f8, f28, f29, f30, x0, x3, fill_of, runV_eq]; (first | refine zX (a ?_) | refine zY (b ?_) | refine zZ (fun hc => c ?_) (fun hc => d ?_)) <;> clear a b c d A B C D <;> try simp only [yL] at hc) | (refine yA ?_; intro A a; simp only [↓yG, Nat.reduceEqDiff, ↓reduceIte, g15, f1, f2, f6, f7, f8, f28, f29, f30, x0, x3, fill_of, runV_eq]; refine yB (a ?_); clear a A) | (refine yD ?_; simp only [gresults, ↓yG, Nat.reduceEqDiff, ↓reduceIte, Option.bind_some, gld_1, gld_n, g15, f1, f2, f6, f7, f8, f28, f29, f30, x0, x3, fill_of, runV_eq]; refine ⟨_, rfl, ?_⟩; simp only [gone]))
      generalize hsb : sliceB (strB x.t) F T = tx at *
      obtain ⟨H8, hH8⟩ : ∃ H8, H8 = (H6.add (some (.cells [.string ⟨#[]⟩, .int .u8 0, .bool false, .bool false, .string ⟨#[]⟩] 0 true))).put H6.len (.cells (runC ⟨tx, x.s, []⟩) 0 true) := ⟨_, rfl⟩
      have hS68 : Same H6 H8 := hH8 ▸ (Same.refl hw6).new _ _
      have hl8 : H8.len = H6.len + 1 := by rw [hH8, len_put, len_add]
      have b8 : H8.mine H6.len = some (runC ⟨tx, x.s, []⟩, 0) := by
        rw [hH8]; exact mine_put_same (by rw [lim_add]; exact hlim6)
      have x48 : H8.rd H4.len 4 = some (.string (strB x.y)) := by rw [hS68.rd (by omega)]; exact x4
      have x58 : H8.rdn H6.len 0 5 = some (runV ⟨tx, x.s, []⟩) := by rw [hH8, rdn_runp]
      have hO8 := hO5.later hS68
      have m8 : H8.mine (H.len + 1) = some ([.slice none 0 0], 0) := by rw [hS68.mine (mine_lt hw6 m5)]; exact m5
      by_cases hful : F = 0 ∧ T = (cntR x : Nat)
      · rw [if_pos hful] at hpa
        obtain ⟨hful1, hful2⟩ := hful
        have u1 : gst none H8 (.pointer (some ⟨H6.len, 4, none⟩)) (.string (strB x.y)) = some (H8.put H6.len (.cells (runC ⟨tx, x.s, x.y⟩) 0 true)) := by
          rw [gst_1, b8, Option.bind_some, gset_ok (by simp [runC]) flatV_str]; rfl
        have x59 : (H8.put H6.len (.cells (runC ⟨tx, x.s, x.y⟩) 0 true)).rdn H6.len 0 5 = some (runV ⟨tx, x.s, x.y⟩) := rdn_runp
        have hB9 : But (fun z => z = H6.len) H8 (H8.put H6.len (.cells (runC ⟨tx, x.s, x.y⟩) 0 true)) := (But.refl (S := fun z => z = H6.len) hS68.wf).put rfl (mine_lt hS68.wf b8) _
        have hO9 : OR H (H8.put H6.len (.cells (runC ⟨tx, x.s, x.y⟩) 0 true)) w out := hO8.but hB9 (fun z hz e => by have := hO5.same.len; omega) fun b hb e => by
          have := (hO8.ids hb).2.2
          rw [e, b8] at this
          simp at this
        have m9 : (H8.put H6.len (.cells (runC ⟨tx, x.s, x.y⟩) 0 true)).mine (H.len + 1) = some ([.slice none 0 0], 0) := by
          rw [mine_put_ne (by omega)]; exact m8
        have hle : (H8.put H6.len (.cells (runC ⟨tx, x.s, x.y⟩) 0 true)).len = H8.len := len_put
        repeat' (first | (exfalso; omega) | refine zA ?_ | refine zB ?_ | refine zC ?_ | refine zD ?_ | refine zE ?_ | refine zF ?_ | refine zG ?_ | refine zH ?_ | refine zI ?_ | refine zJ ?_ | refine zK rfl ?_ | refine zL ?_ | refine zM ?_ | refine zN ?_ | refine zO ?_ | refine zP rfl ?_ | refine zQ ?_ | ((first | refine zR ?_ | refine zS ?_ | refine zT ?_ | skip); intro K k; simp (disch := (first | (simp only [yD2, beq_self_eq_true, Nat.reduceLT, Nat.reduceAdd]; done) | ((fail_if_success (apply Bool.eq_iff_iff.2)); first | omega | (simp only [yD2, beq_self_eq_true, Nat.reduceLT, Nat.reduceAdd] <;> omega)) | fail)) only [↓yS, yT, ↓reduceIte, Nat.reduceEqDiff, Nat.reduceAdd, Nat.reduceMul, reduceCtorEq, Int.reduceToNat, g15, f1, f2, f6, f7, f8, f28, f29, f30, RN]; refine yC (k _ _ ?_); clear k K) | ((first | refine zU ?_ | refine zV ?_ | refine zW ?_); intro A B C D a b c d; simp only [↓yG, Nat.reduceEqDiff, ↓reduceIte, g15, f1, f2, f6, f7, f8, f28, f29, f30, RN]; (first | refine zX (a ?_) | refine zY (b ?_) | refine zZ (fun hc => c ?_) (fun hc => d ?_)) <;> clear a b c d A B C D <;> try simp only [yL] at hc) | (refine yA ?_; intro A a; simp only [↓yG, Nat.reduceEqDiff, ↓reduceIte, g15, f1, f2, f6, f7, f8, f28, f29, f30, RN]; refine yB (a ?_); clear a A) | (refine yD ?_; simp only [gresults, ↓yG, Nat.reduceEqDiff, ↓reduceIte, Option.bind_some, gld_1, gld_n, g15, f1, f2, f6, f7, f8, f28, f29, f30, RN]; refine ⟨_, rfl, ?_⟩; simp only [gone]))
        all_goals try rw [← hH8]
        repeat' (first | (exfalso; omega) | refine zA ?_ | refine zB ?_ | refine zC ?_ | refine zD ?_ | refine zE ?_ | refine zF ?_ | refine zG ?_ | refine zH ?_ | refine zI ?_ | refine zJ ?_ | refine zK rfl ?_ | refine zL ?_ | refine zM ?_ | refine zN ?_ | refine zO ?_ | refine zP rfl ?_ | refine zQ ?_ | ((first | refine zR ?_ | refine zS ?_ | refine zT ?_ | skip); intro K k; simp (disch := (first | (simp only [yD2, beq_self_eq_true, Nat.reduceLT, Nat.reduceAdd]; done) | ((fail_if_success (apply Bool.eq_iff_iff.2)); first | omega | (simp only [yD2, beq_self_eq_true, Nat.reduceLT, Nat.reduceAdd] <;> omega)) | fail)) only [↓yS, yT, ↓reduceIte, Nat.reduceEqDiff, Nat.reduceAdd, Nat.reduceMul, reduceCtorEq, Int.reduceToNat, g15, f1, f2, f6, f7, f8, f28, f29, f30, RN, x48, u1, x59]; refine yC (k _ _ ?_); clear k K) | ((first | refine zU ?_ | refine zV ?_ | refine zW ?_); intro A B C D a b c d; simp only [↓yG, Nat.reduceEqDiff, ↓reduceIte, g15, f1, f2, f6, f7, f8, f28, f29, f30, RN, x48, u1, x59]; (first | refine zX (a ?_) | refine zY (b ?_) | refine zZ (fun hc => c ?_) (fun hc => d ?_)) <;> clear a b c d A B C D <;> try simp only [yL] at hc) | (refine yA ?_; intro A a; simp only [↓yG, Nat.reduceEqDiff, ↓reduceIte, g15, f1, f2, f6, f7, f8, f28, f29, f30, RN, x48, u1, x59]; refine yB (a ?_); clear a A) | (refine yD ?_; simp only [gresults, ↓yG, Nat.reduceEqDiff, ↓reduceIte, Option.bind_some, gld_1, gld_n, g15, f1, f2, f6, f7, f8, f28, f29, f30, RN, x48, u1, x59]; refine ⟨_, rfl, ?_⟩; simp only [gone]))
        generalize H8.put H6.len (.cells (runC ⟨tx, x.s, x.y⟩) 0 true) = H9 at *
        rw [← hle]
        refine Gw_s fun K' hK' => ?_
        simp (disch := (first | (simp only [yD2, beq_self_eq_true, Nat.reduceLT, Nat.reduceAdd]; done) | ((fail_if_success (apply Bool.eq_iff_iff.2)); first | omega | (simp only [yD2, beq_self_eq_true, Nat.reduceLT, Nat.reduceAdd] <;> omega)) | fail)) only [↓yS, yT, ↓reduceIte, Nat.reduceEqDiff, Nat.reduceAdd, Nat.reduceMul, reduceCtorEq, Int.reduceToNat, f1, f2, f6, f7, f8, f28, f29, f30]
        obtain ⟨w', H12, e, hO12, hB12⟩ := OS.app1 hO9 (by decide) (by decide) (news := runC (⟨tx, x.s, x.y⟩ : SR)) rfl (b := 40) (by omega) (by omega)
        refine G1_eq e (hK' _ _ ?_)
        clear hK' K' e
        have hO12' : OR H H12 w' (out ++ [(⟨tx, x.s, x.y⟩ : SR)]) := by
          have e1 : RunsC (out ++ [(⟨tx, x.s, x.y⟩ : SR)]) = RunsC out ++ runC (⟨tx, x.s, x.y⟩ : SR) := by simp [RunsC]
          have e2 : (out ++ [(⟨tx, x.s, x.y⟩ : SR)]).length = out.length + 1 := by simp
          unfold OR
          rw [e1, e2]; exact hO12
        have m12 : H12.mine (H.len + 1) = some ([.slice none 0 0], 0) := by rw [hB12.mine (mine_lt hO9.same.wf m9) hn2]; exact m9
        repeat' (first | (exfalso; omega) | refine zA ?_ | refine zB ?_ | refine zC ?_ | refine zD ?_ | refine zE ?_ | refine zF ?_ | refine zG ?_ | refine zH ?_ | refine zI ?_ | refine zJ ?_ | refine zK rfl ?_ | refine zL ?_ | refine zM ?_ | refine zN ?_ | refine zO ?_ | refine zP rfl ?_ | refine zQ ?_ | ((first | refine zR ?_ | refine zS ?_ | refine zT ?_ | skip); intro K k; simp (disch := (first | (simp only [yD2, beq_self_eq_true, Nat.reduceLT, Nat.reduceAdd]; done) | ((fail_if_success (apply Bool.eq_iff_iff.2)); first | omega | (simp only [yD2, beq_self_eq_true, Nat.reduceLT, Nat.reduceAdd] <;> omega)) | fail)) only [↓yS, yT, ↓reduceIte, Nat.reduceEqDiff, Nat.reduceAdd, Nat.reduceMul, reduceCtorEq, Int.reduceToNat, g15, f1, f2, f6, f7, f8, f28, f29, f30]; refine yC (k _ _ ?_); clear k K) | ((first | refine zU ?_ | refine zV ?_ | refine zW ?_); intro A B C D a b c d; simp only [↓yG, Nat.reduceEqDiff, ↓reduceIte, g15, f1, f2, f6, f7, f8, f28, f29, f30]; (first | refine zX (a ?_) | refine zY (b ?_) | refine zZ (fun hc => c ?_) (fun hc => d ?_)) <;> clear a b c d A B C D <;> try simp only [yL] at hc) | (refine yA ?_; intro A a; simp only [↓yG, Nat.reduceEqDiff, ↓reduceIte, g15, f1, f2, f6, f7, f8, f28, f29, f30]; refine yB (a ?_); clear a A) | (refine yD ?_; simp only [gresults, ↓yG, Nat.reduceEqDiff, ↓reduceIte, Option.bind_some, gld_1, gld_n, g15, f1, f2, f6, f7, f8, f28, f29, f30]; refine ⟨_, rfl, ?_⟩; simp only [gone]))
        refine hJ _ _ ⟨l.length - (q + 1), by omega, q + 1, w', rfl, by omega, ?_⟩
        simp only [↓yG, Nat.reduceEqDiff, ↓reduceIte, Int.natCast_add, Int.cast_ofNat_Int, Int.natCast_zero, true_and, and_true, Option.some.injEq, Value.int.injEq, f1, f2, f6, f7, f28, f29]
        rw [hstep, hwst, hpa]
        exact ⟨by omega, m12, hO12'⟩
      · rw [if_neg hful] at hpa
        repeat' (first | (exfalso; omega) | refine zA ?_ | refine zB ?_ | refine zC ?_ | refine zD ?_ | refine zE ?_ | refine zF ?_ | refine zG ?_ | refine zH ?_ | refine zI ?_ | refine zJ ?_ | refine zK rfl ?_ | refine zL ?_ | refine zM ?_ | refine zN ?_ | refine zO ?_ | refine zP rfl ?_ | refine zQ ?_ | ((first | refine zR ?_ | refine zS ?_ | refine zT ?_ | skip); intro K k; simp (disch := (first | (simp only [yD2, beq_self_eq_true, Nat.reduceLT, Nat.reduceAdd]; done) | ((fail_if_success (apply Bool.eq_iff_iff.2)); first | omega | (simp only [yD2, beq_self_eq_true, Nat.reduceLT, Nat.reduceAdd] <;> omega)) | fail)) only [↓yS, yT, ↓reduceIte, Nat.reduceEqDiff, Nat.reduceAdd, Nat.reduceMul, reduceCtorEq, Int.reduceToNat, g15, f1, f2, f6, f7, f8, f28, f29, f30, RN]; refine yC (k _ _ ?_); clear k K) | ((first | refine zU ?_ | refine zV ?_ | refine zW ?_); intro A B C D a b c d; simp only [↓yG, Nat.reduceEqDiff, ↓reduceIte, g15, f1, f2, f6, f7, f8, f28, f29, f30, RN]; (first | refine zX (a ?_) | refine zY (b ?_) | refine zZ (fun hc => c ?_) (fun hc => d ?_)) <;> clear a b c d A B C D <;> try simp only [yL] at hc) | (refine yA ?_; intro A a; simp only [↓yG, Nat.reduceEqDiff, ↓reduceIte, g15, f1, f2, f6, f7, f8, f28, f29, f30, RN]; refine yB (a ?_); clear a A) | (refine yD ?_; simp only [gresults, ↓yG, Nat.reduceEqDiff, ↓reduceIte, Option.bind_some, gld_1, gld_n, g15, f1, f2, f6, f7, f8, f28, f29, f30, RN]; refine ⟨_, rfl, ?_⟩; simp only [gone]))
        all_goals
          rw [← hH8, ← hl8]
          refine Gw_s fun K' hK' => ?_
          simp (disch := (first | (simp only [yD2, beq_self_eq_true, Nat.reduceLT, Nat.reduceAdd]; done) | ((fail_if_success (apply Bool.eq_iff_iff.2)); first | omega | (simp only [yD2, beq_self_eq_true, Nat.reduceLT, Nat.reduceAdd] <;> omega)) | fail)) only [↓yS, yT, ↓reduceIte, Nat.reduceEqDiff, Nat.reduceAdd, Nat.reduceMul, reduceCtorEq, Int.reduceToNat, f1, f2, f6, f7, f8, f28, f29, f30]
          obtain ⟨w', H12, e, hO12, hB12⟩ := OS.app1 hO8 (by decide) (by decide) (news := runC (⟨tx, x.s, []⟩ : SR)) rfl (b := 40) (by omega) (by omega)
          refine G1_eq e (hK' _ _ ?_)
          clear hK' K' e
          have hO12' : OR H H12 w' (out ++ [(⟨tx, x.s, []⟩ : SR)]) := by
            have e1 : RunsC (out ++ [(⟨tx, x.s, []⟩ : SR)]) = RunsC out ++ runC (⟨tx, x.s, []⟩ : SR) := by simp [RunsC]
            have e2 : (out ++ [(⟨tx, x.s, []⟩ : SR)]).length = out.length + 1 := by simp
            unfold OR
            rw [e1, e2]; exact hO12
          have m12 : H12.mine (H.len + 1) = some ([.slice none 0 0], 0) := by rw [hB12.mine (mine_lt hO8.same.wf m8) hn2]; exact m8
          repeat' (first | (exfalso; omega) | refine zA ?_ | refine zB ?_ | refine zC ?_ | refine zD ?_ | refine zE ?_ | refine zF ?_ | refine zG ?_ | refine zH ?_ | refine zI ?_ | refine zJ ?_ | refine zK rfl ?_ | refine zL ?_ | refine zM ?_ | refine zN ?_ | refine zO ?_ | refine zP rfl ?_ | refine zQ ?_ | ((first | refine zR ?_ | refine zS ?_ | refine zT ?_ | skip); intro K k; simp (disch := (first | (simp only [yD2, beq_self_eq_true, Nat.reduceLT, Nat.reduceAdd]; done) | ((fail_if_success (apply Bool.eq_iff_iff.2)); first | omega | (simp only [yD2, beq_self_eq_true, Nat.reduceLT, Nat.reduceAdd] <;> omega)) | fail)) only [↓yS, yT, ↓reduceIte, Nat.reduceEqDiff, Nat.reduceAdd, Nat.reduceMul, reduceCtorEq, Int.reduceToNat, g15, f1, f2, f6, f7, f8, f28, f29, f30]; refine yC (k _ _ ?_); clear k K) | ((first | refine zU ?_ | refine zV ?_ | refine zW ?_); intro A B C D a b c d; simp only [↓yG, Nat.reduceEqDiff, ↓reduceIte, g15, f1, f2, f6, f7, f8, f28, f29, f30]; (first | refine zX (a ?_) | refine zY (b ?_) | refine zZ (fun hc => c ?_) (fun hc => d ?_)) <;> clear a b c d A B C D <;> try simp only [yL] at hc) | (refine yA ?_; intro A a; simp only [↓yG, Nat.reduceEqDiff, ↓reduceIte, g15, f1, f2, f6, f7, f8, f28, f29, f30]; refine yB (a ?_); clear a A) | (refine yD ?_; simp only [gresults, ↓yG, Nat.reduceEqDiff, ↓reduceIte, Option.bind_some, gld_1, gld_n, g15, f1, f2, f6, f7, f8, f28, f29, f30]; refine ⟨_, rfl, ?_⟩; simp only [gone]))
          refine hJ _ _ ⟨l.length - (q + 1), by omega, q + 1, w', rfl, by omega, ?_⟩
          simp only [↓yG, Nat.reduceEqDiff, ↓reduceIte, Int.natCast_add, Int.cast_ofNat_Int, Int.natCast_zero, true_and, and_true, Option.some.injEq, Value.int.injEq, f1, f2, f6, f7, f28, f29]
          rw [hstep, hwst, hpa]
          exact ⟨by omega, m12, hO12'⟩
  · obtain rfl : q = l.length := by omega
    rw [List.take_length] at hout
    have hb1 : fillL [.slice none 0 0] [(0, 1, w)] = some [w] := fillL_1 rfl hO.flat
    repeat' (first | (exfalso; omega) | refine zA ?_ | refine zB ?_ | refine zC ?_ | refine zD ?_ | refine zE ?_ | refine zF ?_ | refine zG ?_ | refine zH ?_ | refine zI ?_ | refine zJ ?_ | refine zK rfl ?_ | refine zL ?_ | refine zM ?_ | refine zN ?_ | refine zO ?_ | refine zP rfl ?_ | refine zQ ?_ | ((first | refine zR ?_ | refine zS ?_ | refine zT ?_ | skip); intro K k; simp (disch := (first | (simp only [yD2, beq_self_eq_true, Nat.reduceLT, Nat.reduceAdd]; done) | ((fail_if_success (apply Bool.eq_iff_iff.2)); first | omega | (simp only [yD2, beq_self_eq_true, Nat.reduceLT, Nat.reduceAdd] <;> omega)) | fail)) only [↓yS, yT, ↓reduceIte, Nat.reduceEqDiff, Nat.reduceAdd, Nat.reduceMul, reduceCtorEq, Int.reduceToNat, g15, f1, f2, f6, f7, f8, f28, f29, f30, hb1]; refine yC (k _ _ ?_); clear k K) | ((first | refine zU ?_ | refine zV ?_ | refine zW ?_); intro A B C D a b c d; simp only [↓yG, Nat.reduceEqDiff, ↓reduceIte, g15, f1, f2, f6, f7, f8, f28, f29, f30, hb1]; (first | refine zX (a ?_) | refine zY (b ?_) | refine zZ (fun hc => c ?_) (fun hc => d ?_)) <;> clear a b c d A B C D <;> try simp only [yL] at hc) | (refine yA ?_; intro A a; simp only [↓yG, Nat.reduceEqDiff, ↓reduceIte, g15, f1, f2, f6, f7, f8, f28, f29, f30, hb1]; refine yB (a ?_); clear a A) | (refine yD ?_; simp only [gresults, ↓yG, Nat.reduceEqDiff, ↓reduceIte, Option.bind_some, gld_1, gld_n, g15, f1, f2, f6, f7, f8, f28, f29, f30, hb1]; refine ⟨_, rfl, ?_⟩; simp only [gone]))
    refine Gw_s fun K' hK' => G1_call (by simp only [gtarget, ↓GArg.ev, ↓evs, ↓Tr.get_set, Nat.reduceEqDiff, if_true, if_false, ↓reduceIte, Option.map_some, f1, f2, f6, f7, f8, f28, f29, f30]; rfl) (rnorm_ok hw4 hO.rr (by omega) (by omega)) fun r9 H9 hq9 => hK' _ _ ?_
    obtain ⟨w9, rfl, hO9⟩ := hq9
    have m9 : H9.mine (H.len + 1) = some ([.slice none 0 0], 0) := by rw [hO9.same.mine hlm]; exact m4
    obtain ⟨g1, g2, g3⟩ := (hO9.weaken hS4).res m9 rfl (by omega)
    repeat' (first | (exfalso; omega) | refine zA ?_ | refine zB ?_ | refine zC ?_ | refine zD ?_ | refine zE ?_ | refine zF ?_ | refine zG ?_ | refine zH ?_ | refine zI ?_ | refine zJ ?_ | refine zK rfl ?_ | refine zL ?_ | refine zM ?_ | refine zN ?_ | refine zO ?_ | refine zP rfl ?_ | refine zQ ?_ | ((first | refine zR ?_ | refine zS ?_ | refine zT ?_ | skip); intro K k; simp (disch := (first | (simp only [yD2, beq_self_eq_true, Nat.reduceLT, Nat.reduceAdd]; done) | ((fail_if_success (apply Bool.eq_iff_iff.2)); first | omega | (simp only [yD2, beq_self_eq_true, Nat.reduceLT, Nat.reduceAdd] <;> omega)) | fail)) only [↓yS, yT, ↓reduceIte, Nat.reduceEqDiff, Nat.reduceAdd, Nat.reduceMul, reduceCtorEq, Int.reduceToNat, g15, f1, f2, f6, f7, f8, f28, f29, f30, g1, g3]; refine yC (k _ _ ?_); clear k K) | ((first | refine zU ?_ | refine zV ?_ | refine zW ?_); intro A B C D a b c d; simp only [↓yG, Nat.reduceEqDiff, ↓reduceIte, g15, f1, f2, f6, f7, f8, f28, f29, f30, g1, g3]; (first | refine zX (a ?_) | refine zY (b ?_) | refine zZ (fun hc => c ?_) (fun hc => d ?_)) <;> clear a b c d A B C D <;> try simp only [yL] at hc) | (refine yA ?_; intro A a; simp only [↓yG, Nat.reduceEqDiff, ↓reduceIte, g15, f1, f2, f6, f7, f8, f28, f29, f30, g1, g3]; refine yB (a ?_); clear a A) | (refine yD ?_; simp only [gresults, ↓yG, Nat.reduceEqDiff, ↓reduceIte, Option.bind_some, gld_1, gld_n, g15, f1, f2, f6, f7, f8, f28, f29, f30, g1, g3]; refine ⟨_, rfl, ?_⟩; simp only [gone]))
    exact hPost _ _ ⟨w9, rfl, by rw [hsf, hout]; exact g2⟩
end Go.Gh
