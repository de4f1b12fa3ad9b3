/-
  style and its reference, walked: Mark.
-/
import Derived.Test.YtgbibkkcnkaelaaDoorSyP4
namespace Go.Gh
set_option linter.unusedSimpArgs false
set_option linter.unusedVariables false
open Go.RowKit
set_option maxRecDepth 4000

def inS (s : Sy) (x : SR) : SR := ⟨x.t, s, x.y⟩
def mixS (s : Sy) (M : List SR) (j : Nat) : List SR := (M.take j).map (inS s) ++ M.drop j
theorem mixS_len (s : Sy) (M : List SR) (j : Nat) : (mixS s M j).length = M.length := by simp [mixS]; omega
theorem mixS_0 (s : Sy) (M : List SR) : mixS s M 0 = M := by simp [mixS]
theorem mixS_all (s : Sy) (M : List SR) : mixS s M M.length = M.map (inS s) := by simp [mixS]
theorem mixS_next {s : Sy} {M : List SR} {j : Nat} (h : j < M.length) : (mixS s M j)[j]! = M[j]! ∧ (mixS s M j).set j (inS s M[j]!) = mixS s M (j + 1) := by
  have hl : ((M.take j).map (inS s)).length = j := by simp; omega
  have e : M.drop j = M[j]! :: M.drop (j + 1) := drop_bangR h
  constructor
  · rw [getElem!_pos _ _ (by rw [mixS_len]; exact h)]
    simp only [mixS]
    rw [List.getElem_append_right (by omega)]
    simp only [hl, Nat.sub_self]
    rw [getElem!_pos M j h]
    simp
  · simp only [mixS]
    rw [List.set_append, if_neg (by omega), hl, Nat.sub_self, e, List.set_cons_zero, List.take_succ_eq_append_getElem h, List.map_append, ← getElem!_pos M j h]
    simp
theorem RunsC_setS : ∀ (l : List SR) (k : Nat) (s : Sy), k < l.length → (RunsC l).take (k * 5 + 1) ++ syC s ++ (RunsC l).drop (k * 5 + 1 + 3) = RunsC (l.set k (inS s l[k]!))
  | [], k, t, h => by simp at h
  | x :: l, 0, s, _ => by simp [RunsC, runC, syC, inS]
  | x :: l, k + 1, s, h => by
    have ih := RunsC_setS l k s (by simpa using h)
    have e2 : RunsC (x :: l) = runC x ++ RunsC l := by simp [RunsC]
    have e3 : RunsC ((x :: l).set (k + 1) (inS s (x :: l)[k + 1]!)) = runC x ++ RunsC (l.set k (inS s l[k]!)) := by simp [RunsC]
    have h1 : (k + 1) * 5 + 1 = (runC x).length + (k * 5 + 1) := by rw [runC_len]; omega
    have h2 : (k + 1) * 5 + 1 + 3 = (runC x).length + (k * 5 + 1 + 3) := by rw [runC_len]; omega
    rw [e2, e3, ← ih, h2, h1, List.take_append, List.drop_append, List.take_of_length_le (by omega), List.drop_of_length_le (by omega), Nat.add_sub_cancel_left, Nat.add_sub_cancel_left]
    simp
theorem OR.setS {H0 H : GHeap} {w : Value} {out : List SR} (h : OR H0 H w out) {k : Nat} (hk : k < out.length) (s : Sy) :
    ∃ H', gst (some 3) H (.pointer (some ⟨blk w, ofs w + k * 5 + 1, none⟩)) (syV s) = some H' ∧ OR H0 H' w (out.set k (inS s out[k]!)) ∧ But (fun z => z ∈ idOf w) H H' := by
  obtain ⟨g, gc, e, hg, hm⟩ : ∃ g gc, w = .slice (some ⟨g, 0, none⟩) out.length gc ∧ (gc = 0 ∨ gc = out.length + 1) ∧ H.mine g = some (RunsC out, 5) := by
    rcases h.own.at_ with ⟨_, e⟩ | h
    · omega
    · exact h
  have hblk : blk w = g := by rw [e]; rfl
  have hofs : ofs w = 0 := by rw [e]; rfl
  have hl := RunsC_len out
  have hset := RunsC_setS out k s hk
  obtain ⟨h1, h2⟩ := h.setc e (ys := RunsC (out.set k (inS s out[k]!))) (by rw [RunsC_len, RunsC_len]; simp)
  refine ⟨_, ?_, ?_, h2.mono fun z hz => by rw [hz, e]; simp [idOf]⟩
  · have hg3 : gsetn (RunsC out) (k * 5 + 1) 3 (syV s) = some (RunsC (out.set k (inS s out[k]!))) := by
      rw [← hset]
      exact gsetn_ok (vs := #[.int .u8 s.c, .bool s.i, .bool s.u]) (by omega) rfl (by simp [flatV])
    rw [hblk, hofs, Nat.zero_add, gst_n, hm, Option.bind_some, hg3]; rfl
  · have : (out.set k (inS s out[k]!)).length = out.length := by simp
    unfold OR
    rw [this]; exact h1
def markF (l : List SR) (i j : Int) (s : Sy) : List SR :=
  if lenF l < 0 then [] else
    normF (normF (sliceF l 0 (limI (lenF l) i) ++ (sliceF l (limI (lenF l) i) (limJ (lenF l) i j)).map (inS s)) ++ sliceF l (limJ (lenF l) i j) (lenF l))
theorem tot_inS (s : Sy) (l : List SR) : tot (l.map (inS s)) = tot l := by simp [tot, inS, Function.comp_def]
set_option maxHeartbeats 1000000 in
theorem mark_ok {H : GHeap} (hw : H.wf) {v : Value} {l : List SR} (hv : RR H v l) (hll : l.length ≤ 4194304) (ht : tot l ≤ 2199023255552) {i j : Int} (hi : -9223372036854775808 ≤ i ∧ i ≤ 9223372036854775807) (hj : -9223372036854775808 ≤ j ∧ j ≤ 9223372036854775807) {s : Sy} :
    ∃ r H', gev G 18 [rowV v, .int .i64 i, .int .i64 j, syV s] H = some (r, H') ∧ ∃ w, r = rowV w ∧ OR H H' w (markF l i j s) := by
  refine gev_GW (f := 18) rfl fun Post hPost => ?_
  have hlim := hw.1
  have hf := hv.flat
  have hlr := lenF_range l
  have hsA := sliceF_tot l 0 (limI (lenF l) i)
  have hsM := sliceF_tot l (limI (lenF l) i) (limJ (lenF l) i j)
  have hsB := sliceF_tot l (limJ (lenF l) i j) (lenF l)
  have h11 := tot_inS s (sliceF l (limI (lenF l) i) (limJ (lenF l) i j))
  have h12 := normF_tot (sliceF l 0 (limI (lenF l) i) ++ (sliceF l (limI (lenF l) i) (limJ (lenF l) i j)).map (inS s))
  simp only [tot_append, List.length_append, List.length_map] at h12
  simp only [frameOf, Nat.reduceAdd]
  have hS0 : Same H (((H.add (some (.cells [v] 0 true))).add (some (.cells (syC s) 0 true))).add (some (.cells [.slice none 0 0] 0 true))) := (((Same.refl hw).add _).add _).add _
  have kr : (((H.add (some (.cells [v] 0 true))).add (some (.cells (syC s) 0 true))).add (some (.cells [.slice none 0 0] 0 true))).rdn H.len 0 1 = some (rowV v) := by
    rw [rdn_add_ne (by rw [len_add, len_add]; omega), rdn_add_ne (by rw [len_add]; omega)]; exact rdn_add_all (n := 1) rfl rfl
  have ks : (((H.add (some (.cells [v] 0 true))).add (some (.cells (syC s) 0 true))).add (some (.cells [.slice none 0 0] 0 true))).rdn (H.len + 1) 0 3 = some (syV s) := by
    rw [rdn_add_ne (by rw [len_add, len_add]; omega)]; exact rdn_sy (by rw [len_add])
  have km : (((H.add (some (.cells [v] 0 true))).add (some (.cells (syC s) 0 true))).add (some (.cells [.slice none 0 0] 0 true))).mine (H.len + 1 + 1) = some ([.slice none 0 0], 0) := mine_add_eq (by rw [len_add, len_add]) (by rw [lim_add, lim_add]; omega)
  have hl0 : (((H.add (some (.cells [v] 0 true))).add (some (.cells (syC s) 0 true))).add (some (.cells [.slice none 0 0] 0 true))).len = H.len + 3 := by rw [len_add, len_add, len_add]
  repeat' (first | refine zA ?_ | refine zB ?_ | refine zC ?_ | refine zD ?_ | refine zE ?_ | refine zF ?_ | refine zG ?_ | refine zH ?_ | refine zI ?_ | refine zJ ?_ | refine zK rfl ?_ | refine zL ?_ | refine zM ?_ | refine zN ?_ | refine zO ?_ | refine zP rfl ?_ | refine zQ ?_ | ((first | refine zR ?_ | refine zS ?_ | refine zT ?_ | skip); intro K k; simp (disch := (first | (simp only [yD2, beq_self_eq_true, Nat.reduceLT, Nat.reduceAdd]; done) | ((fail_if_success (apply Bool.eq_iff_iff.2)); first | omega | (simp only [yD2, beq_self_eq_true, Nat.reduceLT, Nat.reduceAdd] <;> omega)) | fail)) only [↓yS, yT, ↓reduceIte, Nat.reduceEqDiff, Nat.reduceAdd, Nat.reduceMul, reduceCtorEq, Int.reduceToNat, g18, rowV_eq, agg_all, agg_list, hf, RN]; refine yC (k _ _ ?_); clear k K) | ((first | refine zU ?_ | refine zV ?_ | refine zW ?_); intro A B C D a b c d; simp only [↓yG, Nat.reduceEqDiff, ↓reduceIte, g18, rowV_eq, agg_all, agg_list, hf, RN]; (first | refine zX (a ?_) | refine zY (b ?_) | refine zZ (fun hc => c ?_) (fun hc => d ?_)) <;> clear a b c d A B C D <;> try simp only [yL] at hc) | (refine yA ?_; intro A a; simp only [↓yG, Nat.reduceEqDiff, ↓reduceIte, g18, rowV_eq, agg_all, agg_list, hf, RN]; refine yB (a ?_); clear a A) | (refine yD ?_; simp only [gresults, ↓yG, Nat.reduceEqDiff, ↓reduceIte, Option.bind_some, gld_1, gld_n, g18, rowV_eq, agg_all, agg_list, hf, RN]; refine ⟨_, rfl, ?_⟩; simp only [gone]))
  generalize ((H.add (some (.cells [v] 0 true))).add (some (.cells (syC s) 0 true))).add (some (.cells [.slice none 0 0] 0 true)) = Hb at *
  have hwb := hS0.wf
  have mr : ∀ {H'}, Same Hb H' → H'.rdn H.len 0 1 = some (rowV v) := fun hs => by rw [hs.rdn (by omega)]; exact kr
  have ms : ∀ {H'}, Same Hb H' → H'.rdn (H.len + 1) 0 3 = some (syV s) := fun hs => by rw [hs.rdn (by omega)]; exact ks
  have mm : ∀ {H'}, Same Hb H' → H'.mine (H.len + 1 + 1) = some ([.slice none 0 0], 0) := fun hs => by rw [hs.mine (by omega)]; exact km
  have mv : ∀ {H'}, Same Hb H' → RR H' v l := fun hs => hv.later hw (hS0.trans hs)
  have s0 := Same.refl hwb
  repeat' (first | refine zA ?_ | refine zB ?_ | refine zC ?_ | refine zD ?_ | refine zE ?_ | refine zF ?_ | refine zG ?_ | refine zH ?_ | refine zI ?_ | refine zJ ?_ | refine zK rfl ?_ | refine zL ?_ | refine zM ?_ | refine zN ?_ | refine zO ?_ | refine zP rfl ?_ | refine zQ ?_ | ((first | refine zR ?_ | refine zS ?_ | refine zT ?_ | skip); intro K k; simp (disch := (first | (simp only [yD2, beq_self_eq_true, Nat.reduceLT, Nat.reduceAdd]; done) | ((fail_if_success (apply Bool.eq_iff_iff.2)); first | omega | (simp only [yD2, beq_self_eq_true, Nat.reduceLT, Nat.reduceAdd] <;> omega)) | fail)) only [↓yS, yT, ↓reduceIte, Nat.reduceEqDiff, Nat.reduceAdd, Nat.reduceMul, reduceCtorEq, Int.reduceToNat, g18, mr s0]; refine yC (k _ _ ?_); clear k K) | ((first | refine zU ?_ | refine zV ?_ | refine zW ?_); intro A B C D a b c d; simp only [↓yG, Nat.reduceEqDiff, ↓reduceIte, g18, mr s0]; (first | refine zX (a ?_) | refine zY (b ?_) | refine zZ (fun hc => c ?_) (fun hc => d ?_)) <;> clear a b c d A B C D <;> try simp only [yL] at hc) | (refine yA ?_; intro A a; simp only [↓yG, Nat.reduceEqDiff, ↓reduceIte, g18, mr s0]; refine yB (a ?_); clear a A) | (refine yD ?_; simp only [gresults, ↓yG, Nat.reduceEqDiff, ↓reduceIte, Option.bind_some, gld_1, gld_n, g18, mr s0]; refine ⟨_, rfl, ?_⟩; simp only [gone]))
  refine Gw_s fun K' hK' => G1_call (by simp only [gtarget, ↓GArg.ev, ↓evs, ↓Tr.get_set, Nat.reduceEqDiff, if_true, if_false, ↓reduceIte, Option.map_some]; rfl) (Len_ok hwb (mv s0) (by omega) (by omega)) fun r1 H1 hq => hK' _ _ ?_
  obtain ⟨rfl, hS1⟩ := hq
  have s1 := s0.trans hS1
  by_cases hneg : lenF l < 0
  · have hO : OR H H1 (.slice none 0 0) [] := OS.nil (hS0.trans s1)
    obtain ⟨g1, g2, g3⟩ := hO.res (mm s1) rfl (by omega)
    rw [rowV_eq] at g1 g3
    repeat' (first | (exfalso; omega) | refine zA ?_ | refine zB ?_ | refine zC ?_ | refine zD ?_ | refine zE ?_ | refine zF ?_ | refine zG ?_ | refine zH ?_ | refine zI ?_ | refine zJ ?_ | refine zK rfl ?_ | refine zL ?_ | refine zM ?_ | refine zN ?_ | refine zO ?_ | refine zP rfl ?_ | refine zQ ?_ | ((first | refine zR ?_ | refine zS ?_ | refine zT ?_ | skip); intro K k; simp (disch := (first | (simp only [yD2, beq_self_eq_true, Nat.reduceLT, Nat.reduceAdd]; done) | ((fail_if_success (apply Bool.eq_iff_iff.2)); first | omega | (simp only [yD2, beq_self_eq_true, Nat.reduceLT, Nat.reduceAdd] <;> omega)) | fail)) only [↓yS, yT, ↓reduceIte, Nat.reduceEqDiff, Nat.reduceAdd, Nat.reduceMul, reduceCtorEq, Int.reduceToNat, g18, g1, g3]; refine yC (k _ _ ?_); clear k K) | ((first | refine zU ?_ | refine zV ?_ | refine zW ?_); intro A B C D a b c d; simp only [↓yG, Nat.reduceEqDiff, ↓reduceIte, g18, g1, g3]; (first | refine zX (a ?_) | refine zY (b ?_) | refine zZ (fun hc => c ?_) (fun hc => d ?_)) <;> clear a b c d A B C D <;> try simp only [yL] at hc) | (refine yA ?_; intro A a; simp only [↓yG, Nat.reduceEqDiff, ↓reduceIte, g18, g1, g3]; refine yB (a ?_); clear a A) | (refine yD ?_; simp only [gresults, ↓yG, Nat.reduceEqDiff, ↓reduceIte, Option.bind_some, gld_1, gld_n, g18, g1, g3]; refine ⟨_, rfl, ?_⟩; simp only [gone]))
    exact hPost _ _ ⟨_, rfl, by rw [markF, if_pos hneg]; exact g2⟩
  have hrf : markF l i j s = normF (normF (sliceF l 0 (limI (lenF l) i) ++ (sliceF l (limI (lenF l) i) (limJ (lenF l) i j)).map (inS s)) ++ sliceF l (limJ (lenF l) i j) (lenF l)) := by rw [markF, if_neg hneg]
  have hIb : 0 ≤ limI (lenF l) i ∧ limI (lenF l) i ≤ lenF l := by unfold limI; omega
  have hJb : 0 ≤ limJ (lenF l) i j ∧ limJ (lenF l) i j ≤ lenF l := by unfold limJ limI; omega
  have hI0 : min (max i 0) (lenF l) = limI (lenF l) i := rfl
  have hJ0 : min (max j (limI (lenF l) i)) (lenF l) = limJ (lenF l) i j := rfl
  repeat' (first | (exfalso; omega) | refine zA ?_ | refine zB ?_ | refine zC ?_ | refine zD ?_ | refine zE ?_ | refine zF ?_ | refine zG ?_ | refine zH ?_ | refine zI ?_ | refine zJ ?_ | refine zK rfl ?_ | refine zL ?_ | refine zM ?_ | refine zN ?_ | refine zO ?_ | refine zP rfl ?_ | refine zQ ?_ | ((first | refine zR ?_ | refine zS ?_ | refine zT ?_ | skip); intro K k; simp (disch := (first | (simp only [yD2, beq_self_eq_true, Nat.reduceLT, Nat.reduceAdd]; done) | ((fail_if_success (apply Bool.eq_iff_iff.2)); first | omega | (simp only [yD2, beq_self_eq_true, Nat.reduceLT, Nat.reduceAdd] <;> omega)) | fail)) only [↓yS, yT, ↓reduceIte, Nat.reduceEqDiff, Nat.reduceAdd, Nat.reduceMul, reduceCtorEq, Int.reduceToNat, g18]; refine yC (k _ _ ?_); clear k K) | ((first | refine zU ?_ | refine zV ?_ | refine zW ?_); intro A B C D a b c d; simp only [↓yG, Nat.reduceEqDiff, ↓reduceIte, g18]; (first | refine zX (a ?_) | refine zY (b ?_) | refine zZ (fun hc => c ?_) (fun hc => d ?_)) <;> clear a b c d A B C D <;> try simp only [yL] at hc) | (refine yA ?_; intro A a; simp only [↓yG, Nat.reduceEqDiff, ↓reduceIte, g18]; refine yB (a ?_); clear a A) | (refine yD ?_; simp only [gresults, ↓yG, Nat.reduceEqDiff, ↓reduceIte, Option.bind_some, gld_1, gld_n, g18]; refine ⟨_, rfl, ?_⟩; simp only [gone]))
  refine Gw_s fun K' hK' => G1_call (by simp only [gtarget, ↓GArg.ev, ↓evs, ↓Tr.get_set, Nat.reduceEqDiff, if_true, if_false, ↓reduceIte, Option.map_some]; rfl) (one_of (limit_ok (lenF l) i j _)) fun r3 H3 hq => hK' _ _ ?_
  obtain ⟨rfl, rfl⟩ := hq
  repeat' (first | (exfalso; omega) | refine zA ?_ | refine zB ?_ | refine zC ?_ | refine zD ?_ | refine zE ?_ | refine zF ?_ | refine zG ?_ | refine zH ?_ | refine zI ?_ | refine zJ ?_ | refine zK rfl ?_ | refine zL ?_ | refine zM ?_ | refine zN ?_ | refine zO ?_ | refine zP rfl ?_ | refine zQ ?_ | ((first | refine zR ?_ | refine zS ?_ | refine zT ?_ | skip); intro K k; simp (disch := (first | (simp only [yD2, beq_self_eq_true, Nat.reduceLT, Nat.reduceAdd]; done) | ((fail_if_success (apply Bool.eq_iff_iff.2)); first | omega | (simp only [yD2, beq_self_eq_true, Nat.reduceLT, Nat.reduceAdd] <;> omega)) | fail)) only [↓yS, yT, ↓reduceIte, Nat.reduceEqDiff, Nat.reduceAdd, Nat.reduceMul, reduceCtorEq, Int.reduceToNat, g18, mr s1, hI0, hJ0]; refine yC (k _ _ ?_); clear k K) | ((first | refine zU ?_ | refine zV ?_ | refine zW ?_); intro A B C D a b c d; simp only [↓yG, Nat.reduceEqDiff, ↓reduceIte, g18, mr s1, hI0, hJ0]; (first | refine zX (a ?_) | refine zY (b ?_) | refine zZ (fun hc => c ?_) (fun hc => d ?_)) <;> clear a b c d A B C D <;> try simp only [yL] at hc) | (refine yA ?_; intro A a; simp only [↓yG, Nat.reduceEqDiff, ↓reduceIte, g18, mr s1, hI0, hJ0]; refine yB (a ?_); clear a A) | (refine yD ?_; simp only [gresults, ↓yG, Nat.reduceEqDiff, ↓reduceIte, Option.bind_some, gld_1, gld_n, g18, mr s1, hI0, hJ0]; refine ⟨_, rfl, ?_⟩; simp only [gone]))
  generalize hI : limI (lenF l) i = I at *
  generalize hJ : limJ (lenF l) i j = J at *
  refine Gw_s fun K' hK' => G1_call (by simp only [gtarget, ↓GArg.ev, ↓evs, ↓Tr.get_set, Nat.reduceEqDiff, if_true, if_false, ↓reduceIte, Option.map_some]; rfl) (slice_ok' s1.wf (mv s1) (by omega) (by omega) (i := I) (j := J) (by omega) (by omega)) fun r4 H4 hq => hK' _ _ ?_
  obtain ⟨w, rfl, hO⟩ := hq
  have s4 := s1.trans hO.same
  have hlim4 := s4.wf.1
  generalize hM : sliceF l I J = M at *
  have hgs : gsetn [.slice none 0 0] 0 1 (rowV w) = some [w] := gsetn_all (vs := #[w]) rfl rfl (by simpa using hO.flat)
  have hsM' : IsSl w M.length := hO.rr.isSl
  have hS5 : Same H4 ((H4.add (some (.cells [.slice none 0 0] 0 true))).put H4.len (.cells [w] 0 true)) := (Same.refl s4.wf).new _ _
  have n5 : ((H4.add (some (.cells [.slice none 0 0] 0 true))).put H4.len (.cells [w] 0 true)).mine H4.len = some ([w], 0) := mine_put_same (by rw [lim_add]; exact hlim4)
  repeat' (first | (exfalso; omega) | refine zA ?_ | refine zB ?_ | refine zC ?_ | refine zD ?_ | refine zE ?_ | refine zF ?_ | refine zG ?_ | refine zH ?_ | refine zI ?_ | refine zJ ?_ | refine zK rfl ?_ | refine zL ?_ | refine zM ?_ | refine zN ?_ | refine zO ?_ | refine zP rfl ?_ | refine zQ ?_ | ((first | refine zR ?_ | refine zS ?_ | refine zT ?_ | skip); intro K k; simp (disch := (first | (simp only [yD2, beq_self_eq_true, Nat.reduceLT, Nat.reduceAdd]; done) | ((fail_if_success (apply Bool.eq_iff_iff.2)); first | omega | (simp only [yD2, beq_self_eq_true, Nat.reduceLT, Nat.reduceAdd] <;> omega)) | fail)) only [↓yS, yT, ↓reduceIte, Nat.reduceEqDiff, Nat.reduceAdd, Nat.reduceMul, reduceCtorEq, Int.reduceToNat, g18, hgs, hsM'.len]; refine yC (k _ _ ?_); clear k K) | ((first | refine zU ?_ | refine zV ?_ | refine zW ?_); intro A B C D a b c d; simp only [↓yG, Nat.reduceEqDiff, ↓reduceIte, g18, hgs, hsM'.len]; (first | refine zX (a ?_) | refine zY (b ?_) | refine zZ (fun hc => c ?_) (fun hc => d ?_)) <;> clear a b c d A B C D <;> try simp only [yL] at hc) | (refine yA ?_; intro A a; simp only [↓yG, Nat.reduceEqDiff, ↓reduceIte, g18, hgs, hsM'.len]; refine yB (a ?_); clear a A) | (refine yD ?_; simp only [gresults, ↓yG, Nat.reduceEqDiff, ↓reduceIte, Option.bind_some, gld_1, gld_n, g18, hgs, hsM'.len]; refine ⟨_, rfl, ?_⟩; simp only [gone]))
  have hO5 : OR Hb ((H4.add (some (.cells [.slice none 0 0] 0 true))).put H4.len (.cells [w] 0 true)) w M := (hO.weaken s1).later hS5
  generalize (H4.add (some (.cells [.slice none 0 0] 0 true))).put H4.len (.cells [w] 0 true) = H5 at *
  refine GW_loop (fun k fr Hk => ∃ (q : Nat), k = M.length - q ∧ q ≤ M.length ∧ fr.get 1 = some (.int .i64 I) ∧ fr.get 2 = some (.int .i64 J) ∧ fr.get 4 = some (.pointer (some ⟨H.len, 0, none⟩)) ∧ fr.get 7 = some (.pointer (some ⟨H.len + 1, 0, none⟩)) ∧ fr.get 8 = some (.pointer (some ⟨H.len + 1 + 1, 0, none⟩)) ∧ fr.get 9 = some (.int .i64 (lenF l)) ∧ fr.get 10 = some (.pointer (some ⟨H4.len, 0, none⟩)) ∧ fr.get 30 = some (.int .i64 M.length) ∧ fr.get 31 = some (.int .i64 q) ∧ OR Hb Hk w (mixS s M q) ∧ Hk.mine H4.len = some ([w], 0)) ?_ M.length ?_
  rotate_left
  · refine ⟨0, by omega, by omega, ?_⟩
    simp only [↓yG, Nat.reduceEqDiff, ↓reduceIte, Int.natCast_add, Int.cast_ofNat_Int, Int.natCast_zero, true_and, and_true, Option.some.injEq, Value.int.injEq]
    rw [mixS_0]
    exact ⟨hO5, n5⟩
  rintro k fr H6 ⟨q, rfl, hq, f1, f2, f4, f7, f8, f9, f10, f30, f31, hO6, n6⟩ J0 hJ0
  have s6 := hO6.same
  have r6 : H6.rd H4.len 0 = some w := mine_rd n6
  by_cases hq1 : q < M.length
  · obtain ⟨hx1, hx2⟩ := mixS_next (s := s) hq1
    obtain ⟨H7, e7, hO7, hB7⟩ := OR.setS hO6 (k := q) (by rw [mixS_len]; exact hq1) s
    rw [hx1, hx2] at hO7
    repeat' (first | (exfalso; omega) | refine zA ?_ | refine zB ?_ | refine zC ?_ | refine zD ?_ | refine zE ?_ | refine zF ?_ | refine zG ?_ | refine zH ?_ | refine zI ?_ | refine zJ ?_ | refine zK rfl ?_ | refine zL ?_ | refine zM ?_ | refine zN ?_ | refine zO ?_ | refine zP rfl ?_ | refine zQ ?_ | ((first | refine zR ?_ | refine zS ?_ | refine zT ?_ | skip); intro K k; simp (disch := (first | (simp only [yD2, beq_self_eq_true, Nat.reduceLT, Nat.reduceAdd]; done) | ((fail_if_success (apply Bool.eq_iff_iff.2)); first | omega | (simp only [yD2, beq_self_eq_true, Nat.reduceLT, Nat.reduceAdd] <;> omega)) | fail)) only [↓yS, yT, ↓reduceIte, Nat.reduceEqDiff, Nat.reduceAdd, Nat.reduceMul, reduceCtorEq, Int.reduceToNat, g18, f1, f2, f4, f7, f8, f9, f10, f30, f31, r6, ms s6, hsM'.ia, e7]; refine yC (k _ _ ?_); clear k K) | ((first | refine zU ?_ | refine zV ?_ | refine zW ?_); intro A B C D a b c d; simp only [↓yG, Nat.reduceEqDiff, ↓reduceIte, g18, f1, f2, f4, f7, f8, f9, f10, f30, f31, r6, ms s6, hsM'.ia, e7]; (first | refine zX (a ?_) | refine zY (b ?_) | refine zZ (fun hc => c ?_) (fun hc => d ?_)) <;> clear a b c d A B C D <;> try simp only [yL] at hc) | (refine yA ?_; intro A a; simp only [↓yG, Nat.reduceEqDiff, ↓reduceIte, g18, f1, f2, f4, f7, f8, f9, f10, f30, f31, r6, ms s6, hsM'.ia, e7]; refine yB (a ?_); clear a A) | (refine yD ?_; simp only [gresults, ↓yG, Nat.reduceEqDiff, ↓reduceIte, Option.bind_some, gld_1, gld_n, g18, f1, f2, f4, f7, f8, f9, f10, f30, f31, r6, ms s6, hsM'.ia, e7]; refine ⟨_, rfl, ?_⟩; simp only [gone]))
    refine hJ0 _ _ ⟨M.length - (q + 1), by omega, q + 1, rfl, by omega, ?_⟩
    simp only [↓yG, Nat.reduceEqDiff, ↓reduceIte, Int.natCast_add, Int.cast_ofNat_Int, Int.natCast_zero, true_and, and_true, Option.some.injEq, Value.int.injEq, f1, f2, f4, f7, f8, f9, f10, f30]
    refine ⟨hO7, ?_⟩
    rw [hB7.mine (mine_lt s6.wf n6) fun ha => by
      have := (hO6.ids ha).2.2
      rw [n6] at this
      simp at this]
    exact n6
  · obtain rfl : q = M.length := by omega
    rw [mixS_all] at hO6
    have hrw : H6.rdn H4.len 0 1 = some (rowV w) := by
      simp only [GHeap.rdn, mine_cs n6, Option.bind_some]; rfl
    have hl6 := mine_lt s6.wf n6
    repeat' (first | (exfalso; omega) | refine zA ?_ | refine zB ?_ | refine zC ?_ | refine zD ?_ | refine zE ?_ | refine zF ?_ | refine zG ?_ | refine zH ?_ | refine zI ?_ | refine zJ ?_ | refine zK rfl ?_ | refine zL ?_ | refine zM ?_ | refine zN ?_ | refine zO ?_ | refine zP rfl ?_ | refine zQ ?_ | ((first | refine zR ?_ | refine zS ?_ | refine zT ?_ | skip); intro K k; simp (disch := (first | (simp only [yD2, beq_self_eq_true, Nat.reduceLT, Nat.reduceAdd]; done) | ((fail_if_success (apply Bool.eq_iff_iff.2)); first | omega | (simp only [yD2, beq_self_eq_true, Nat.reduceLT, Nat.reduceAdd] <;> omega)) | fail)) only [↓yS, yT, ↓reduceIte, Nat.reduceEqDiff, Nat.reduceAdd, Nat.reduceMul, reduceCtorEq, Int.reduceToNat, g18, f1, f2, f4, f7, f8, f9, f10, f30, f31, mr s6]; refine yC (k _ _ ?_); clear k K) | ((first | refine zU ?_ | refine zV ?_ | refine zW ?_); intro A B C D a b c d; simp only [↓yG, Nat.reduceEqDiff, ↓reduceIte, g18, f1, f2, f4, f7, f8, f9, f10, f30, f31, mr s6]; (first | refine zX (a ?_) | refine zY (b ?_) | refine zZ (fun hc => c ?_) (fun hc => d ?_)) <;> clear a b c d A B C D <;> try simp only [yL] at hc) | (refine yA ?_; intro A a; simp only [↓yG, Nat.reduceEqDiff, ↓reduceIte, g18, f1, f2, f4, f7, f8, f9, f10, f30, f31, mr s6]; refine yB (a ?_); clear a A) | (refine yD ?_; simp only [gresults, ↓yG, Nat.reduceEqDiff, ↓reduceIte, Option.bind_some, gld_1, gld_n, g18, f1, f2, f4, f7, f8, f9, f10, f30, f31, mr s6]; refine ⟨_, rfl, ?_⟩; simp only [gone]))
    refine Gw_s fun K' hK' => G1_callM (by simp only [gtarget, ↓GArg.ev, ↓evs, ↓Tr.get_set, Nat.reduceEqDiff, if_true, if_false, ↓reduceIte, Option.map_some, f1, f2, f4, f7, f8, f9, f10, f30, f31]; rfl) (slice_ok' (wf_up s6.wf) (mv s6).up (by omega) (by omega) (i := 0) (j := I) (by omega) (by omega)) fun r10 K10 hq => hK' _ _ ?_
    obtain ⟨w1, rfl, hO⟩ := hq
    have o1 := OR.down s6.wf hO
    clear hO
    generalize K10.down H6.lim = K1 at o1 ⊢
    have s10 := s6.trans o1.same
    have kmid : K1.rdn H4.len 0 1 = some (rowV w) := by rw [o1.same.rdn hl6]; exact hrw
    repeat' (first | (exfalso; omega) | refine zA ?_ | refine zB ?_ | refine zC ?_ | refine zD ?_ | refine zE ?_ | refine zF ?_ | refine zG ?_ | refine zH ?_ | refine zI ?_ | refine zJ ?_ | refine zK rfl ?_ | refine zL ?_ | refine zM ?_ | refine zN ?_ | refine zO ?_ | refine zP rfl ?_ | refine zQ ?_ | ((first | refine zR ?_ | refine zS ?_ | refine zT ?_ | skip); intro K k; simp (disch := (first | (simp only [yD2, beq_self_eq_true, Nat.reduceLT, Nat.reduceAdd]; done) | ((fail_if_success (apply Bool.eq_iff_iff.2)); first | omega | (simp only [yD2, beq_self_eq_true, Nat.reduceLT, Nat.reduceAdd] <;> omega)) | fail)) only [↓yS, yT, ↓reduceIte, Nat.reduceEqDiff, Nat.reduceAdd, Nat.reduceMul, reduceCtorEq, Int.reduceToNat, g18, f1, f2, f4, f7, f8, f9, f10, f30, f31, kmid]; refine yC (k _ _ ?_); clear k K) | ((first | refine zU ?_ | refine zV ?_ | refine zW ?_); intro A B C D a b c d; simp only [↓yG, Nat.reduceEqDiff, ↓reduceIte, g18, f1, f2, f4, f7, f8, f9, f10, f30, f31, kmid]; (first | refine zX (a ?_) | refine zY (b ?_) | refine zZ (fun hc => c ?_) (fun hc => d ?_)) <;> clear a b c d A B C D <;> try simp only [yL] at hc) | (refine yA ?_; intro A a; simp only [↓yG, Nat.reduceEqDiff, ↓reduceIte, g18, f1, f2, f4, f7, f8, f9, f10, f30, f31, kmid]; refine yB (a ?_); clear a A) | (refine yD ?_; simp only [gresults, ↓yG, Nat.reduceEqDiff, ↓reduceIte, Option.bind_some, gld_1, gld_n, g18, f1, f2, f4, f7, f8, f9, f10, f30, f31, kmid]; refine ⟨_, rfl, ?_⟩; simp only [gone]))
    refine Gw_s fun K' hK' => G1_callM (by simp only [gtarget, ↓GArg.ev, ↓evs, ↓Tr.get_set, Nat.reduceEqDiff, if_true, if_false, ↓reduceIte, Option.map_some, f1, f2, f4, f7, f8, f9, f10, f30, f31]; rfl) (Concat_ok (wf_up s10.wf) (OR.rr o1).up (OR.rr (hO6.later o1.same)).up (by simp only [List.length_map]; omega) (by omega)) fun r12 K12 hq => hK' _ _ ?_
    obtain ⟨w3, rfl, hO⟩ := hq
    have o3 := OR.down s10.wf hO
    clear hO
    generalize K12.down K1.lim = K3 at o3 ⊢
    have s12 := s10.trans o3.same
    repeat' (first | (exfalso; omega) | refine zA ?_ | refine zB ?_ | refine zC ?_ | refine zD ?_ | refine zE ?_ | refine zF ?_ | refine zG ?_ | refine zH ?_ | refine zI ?_ | refine zJ ?_ | refine zK rfl ?_ | refine zL ?_ | refine zM ?_ | refine zN ?_ | refine zO ?_ | refine zP rfl ?_ | refine zQ ?_ | ((first | refine zR ?_ | refine zS ?_ | refine zT ?_ | skip); intro K k; simp (disch := (first | (simp only [yD2, beq_self_eq_true, Nat.reduceLT, Nat.reduceAdd]; done) | ((fail_if_success (apply Bool.eq_iff_iff.2)); first | omega | (simp only [yD2, beq_self_eq_true, Nat.reduceLT, Nat.reduceAdd] <;> omega)) | fail)) only [↓yS, yT, ↓reduceIte, Nat.reduceEqDiff, Nat.reduceAdd, Nat.reduceMul, reduceCtorEq, Int.reduceToNat, g18, f1, f2, f4, f7, f8, f9, f10, f30, f31, mr s12]; refine yC (k _ _ ?_); clear k K) | ((first | refine zU ?_ | refine zV ?_ | refine zW ?_); intro A B C D a b c d; simp only [↓yG, Nat.reduceEqDiff, ↓reduceIte, g18, f1, f2, f4, f7, f8, f9, f10, f30, f31, mr s12]; (first | refine zX (a ?_) | refine zY (b ?_) | refine zZ (fun hc => c ?_) (fun hc => d ?_)) <;> clear a b c d A B C D <;> try simp only [yL] at hc) | (refine yA ?_; intro A a; simp only [↓yG, Nat.reduceEqDiff, ↓reduceIte, g18, f1, f2, f4, f7, f8, f9, f10, f30, f31, mr s12]; refine yB (a ?_); clear a A) | (refine yD ?_; simp only [gresults, ↓yG, Nat.reduceEqDiff, ↓reduceIte, Option.bind_some, gld_1, gld_n, g18, f1, f2, f4, f7, f8, f9, f10, f30, f31, mr s12]; refine ⟨_, rfl, ?_⟩; simp only [gone]))
    refine Gw_s fun K' hK' => G1_callM (by simp only [gtarget, ↓GArg.ev, ↓evs, ↓Tr.get_set, Nat.reduceEqDiff, if_true, if_false, ↓reduceIte, Option.map_some, f1, f2, f4, f7, f8, f9, f10, f30, f31]; rfl) (slice_ok' (wf_up s12.wf) (mv s12).up (by omega) (by omega) (i := J) (j := lenF l) (by omega) (by omega)) fun r13 K13 hq => hK' _ _ ?_
    obtain ⟨w4, rfl, hO⟩ := hq
    have o4 := OR.down s12.wf hO
    clear hO
    generalize K13.down K3.lim = K4 at o4 ⊢
    have s13 := s12.trans o4.same
    repeat' (first | (exfalso; omega) | refine zA ?_ | refine zB ?_ | refine zC ?_ | refine zD ?_ | refine zE ?_ | refine zF ?_ | refine zG ?_ | refine zH ?_ | refine zI ?_ | refine zJ ?_ | refine zK rfl ?_ | refine zL ?_ | refine zM ?_ | refine zN ?_ | refine zO ?_ | refine zP rfl ?_ | refine zQ ?_ | ((first | refine zR ?_ | refine zS ?_ | refine zT ?_ | skip); intro K k; simp (disch := (first | (simp only [yD2, beq_self_eq_true, Nat.reduceLT, Nat.reduceAdd]; done) | ((fail_if_success (apply Bool.eq_iff_iff.2)); first | omega | (simp only [yD2, beq_self_eq_true, Nat.reduceLT, Nat.reduceAdd] <;> omega)) | fail)) only [↓yS, yT, ↓reduceIte, Nat.reduceEqDiff, Nat.reduceAdd, Nat.reduceMul, reduceCtorEq, Int.reduceToNat, g18, f1, f2, f4, f7, f8, f9, f10, f30, f31]; refine yC (k _ _ ?_); clear k K) | ((first | refine zU ?_ | refine zV ?_ | refine zW ?_); intro A B C D a b c d; simp only [↓yG, Nat.reduceEqDiff, ↓reduceIte, g18, f1, f2, f4, f7, f8, f9, f10, f30, f31]; (first | refine zX (a ?_) | refine zY (b ?_) | refine zZ (fun hc => c ?_) (fun hc => d ?_)) <;> clear a b c d A B C D <;> try simp only [yL] at hc) | (refine yA ?_; intro A a; simp only [↓yG, Nat.reduceEqDiff, ↓reduceIte, g18, f1, f2, f4, f7, f8, f9, f10, f30, f31]; refine yB (a ?_); clear a A) | (refine yD ?_; simp only [gresults, ↓yG, Nat.reduceEqDiff, ↓reduceIte, Option.bind_some, gld_1, gld_n, g18, f1, f2, f4, f7, f8, f9, f10, f30, f31]; refine ⟨_, rfl, ?_⟩; simp only [gone]))
    refine Gw_s fun K' hK' => G1_callM (by simp only [gtarget, ↓GArg.ev, ↓evs, ↓Tr.get_set, Nat.reduceEqDiff, if_true, if_false, ↓reduceIte, Option.map_some, f1, f2, f4, f7, f8, f9, f10, f30, f31]; rfl) (Concat_ok (wf_up s13.wf) (OR.rr (o3.later o4.same)).up (OR.rr o4).up (by omega) (by omega)) fun r14 K14 hq => hK' _ _ ?_
    obtain ⟨w5, rfl, hO⟩ := hq
    have o5 := OR.down s13.wf hO
    clear hO
    generalize K14.down K4.lim = K5 at o5 ⊢
    have s14 := s13.trans o5.same
    obtain ⟨g1, g2, g3⟩ := (OR.weaken o5 (hS0.trans s13)).res (mm s14) rfl (by omega)
    repeat' (first | (exfalso; omega) | refine zA ?_ | refine zB ?_ | refine zC ?_ | refine zD ?_ | refine zE ?_ | refine zF ?_ | refine zG ?_ | refine zH ?_ | refine zI ?_ | refine zJ ?_ | refine zK rfl ?_ | refine zL ?_ | refine zM ?_ | refine zN ?_ | refine zO ?_ | refine zP rfl ?_ | refine zQ ?_ | ((first | refine zR ?_ | refine zS ?_ | refine zT ?_ | skip); intro K k; simp (disch := (first | (simp only [yD2, beq_self_eq_true, Nat.reduceLT, Nat.reduceAdd]; done) | ((fail_if_success (apply Bool.eq_iff_iff.2)); first | omega | (simp only [yD2, beq_self_eq_true, Nat.reduceLT, Nat.reduceAdd] <;> omega)) | fail)) only [↓yS, yT, ↓reduceIte, Nat.reduceEqDiff, Nat.reduceAdd, Nat.reduceMul, reduceCtorEq, Int.reduceToNat, g18, f1, f2, f4, f7, f8, f9, f10, f30, f31, g1, g3]; refine yC (k _ _ ?_); clear k K) | ((first | refine zU ?_ | refine zV ?_ | refine zW ?_); intro A B C D a b c d; simp only [↓yG, Nat.reduceEqDiff, ↓reduceIte, g18, f1, f2, f4, f7, f8, f9, f10, f30, f31, g1, g3]; (first | refine zX (a ?_) | refine zY (b ?_) | refine zZ (fun hc => c ?_) (fun hc => d ?_)) <;> clear a b c d A B C D <;> try simp only [yL] at hc) | (refine yA ?_; intro A a; simp only [↓yG, Nat.reduceEqDiff, ↓reduceIte, g18, f1, f2, f4, f7, f8, f9, f10, f30, f31, g1, g3]; refine yB (a ?_); clear a A) | (refine yD ?_; simp only [gresults, ↓yG, Nat.reduceEqDiff, ↓reduceIte, Option.bind_some, gld_1, gld_n, g18, f1, f2, f4, f7, f8, f9, f10, f30, f31, g1, g3]; refine ⟨_, rfl, ?_⟩; simp only [gone]))
    exact hPost _ _ ⟨w5, rfl, by rw [hrf]; exact g2⟩
set_option maxHeartbeats 1000000 in
theorem rmark_ok {H : GHeap} (hw : H.wf) {v : Value} {l : List SR} (hv : RR H v l) (hll : l.length ≤ 4194304) (ht : tot l ≤ 2199023255552) {i j : Int} (hi : -9223372036854775808 ≤ i ∧ i ≤ 9223372036854775807) (hj : -9223372036854775808 ≤ j ∧ j ≤ 9223372036854775807) {s : Sy} :
    ∃ r H', gev G 19 [rowV v, .int .i64 i, .int .i64 j, syV s] H = some (r, H') ∧ ∃ w, r = rowV w ∧ OR H H' w (markF l i j s) := by
  refine gev_GW (f := 19) rfl fun Post hPost => ?_
  have hlim := hw.1
  have hf := hv.flat
  have hlr := lenF_range l
  have hsA := sliceF_tot l 0 (limI (lenF l) i)
  have hsM := sliceF_tot l (limI (lenF l) i) (limJ (lenF l) i j)
  have hsB := sliceF_tot l (limJ (lenF l) i j) (lenF l)
  have h11 := tot_inS s (sliceF l (limI (lenF l) i) (limJ (lenF l) i j))
  have h12 := normF_tot (sliceF l 0 (limI (lenF l) i) ++ (sliceF l (limI (lenF l) i) (limJ (lenF l) i j)).map (inS s))
  simp only [tot_append, List.length_append, List.length_map] at h12
  simp only [frameOf, Nat.reduceAdd]
  have hS0 : Same H (((H.add (some (.cells [v] 0 true))).add (some (.cells (syC s) 0 true))).add (some (.cells [.slice none 0 0] 0 true))) := (((Same.refl hw).add _).add _).add _
  have kr : (((H.add (some (.cells [v] 0 true))).add (some (.cells (syC s) 0 true))).add (some (.cells [.slice none 0 0] 0 true))).rdn H.len 0 1 = some (rowV v) := by
    rw [rdn_add_ne (by rw [len_add, len_add]; omega), rdn_add_ne (by rw [len_add]; omega)]; exact rdn_add_all (n := 1) rfl rfl
  have ks : (((H.add (some (.cells [v] 0 true))).add (some (.cells (syC s) 0 true))).add (some (.cells [.slice none 0 0] 0 true))).rdn (H.len + 1) 0 3 = some (syV s) := by
    rw [rdn_add_ne (by rw [len_add, len_add]; omega)]; exact rdn_sy (by rw [len_add])
  have km : (((H.add (some (.cells [v] 0 true))).add (some (.cells (syC s) 0 true))).add (some (.cells [.slice none 0 0] 0 true))).mine (H.len + 1 + 1) = some ([.slice none 0 0], 0) := mine_add_eq (by rw [len_add, len_add]) (by rw [lim_add, lim_add]; omega)
  have hl0 : (((H.add (some (.cells [v] 0 true))).add (some (.cells (syC s) 0 true))).add (some (.cells [.slice none 0 0] 0 true))).len = H.len + 3 := by rw [len_add, len_add, len_add]
  repeat' (first | refine zA ?_ | refine zB ?_ | refine zC ?_ | refine zD ?_ | refine zE ?_ | refine zF ?_ | refine zG ?_ | refine zH ?_ | refine zI ?_ | refine zJ ?_ | refine zK rfl ?_ | refine zL ?_ | refine zM ?_ | refine zN ?_ | refine zO ?_ | refine zP rfl ?_ | refine zQ ?_ | ((first | refine zR ?_ | refine zS ?_ | refine zT ?_ | skip); intro K k; simp (disch := (first | (simp only [yD2, beq_self_eq_true, Nat.reduceLT, Nat.reduceAdd]; done) | ((fail_if_success (apply Bool.eq_iff_iff.2)); first | omega | (simp only [yD2, beq_self_eq_true, Nat.reduceLT, Nat.reduceAdd] <;> omega)) | fail)) only [↓yS, yT, ↓reduceIte, Nat.reduceEqDiff, Nat.reduceAdd, Nat.reduceMul, reduceCtorEq, Int.reduceToNat, g19, rowV_eq, agg_all, agg_list, hf, RN]; refine yC (k _ _ ?_); clear k K) | ((first | refine zU ?_ | refine zV ?_ | refine zW ?_); intro A B C D a b c d; simp only [↓yG, Nat.reduceEqDiff, ↓reduceIte, g19, rowV_eq, agg_all, agg_list, hf, RN]; (first | refine zX (a ?_) | refine zY (b ?_) | refine zZ (fun hc => c ?_) (fun hc => d ?_)) <;> clear a b c d A B C D <;> try simp only [yL] at hc) | (refine yA ?_; intro A a; simp only [↓yG, Nat.reduceEqDiff, ↓reduceIte, g19, rowV_eq, agg_all, agg_list, hf, RN]; refine yB (a ?_); clear a A) | (refine yD ?_; simp only [gresults, ↓yG, Nat.reduceEqDiff, ↓reduceIte, Option.bind_some, gld_1, gld_n, g19, rowV_eq, agg_all, agg_list, hf, RN]; refine ⟨_, rfl, ?_⟩; simp only [gone]))
  generalize ((H.add (some (.cells [v] 0 true))).add (some (.cells (syC s) 0 true))).add (some (.cells [.slice none 0 0] 0 true)) = Hb at *
  have hwb := hS0.wf
  have mr : ∀ {H'}, Same Hb H' → H'.rdn H.len 0 1 = some (rowV v) := fun hs => by rw [hs.rdn (by omega)]; exact kr
  have ms : ∀ {H'}, Same Hb H' → H'.rdn (H.len + 1) 0 3 = some (syV s) := fun hs => by rw [hs.rdn (by omega)]; exact ks
  have mm : ∀ {H'}, Same Hb H' → H'.mine (H.len + 1 + 1) = some ([.slice none 0 0], 0) := fun hs => by rw [hs.mine (by omega)]; exact km
  have mv : ∀ {H'}, Same Hb H' → RR H' v l := fun hs => hv.later hw (hS0.trans hs)
  have s0 := Same.refl hwb
  repeat' (first | refine zA ?_ | refine zB ?_ | refine zC ?_ | refine zD ?_ | refine zE ?_ | refine zF ?_ | refine zG ?_ | refine zH ?_ | refine zI ?_ | refine zJ ?_ | refine zK rfl ?_ | refine zL ?_ | refine zM ?_ | refine zN ?_ | refine zO ?_ | refine zP rfl ?_ | refine zQ ?_ | ((first | refine zR ?_ | refine zS ?_ | refine zT ?_ | skip); intro K k; simp (disch := (first | (simp only [yD2, beq_self_eq_true, Nat.reduceLT, Nat.reduceAdd]; done) | ((fail_if_success (apply Bool.eq_iff_iff.2)); first | omega | (simp only [yD2, beq_self_eq_true, Nat.reduceLT, Nat.reduceAdd] <;> omega)) | fail)) only [↓yS, yT, ↓reduceIte, Nat.reduceEqDiff, Nat.reduceAdd, Nat.reduceMul, reduceCtorEq, Int.reduceToNat, g19, mr s0]; refine yC (k _ _ ?_); clear k K) | ((first | refine zU ?_ | refine zV ?_ | refine zW ?_); intro A B C D a b c d; simp only [↓yG, Nat.reduceEqDiff, ↓reduceIte, g19, mr s0]; (first | refine zX (a ?_) | refine zY (b ?_) | refine zZ (fun hc => c ?_) (fun hc => d ?_)) <;> clear a b c d A B C D <;> try simp only [yL] at hc) | (refine yA ?_; intro A a; simp only [↓yG, Nat.reduceEqDiff, ↓reduceIte, g19, mr s0]; refine yB (a ?_); clear a A) | (refine yD ?_; simp only [gresults, ↓yG, Nat.reduceEqDiff, ↓reduceIte, Option.bind_some, gld_1, gld_n, g19, mr s0]; refine ⟨_, rfl, ?_⟩; simp only [gone]))
  refine Gw_s fun K' hK' => G1_call (by simp only [gtarget, ↓GArg.ev, ↓evs, ↓Tr.get_set, Nat.reduceEqDiff, if_true, if_false, ↓reduceIte, Option.map_some]; rfl) (rLen_ok hwb (mv s0) (by omega) (by omega)) fun r1 H1 hq => hK' _ _ ?_
  obtain ⟨rfl, hS1⟩ := hq
  have s1 := s0.trans hS1
  by_cases hneg : lenF l < 0
  · have hO : OR H H1 (.slice none 0 0) [] := OS.nil (hS0.trans s1)
    obtain ⟨g1, g2, g3⟩ := hO.res (mm s1) rfl (by omega)
    rw [rowV_eq] at g1 g3
    repeat' (first | (exfalso; omega) | refine zA ?_ | refine zB ?_ | refine zC ?_ | refine zD ?_ | refine zE ?_ | refine zF ?_ | refine zG ?_ | refine zH ?_ | refine zI ?_ | refine zJ ?_ | refine zK rfl ?_ | refine zL ?_ | refine zM ?_ | refine zN ?_ | refine zO ?_ | refine zP rfl ?_ | refine zQ ?_ | ((first | refine zR ?_ | refine zS ?_ | refine zT ?_ | skip); intro K k; simp (disch := (first | (simp only [yD2, beq_self_eq_true, Nat.reduceLT, Nat.reduceAdd]; done) | ((fail_if_success (apply Bool.eq_iff_iff.2)); first | omega | (simp only [yD2, beq_self_eq_true, Nat.reduceLT, Nat.reduceAdd] <;> omega)) | fail)) only [↓yS, yT, ↓reduceIte, Nat.reduceEqDiff, Nat.reduceAdd, Nat.reduceMul, reduceCtorEq, Int.reduceToNat, g19, g1, g3]; refine yC (k _ _ ?_); clear k K) | ((first | refine zU ?_ | refine zV ?_ | refine zW ?_); intro A B C D a b c d; simp only [↓yG, Nat.reduceEqDiff, ↓reduceIte, g19, g1, g3]; (first | refine zX (a ?_) | refine zY (b ?_) | refine zZ (fun hc => c ?_) (fun hc => d ?_)) <;> clear a b c d A B C D <;> try simp only [yL] at hc) | (refine yA ?_; intro A a; simp only [↓yG, Nat.reduceEqDiff, ↓reduceIte, g19, g1, g3]; refine yB (a ?_); clear a A) | (refine yD ?_; simp only [gresults, ↓yG, Nat.reduceEqDiff, ↓reduceIte, Option.bind_some, gld_1, gld_n, g19, g1, g3]; refine ⟨_, rfl, ?_⟩; simp only [gone]))
    exact hPost _ _ ⟨_, rfl, by rw [markF, if_pos hneg]; exact g2⟩
  have hrf : markF l i j s = normF (normF (sliceF l 0 (limI (lenF l) i) ++ (sliceF l (limI (lenF l) i) (limJ (lenF l) i j)).map (inS s)) ++ sliceF l (limJ (lenF l) i j) (lenF l)) := by rw [markF, if_neg hneg]
  have hIb : 0 ≤ limI (lenF l) i ∧ limI (lenF l) i ≤ lenF l := by unfold limI; omega
  have hJb : 0 ≤ limJ (lenF l) i j ∧ limJ (lenF l) i j ≤ lenF l := by unfold limJ limI; omega
  have hI0 : min (max i 0) (lenF l) = limI (lenF l) i := rfl
  have hJ0 : min (max j (limI (lenF l) i)) (lenF l) = limJ (lenF l) i j := rfl
  repeat' (first | (exfalso; omega) | refine zA ?_ | refine zB ?_ | refine zC ?_ | refine zD ?_ | refine zE ?_ | refine zF ?_ | refine zG ?_ | refine zH ?_ | refine zI ?_ | refine zJ ?_ | refine zK rfl ?_ | refine zL ?_ | refine zM ?_ | refine zN ?_ | refine zO ?_ | refine zP rfl ?_ | refine zQ ?_ | ((first | refine zR ?_ | refine zS ?_ | refine zT ?_ | skip); intro K k; simp (disch := (first | (simp only [yD2, beq_self_eq_true, Nat.reduceLT, Nat.reduceAdd]; done) | ((fail_if_success (apply Bool.eq_iff_iff.2)); first | omega | (simp only [yD2, beq_self_eq_true, Nat.reduceLT, Nat.reduceAdd] <;> omega)) | fail)) only [↓yS, yT, ↓reduceIte, Nat.reduceEqDiff, Nat.reduceAdd, Nat.reduceMul, reduceCtorEq, Int.reduceToNat, g19, mr s1, hI0, hJ0]; refine yC (k _ _ ?_); clear k K) | ((first | refine zU ?_ | refine zV ?_ | refine zW ?_); intro A B C D a b c d; simp only [↓yG, Nat.reduceEqDiff, ↓reduceIte, g19, mr s1, hI0, hJ0]; (first | refine zX (a ?_) | refine zY (b ?_) | refine zZ (fun hc => c ?_) (fun hc => d ?_)) <;> clear a b c d A B C D <;> try simp only [yL] at hc) | (refine yA ?_; intro A a; simp only [↓yG, Nat.reduceEqDiff, ↓reduceIte, g19, mr s1, hI0, hJ0]; refine yB (a ?_); clear a A) | (refine yD ?_; simp only [gresults, ↓yG, Nat.reduceEqDiff, ↓reduceIte, Option.bind_some, gld_1, gld_n, g19, mr s1, hI0, hJ0]; refine ⟨_, rfl, ?_⟩; simp only [gone]))
  generalize hI : limI (lenF l) i = I at *
  generalize hJ : limJ (lenF l) i j = J at *
  refine Gw_s fun K' hK' => G1_call (by simp only [gtarget, ↓GArg.ev, ↓evs, ↓Tr.get_set, Nat.reduceEqDiff, if_true, if_false, ↓reduceIte, Option.map_some]; rfl) (rslice_ok' s1.wf (mv s1) (by omega) (by omega) (i := I) (j := J) (by omega) (by omega)) fun r4 H4 hq => hK' _ _ ?_
  obtain ⟨w, rfl, hO⟩ := hq
  have s4 := s1.trans hO.same
  have hlim4 := s4.wf.1
  generalize hM : sliceF l I J = M at *
  have hsM' : IsSl w M.length := hO.rr.isSl
  have hgp : gpart none 0 (rowV w) = some w := rfl
  repeat' (first | (exfalso; omega) | refine zA ?_ | refine zB ?_ | refine zC ?_ | refine zD ?_ | refine zE ?_ | refine zF ?_ | refine zG ?_ | refine zH ?_ | refine zI ?_ | refine zJ ?_ | refine zK rfl ?_ | refine zL ?_ | refine zM ?_ | refine zN ?_ | refine zO ?_ | refine zP rfl ?_ | refine zQ ?_ | ((first | refine zR ?_ | refine zS ?_ | refine zT ?_ | skip); intro K k; simp (disch := (first | (simp only [yD2, beq_self_eq_true, Nat.reduceLT, Nat.reduceAdd]; done) | ((fail_if_success (apply Bool.eq_iff_iff.2)); first | omega | (simp only [yD2, beq_self_eq_true, Nat.reduceLT, Nat.reduceAdd] <;> omega)) | fail)) only [↓yS, yT, ↓reduceIte, Nat.reduceEqDiff, Nat.reduceAdd, Nat.reduceMul, reduceCtorEq, Int.reduceToNat, g19, hgp, hsM'.len]; refine yC (k _ _ ?_); clear k K) | ((first | refine zU ?_ | refine zV ?_ | refine zW ?_); intro A B C D a b c d; simp only [↓yG, Nat.reduceEqDiff, ↓reduceIte, g19, hgp, hsM'.len]; (first | refine zX (a ?_) | refine zY (b ?_) | refine zZ (fun hc => c ?_) (fun hc => d ?_)) <;> clear a b c d A B C D <;> try simp only [yL] at hc) | (refine yA ?_; intro A a; simp only [↓yG, Nat.reduceEqDiff, ↓reduceIte, g19, hgp, hsM'.len]; refine yB (a ?_); clear a A) | (refine yD ?_; simp only [gresults, ↓yG, Nat.reduceEqDiff, ↓reduceIte, Option.bind_some, gld_1, gld_n, g19, hgp, hsM'.len]; refine ⟨_, rfl, ?_⟩; simp only [gone]))
  refine GW_loop (fun k fr Hk => ∃ (q : Nat) (m : Value), k = M.length - q ∧ q ≤ M.length ∧ fr.get 1 = some (.int .i64 I) ∧ fr.get 2 = some (.int .i64 J) ∧ fr.get 4 = some (.pointer (some ⟨H.len, 0, none⟩)) ∧ fr.get 7 = some (.pointer (some ⟨H.len + 1, 0, none⟩)) ∧ fr.get 8 = some (.pointer (some ⟨H.len + 1 + 1, 0, none⟩)) ∧ fr.get 9 = some (.int .i64 (lenF l)) ∧ fr.get 10 = some (m) ∧ fr.get 31 = some (w) ∧ fr.get 32 = some (.int .i64 M.length) ∧ fr.get 33 = some (.int .i64 q) ∧ OR H4 Hk m ((M.take q).map (inS s))) ?_ M.length ?_
  rotate_left
  · refine ⟨0, .slice none 0 0, by omega, by omega, ?_⟩
    simp only [↓yG, Nat.reduceEqDiff, ↓reduceIte, Int.natCast_add, Int.cast_ofNat_Int, Int.natCast_zero, true_and, and_true, Option.some.injEq, Value.int.injEq]
    exact OS.nil (Same.refl s4.wf)
  rintro k fr H6 ⟨q, m, rfl, hq, f1, f2, f4, f7, f8, f9, f10, f31, f32, f33, hO6⟩ J0 hJ0
  have s6 := s4.trans hO6.same
  have hw6 := s6.wf
  have hlim6 := hw6.1
  by_cases hq1 : q < M.length
  · have e1 := (hO.rr.later s4.wf hO6.same).rowN hq1
    have hstep : (M.take (q + 1)).map (inS s) = (M.take q).map (inS s) ++ [inS s M[q]!] := by
      rw [List.take_succ_eq_append_getElem hq1, List.map_append, ← getElem!_pos M q hq1]; rfl
    generalize hx : M[q]! = x at *
    obtain ⟨H7, hH7⟩ : ∃ H7, H7 = (H6.add (some (.cells [.string ⟨#[]⟩, .int .u8 0, .bool false, .bool false, .string ⟨#[]⟩] 0 true))).put H6.len (.cells (runC x) 0 true) := ⟨_, rfl⟩
    have hS67 : Same H6 H7 := hH7 ▸ (Same.refl hw6).new _ _
    have b7 : H7.mine H6.len = some (runC x, 0) := by
      rw [hH7]; exact mine_put_same (by rw [lim_add]; exact hlim6)
    have u1 : gst (some 3) H7 (.pointer (some ⟨H6.len, 1, none⟩)) (syV s) = some (H7.put H6.len (.cells (runC (inS s x)) 0 true)) := by
      have hg3 : gsetn (runC x) 1 3 (syV s) = some (runC (inS s x)) := gsetn_ok (vs := #[.int .u8 s.c, .bool s.i, .bool s.u]) (by rw [runC_len]; decide) rfl (by simp [flatV])
      rw [gst_n, b7, Option.bind_some, hg3]; rfl
    have x5 : (H7.put H6.len (.cells (runC (inS s x)) 0 true)).rdn H6.len 0 5 = some (runV (inS s x)) := rdn_runp
    have hB9 : But (fun z => z = H6.len) H7 (H7.put H6.len (.cells (runC (inS s x)) 0 true)) := (But.refl (S := fun z => z = H6.len) hS67.wf).put rfl (mine_lt hS67.wf b7) _
    have hO7 := hO6.later hS67
    have hO9 : OR H4 (H7.put H6.len (.cells (runC (inS s x)) 0 true)) m ((M.take q).map (inS s)) := hO7.but hB9 (fun z hz e => by have := hO6.same.len; omega) fun b hb e => by
      have := (hO7.ids hb).2.2
      rw [e, b7] at this
      simp at this
    have hle : (H7.put H6.len (.cells (runC (inS s x)) 0 true)).len = H7.len := len_put
    repeat' (first | (exfalso; omega) | refine zA ?_ | refine zB ?_ | refine zC ?_ | refine zD ?_ | refine zE ?_ | refine zF ?_ | refine zG ?_ | refine zH ?_ | refine zI ?_ | refine zJ ?_ | refine zK rfl ?_ | refine zL ?_ | refine zM ?_ | refine zN ?_ | refine zO ?_ | refine zP rfl ?_ | refine zQ ?_ | ((first | refine zR ?_ | refine zS ?_ | refine zT ?_ | skip); intro K k; simp (disch := (first | (simp only [yD2, beq_self_eq_true, Nat.reduceLT, Nat.reduceAdd]; done) | ((fail_if_success (apply Bool.eq_iff_iff.2)); first | omega | (simp only [yD2, beq_self_eq_true, Nat.reduceLT, Nat.reduceAdd] <;> omega)) | fail)) only [↓yS, yT, ↓reduceIte, Nat.reduceEqDiff, Nat.reduceAdd, Nat.reduceMul, reduceCtorEq, Int.reduceToNat, g19, f1, f2, f4, f7, f8, f9, f10, f31, f32, f33, RN, hsM'.ia, e1]; refine yC (k _ _ ?_); clear k K) | ((first | refine zU ?_ | refine zV ?_ | refine zW ?_); intro A B C D a b c d; simp only [↓yG, Nat.reduceEqDiff, ↓reduceIte, g19, f1, f2, f4, f7, f8, f9, f10, f31, f32, f33, RN, hsM'.ia, e1]; (first | refine zX (a ?_) | refine zY (b ?_) | refine zZ (fun hc => c ?_) (fun hc => d ?_)) <;> clear a b c d A B C D <;> try simp only [yL] at hc) | (refine yA ?_; intro A a; simp only [↓yG, Nat.reduceEqDiff, ↓reduceIte, g19, f1, f2, f4, f7, f8, f9, f10, f31, f32, f33, RN, hsM'.ia, e1]; refine yB (a ?_); clear a A) | (refine yD ?_; simp only [gresults, ↓yG, Nat.reduceEqDiff, ↓reduceIte, Option.bind_some, gld_1, gld_n, g19, f1, f2, f4, f7, f8, f9, f10, f31, f32, f33, RN, hsM'.ia, e1]; refine ⟨_, rfl, ?_⟩; simp only [gone]))
    all_goals try rw [← hH7]
    repeat' (first | (exfalso; omega) | refine zA ?_ | refine zB ?_ | refine zC ?_ | refine zD ?_ | refine zE ?_ | refine zF ?_ | refine zG ?_ | refine zH ?_ | refine zI ?_ | refine zJ ?_ | refine zK rfl ?_ | refine zL ?_ | refine zM ?_ | refine zN ?_ | refine zO ?_ | refine zP rfl ?_ | refine zQ ?_ | ((first | refine zR ?_ | refine zS ?_ | refine zT ?_ | skip); intro K k; simp (disch := (first | (simp only [yD2, beq_self_eq_true, Nat.reduceLT, Nat.reduceAdd]; done) | ((fail_if_success (apply Bool.eq_iff_iff.2)); first | omega | (simp only [yD2, beq_self_eq_true, Nat.reduceLT, Nat.reduceAdd] <;> omega)) | fail)) only [↓yS, yT, ↓reduceIte, Nat.reduceEqDiff, Nat.reduceAdd, Nat.reduceMul, reduceCtorEq, Int.reduceToNat, g19, f1, f2, f4, f7, f8, f9, f10, f31, f32, f33, RN, ms (s6.trans hS67), u1, x5]; refine yC (k _ _ ?_); clear k K) | ((first | refine zU ?_ | refine zV ?_ | refine zW ?_); intro A B C D a b c d; simp only [↓yG, Nat.reduceEqDiff, ↓reduceIte, g19, f1, f2, f4, f7, f8, f9, f10, f31, f32, f33, RN, ms (s6.trans hS67), u1, x5]; (first | refine zX (a ?_) | refine zY (b ?_) | refine zZ (fun hc => c ?_) (fun hc => d ?_)) <;> clear a b c d A B C D <;> try simp only [yL] at hc) | (refine yA ?_; intro A a; simp only [↓yG, Nat.reduceEqDiff, ↓reduceIte, g19, f1, f2, f4, f7, f8, f9, f10, f31, f32, f33, RN, ms (s6.trans hS67), u1, x5]; refine yB (a ?_); clear a A) | (refine yD ?_; simp only [gresults, ↓yG, Nat.reduceEqDiff, ↓reduceIte, Option.bind_some, gld_1, gld_n, g19, f1, f2, f4, f7, f8, f9, f10, f31, f32, f33, RN, ms (s6.trans hS67), u1, x5]; refine ⟨_, rfl, ?_⟩; simp only [gone]))
    generalize H7.put H6.len (.cells (runC (inS s x)) 0 true) = H9 at *
    rw [← hle]
    have hml : ((M.take q).map (inS s)).length = q := by simp; omega
    refine Gw_s fun K' hK' => ?_
    simp (disch := (first | (simp only [yD2, beq_self_eq_true, Nat.reduceLT, Nat.reduceAdd]; done) | ((fail_if_success (apply Bool.eq_iff_iff.2)); first | omega | (simp only [yD2, beq_self_eq_true, Nat.reduceLT, Nat.reduceAdd] <;> omega)) | fail)) only [↓yS, yT, ↓reduceIte, Nat.reduceEqDiff, Nat.reduceAdd, Nat.reduceMul, reduceCtorEq, Int.reduceToNat, f1, f2, f4, f7, f8, f9, f10, f31, f32, f33]
    obtain ⟨m', H12, e, hO12, hB12⟩ := OS.app1 hO9 (by decide) (by decide) (news := runC (inS s x)) rfl (b := 40) (by omega) (by omega)
    refine G1_eq e (hK' _ _ ?_)
    clear hK' K' e
    repeat' (first | (exfalso; omega) | refine zA ?_ | refine zB ?_ | refine zC ?_ | refine zD ?_ | refine zE ?_ | refine zF ?_ | refine zG ?_ | refine zH ?_ | refine zI ?_ | refine zJ ?_ | refine zK rfl ?_ | refine zL ?_ | refine zM ?_ | refine zN ?_ | refine zO ?_ | refine zP rfl ?_ | refine zQ ?_ | ((first | refine zR ?_ | refine zS ?_ | refine zT ?_ | skip); intro K k; simp (disch := (first | (simp only [yD2, beq_self_eq_true, Nat.reduceLT, Nat.reduceAdd]; done) | ((fail_if_success (apply Bool.eq_iff_iff.2)); first | omega | (simp only [yD2, beq_self_eq_true, Nat.reduceLT, Nat.reduceAdd] <;> omega)) | fail)) only [↓yS, yT, ↓reduceIte, Nat.reduceEqDiff, Nat.reduceAdd, Nat.reduceMul, reduceCtorEq, Int.reduceToNat, g19, f1, f2, f4, f7, f8, f9, f10, f31, f32, f33]; refine yC (k _ _ ?_); clear k K) | ((first | refine zU ?_ | refine zV ?_ | refine zW ?_); intro A B C D a b c d; simp only [↓yG, Nat.reduceEqDiff, ↓reduceIte, g19, f1, f2, f4, f7, f8, f9, f10, f31, f32, f33]; (first | refine zX (a ?_) | refine zY (b ?_) | refine zZ (fun hc => c ?_) (fun hc => d ?_)) <;> clear a b c d A B C D <;> try simp only [yL] at hc) | (refine yA ?_; intro A a; simp only [↓yG, Nat.reduceEqDiff, ↓reduceIte, g19, f1, f2, f4, f7, f8, f9, f10, f31, f32, f33]; refine yB (a ?_); clear a A) | (refine yD ?_; simp only [gresults, ↓yG, Nat.reduceEqDiff, ↓reduceIte, Option.bind_some, gld_1, gld_n, g19, f1, f2, f4, f7, f8, f9, f10, f31, f32, f33]; refine ⟨_, rfl, ?_⟩; simp only [gone]))
    refine hJ0 _ _ ⟨M.length - (q + 1), by omega, q + 1, m', rfl, by omega, ?_⟩
    simp only [↓yG, Nat.reduceEqDiff, ↓reduceIte, Int.natCast_add, Int.cast_ofNat_Int, Int.natCast_zero, true_and, and_true, Option.some.injEq, Value.int.injEq, f1, f2, f4, f7, f8, f9, f31, f32]
    rw [hstep]
    unfold OR
    have e1 : RunsC ((M.take q).map (inS s) ++ [inS s x]) = RunsC ((M.take q).map (inS s)) ++ runC (inS s x) := by simp [RunsC]
    rw [e1, List.length_append]
    exact hO12
  · obtain rfl : q = M.length := by omega
    rw [List.take_length] at hO6
    have hO7 := hO6.weaken s4
    have hb1 : fillL [.slice none 0 0] [(0, 1, m)] = some [m] := fillL_1 rfl hO6.flat
    have hrv : ∀ w, Value.agg [w].toArray = rowV w := fun _ => rfl
    repeat' (first | (exfalso; omega) | refine zA ?_ | refine zB ?_ | refine zC ?_ | refine zD ?_ | refine zE ?_ | refine zF ?_ | refine zG ?_ | refine zH ?_ | refine zI ?_ | refine zJ ?_ | refine zK rfl ?_ | refine zL ?_ | refine zM ?_ | refine zN ?_ | refine zO ?_ | refine zP rfl ?_ | refine zQ ?_ | ((first | refine zR ?_ | refine zS ?_ | refine zT ?_ | skip); intro K k; simp (disch := (first | (simp only [yD2, beq_self_eq_true, Nat.reduceLT, Nat.reduceAdd]; done) | ((fail_if_success (apply Bool.eq_iff_iff.2)); first | omega | (simp only [yD2, beq_self_eq_true, Nat.reduceLT, Nat.reduceAdd] <;> omega)) | fail)) only [↓yS, yT, ↓reduceIte, Nat.reduceEqDiff, Nat.reduceAdd, Nat.reduceMul, reduceCtorEq, Int.reduceToNat, g19, f1, f2, f4, f7, f8, f9, f10, f31, f32, f33, mr s6, hb1, hrv]; refine yC (k _ _ ?_); clear k K) | ((first | refine zU ?_ | refine zV ?_ | refine zW ?_); intro A B C D a b c d; simp only [↓yG, Nat.reduceEqDiff, ↓reduceIte, g19, f1, f2, f4, f7, f8, f9, f10, f31, f32, f33, mr s6, hb1, hrv]; (first | refine zX (a ?_) | refine zY (b ?_) | refine zZ (fun hc => c ?_) (fun hc => d ?_)) <;> clear a b c d A B C D <;> try simp only [yL] at hc) | (refine yA ?_; intro A a; simp only [↓yG, Nat.reduceEqDiff, ↓reduceIte, g19, f1, f2, f4, f7, f8, f9, f10, f31, f32, f33, mr s6, hb1, hrv]; refine yB (a ?_); clear a A) | (refine yD ?_; simp only [gresults, ↓yG, Nat.reduceEqDiff, ↓reduceIte, Option.bind_some, gld_1, gld_n, g19, f1, f2, f4, f7, f8, f9, f10, f31, f32, f33, mr s6, hb1, hrv]; refine ⟨_, rfl, ?_⟩; simp only [gone]))
    refine Gw_s fun K' hK' => G1_callM (by simp only [gtarget, ↓GArg.ev, ↓evs, ↓Tr.get_set, Nat.reduceEqDiff, if_true, if_false, ↓reduceIte, Option.map_some, f1, f2, f4, f7, f8, f9, f10, f31, f32, f33]; rfl) (rslice_ok' (wf_up s6.wf) (mv s6).up (by omega) (by omega) (i := 0) (j := I) (by omega) (by omega)) fun r10 K10 hq => hK' _ _ ?_
    obtain ⟨w1, rfl, hO⟩ := hq
    have o1 := OR.down s6.wf hO
    clear hO
    generalize K10.down H6.lim = K1 at o1 ⊢
    have s10 := s6.trans o1.same
    have kmid := hrv m
    repeat' (first | (exfalso; omega) | refine zA ?_ | refine zB ?_ | refine zC ?_ | refine zD ?_ | refine zE ?_ | refine zF ?_ | refine zG ?_ | refine zH ?_ | refine zI ?_ | refine zJ ?_ | refine zK rfl ?_ | refine zL ?_ | refine zM ?_ | refine zN ?_ | refine zO ?_ | refine zP rfl ?_ | refine zQ ?_ | ((first | refine zR ?_ | refine zS ?_ | refine zT ?_ | skip); intro K k; simp (disch := (first | (simp only [yD2, beq_self_eq_true, Nat.reduceLT, Nat.reduceAdd]; done) | ((fail_if_success (apply Bool.eq_iff_iff.2)); first | omega | (simp only [yD2, beq_self_eq_true, Nat.reduceLT, Nat.reduceAdd] <;> omega)) | fail)) only [↓yS, yT, ↓reduceIte, Nat.reduceEqDiff, Nat.reduceAdd, Nat.reduceMul, reduceCtorEq, Int.reduceToNat, g19, f1, f2, f4, f7, f8, f9, f10, f31, f32, f33, kmid, hb1, hrv]; refine yC (k _ _ ?_); clear k K) | ((first | refine zU ?_ | refine zV ?_ | refine zW ?_); intro A B C D a b c d; simp only [↓yG, Nat.reduceEqDiff, ↓reduceIte, g19, f1, f2, f4, f7, f8, f9, f10, f31, f32, f33, kmid, hb1, hrv]; (first | refine zX (a ?_) | refine zY (b ?_) | refine zZ (fun hc => c ?_) (fun hc => d ?_)) <;> clear a b c d A B C D <;> try simp only [yL] at hc) | (refine yA ?_; intro A a; simp only [↓yG, Nat.reduceEqDiff, ↓reduceIte, g19, f1, f2, f4, f7, f8, f9, f10, f31, f32, f33, kmid, hb1, hrv]; refine yB (a ?_); clear a A) | (refine yD ?_; simp only [gresults, ↓yG, Nat.reduceEqDiff, ↓reduceIte, Option.bind_some, gld_1, gld_n, g19, f1, f2, f4, f7, f8, f9, f10, f31, f32, f33, kmid, hb1, hrv]; refine ⟨_, rfl, ?_⟩; simp only [gone]))
    refine Gw_s fun K' hK' => G1_callM (by simp only [gtarget, ↓GArg.ev, ↓evs, ↓Tr.get_set, Nat.reduceEqDiff, if_true, if_false, ↓reduceIte, Option.map_some, f1, f2, f4, f7, f8, f9, f10, f31, f32, f33]; rfl) (rConcat_ok (wf_up s10.wf) (OR.rr o1).up (OR.rr (hO7.later o1.same)).up (by simp only [List.length_map]; omega) (by omega)) fun r12 K12 hq => hK' _ _ ?_
    obtain ⟨w3, rfl, hO⟩ := hq
    have o3 := OR.down s10.wf hO
    clear hO
    generalize K12.down K1.lim = K3 at o3 ⊢
    have s12 := s10.trans o3.same
    repeat' (first | (exfalso; omega) | refine zA ?_ | refine zB ?_ | refine zC ?_ | refine zD ?_ | refine zE ?_ | refine zF ?_ | refine zG ?_ | refine zH ?_ | refine zI ?_ | refine zJ ?_ | refine zK rfl ?_ | refine zL ?_ | refine zM ?_ | refine zN ?_ | refine zO ?_ | refine zP rfl ?_ | refine zQ ?_ | ((first | refine zR ?_ | refine zS ?_ | refine zT ?_ | skip); intro K k; simp (disch := (first | (simp only [yD2, beq_self_eq_true, Nat.reduceLT, Nat.reduceAdd]; done) | ((fail_if_success (apply Bool.eq_iff_iff.2)); first | omega | (simp only [yD2, beq_self_eq_true, Nat.reduceLT, Nat.reduceAdd] <;> omega)) | fail)) only [↓yS, yT, ↓reduceIte, Nat.reduceEqDiff, Nat.reduceAdd, Nat.reduceMul, reduceCtorEq, Int.reduceToNat, g19, f1, f2, f4, f7, f8, f9, f10, f31, f32, f33, mr s12]; refine yC (k _ _ ?_); clear k K) | ((first | refine zU ?_ | refine zV ?_ | refine zW ?_); intro A B C D a b c d; simp only [↓yG, Nat.reduceEqDiff, ↓reduceIte, g19, f1, f2, f4, f7, f8, f9, f10, f31, f32, f33, mr s12]; (first | refine zX (a ?_) | refine zY (b ?_) | refine zZ (fun hc => c ?_) (fun hc => d ?_)) <;> clear a b c d A B C D <;> try simp only [yL] at hc) | (refine yA ?_; intro A a; simp only [↓yG, Nat.reduceEqDiff, ↓reduceIte, g19, f1, f2, f4, f7, f8, f9, f10, f31, f32, f33, mr s12]; refine yB (a ?_); clear a A) | (refine yD ?_; simp only [gresults, ↓yG, Nat.reduceEqDiff, ↓reduceIte, Option.bind_some, gld_1, gld_n, g19, f1, f2, f4, f7, f8, f9, f10, f31, f32, f33, mr s12]; refine ⟨_, rfl, ?_⟩; simp only [gone]))
    refine Gw_s fun K' hK' => G1_callM (by simp only [gtarget, ↓GArg.ev, ↓evs, ↓Tr.get_set, Nat.reduceEqDiff, if_true, if_false, ↓reduceIte, Option.map_some, f1, f2, f4, f7, f8, f9, f10, f31, f32, f33]; rfl) (rslice_ok' (wf_up s12.wf) (mv s12).up (by omega) (by omega) (i := J) (j := lenF l) (by omega) (by omega)) fun r13 K13 hq => hK' _ _ ?_
    obtain ⟨w4, rfl, hO⟩ := hq
    have o4 := OR.down s12.wf hO
    clear hO
    generalize K13.down K3.lim = K4 at o4 ⊢
    have s13 := s12.trans o4.same
    repeat' (first | (exfalso; omega) | refine zA ?_ | refine zB ?_ | refine zC ?_ | refine zD ?_ | refine zE ?_ | refine zF ?_ | refine zG ?_ | refine zH ?_ | refine zI ?_ | refine zJ ?_ | refine zK rfl ?_ | refine zL ?_ | refine zM ?_ | refine zN ?_ | refine zO ?_ | refine zP rfl ?_ | refine zQ ?_ | ((first | refine zR ?_ | refine zS ?_ | refine zT ?_ | skip); intro K k; simp (disch := (first | (simp only [yD2, beq_self_eq_true, Nat.reduceLT, Nat.reduceAdd]; done) | ((fail_if_success (apply Bool.eq_iff_iff.2)); first | omega | (simp only [yD2, beq_self_eq_true, Nat.reduceLT, Nat.reduceAdd] <;> omega)) | fail)) only [↓yS, yT, ↓reduceIte, Nat.reduceEqDiff, Nat.reduceAdd, Nat.reduceMul, reduceCtorEq, Int.reduceToNat, g19, f1, f2, f4, f7, f8, f9, f10, f31, f32, f33]; refine yC (k _ _ ?_); clear k K) | ((first | refine zU ?_ | refine zV ?_ | refine zW ?_); intro A B C D a b c d; simp only [↓yG, Nat.reduceEqDiff, ↓reduceIte, g19, f1, f2, f4, f7, f8, f9, f10, f31, f32, f33]; (first | refine zX (a ?_) | refine zY (b ?_) | refine zZ (fun hc => c ?_) (fun hc => d ?_)) <;> clear a b c d A B C D <;> try simp only [yL] at hc) | (refine yA ?_; intro A a; simp only [↓yG, Nat.reduceEqDiff, ↓reduceIte, g19, f1, f2, f4, f7, f8, f9, f10, f31, f32, f33]; refine yB (a ?_); clear a A) | (refine yD ?_; simp only [gresults, ↓yG, Nat.reduceEqDiff, ↓reduceIte, Option.bind_some, gld_1, gld_n, g19, f1, f2, f4, f7, f8, f9, f10, f31, f32, f33]; refine ⟨_, rfl, ?_⟩; simp only [gone]))
    refine Gw_s fun K' hK' => G1_callM (by simp only [gtarget, ↓GArg.ev, ↓evs, ↓Tr.get_set, Nat.reduceEqDiff, if_true, if_false, ↓reduceIte, Option.map_some, f1, f2, f4, f7, f8, f9, f10, f31, f32, f33]; rfl) (rConcat_ok (wf_up s13.wf) (OR.rr (o3.later o4.same)).up (OR.rr o4).up (by omega) (by omega)) fun r14 K14 hq => hK' _ _ ?_
    obtain ⟨w5, rfl, hO⟩ := hq
    have o5 := OR.down s13.wf hO
    clear hO
    generalize K14.down K4.lim = K5 at o5 ⊢
    have s14 := s13.trans o5.same
    obtain ⟨g1, g2, g3⟩ := (OR.weaken o5 (hS0.trans s13)).res (mm s14) rfl (by omega)
    repeat' (first | (exfalso; omega) | refine zA ?_ | refine zB ?_ | refine zC ?_ | refine zD ?_ | refine zE ?_ | refine zF ?_ | refine zG ?_ | refine zH ?_ | refine zI ?_ | refine zJ ?_ | refine zK rfl ?_ | refine zL ?_ | refine zM ?_ | refine zN ?_ | refine zO ?_ | refine zP rfl ?_ | refine zQ ?_ | ((first | refine zR ?_ | refine zS ?_ | refine zT ?_ | skip); intro K k; simp (disch := (first | (simp only [yD2, beq_self_eq_true, Nat.reduceLT, Nat.reduceAdd]; done) | ((fail_if_success (apply Bool.eq_iff_iff.2)); first | omega | (simp only [yD2, beq_self_eq_true, Nat.reduceLT, Nat.reduceAdd] <;> omega)) | fail)) only [↓yS, yT, ↓reduceIte, Nat.reduceEqDiff, Nat.reduceAdd, Nat.reduceMul, reduceCtorEq, Int.reduceToNat, g19, f1, f2, f4, f7, f8, f9, f10, f31, f32, f33, g1, g3]; refine yC (k _ _ ?_); clear k K) | ((first | refine zU ?_ | refine zV ?_ | refine zW ?_); intro A B C D a b c d; simp only [↓yG, Nat.reduceEqDiff, ↓reduceIte, g19, f1, f2, f4, f7, f8, f9, f10, f31, f32, f33, g1, g3]; (first | refine zX (a ?_) | refine zY (b ?_) | refine zZ (fun hc => c ?_) (fun hc => d ?_)) <;> clear a b c d A B C D <;> try simp only [yL] at hc) | (refine yA ?_; intro A a; simp only [↓yG, Nat.reduceEqDiff, ↓reduceIte, g19, f1, f2, f4, f7, f8, f9, f10, f31, f32, f33, g1, g3]; refine yB (a ?_); clear a A) | (refine yD ?_; simp only [gresults, ↓yG, Nat.reduceEqDiff, ↓reduceIte, Option.bind_some, gld_1, gld_n, g19, f1, f2, f4, f7, f8, f9, f10, f31, f32, f33, g1, g3]; refine ⟨_, rfl, ?_⟩; simp only [gone]))
    exact hPost _ _ ⟨w5, rfl, by rw [hrf]; exact g2⟩
end Go.Gh
