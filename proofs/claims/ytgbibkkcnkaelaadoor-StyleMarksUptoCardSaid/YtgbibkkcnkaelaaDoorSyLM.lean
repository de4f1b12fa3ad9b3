/-
  The law StyleMarks, walked.
-/
import Derived.Test.YtgbibkkcnkaelaaDoorSyM2
namespace Go.Gh
set_option linter.unusedSimpArgs false
set_option linter.unusedVariables false
open Go.RowKit
set_option maxRecDepth 4000

theorem replaceF_bound (l : List SR) (i j : Int) (t : List UInt8) : (replaceF l i j t).length ≤ 2 * l.length + 1 ∧ tot (replaceF l i j t) ≤ 2 * tot l + t.length := by
  unfold replaceF
  split
  · simp [tot]
  · have h0 := normF_tot (normF (sliceF l 0 (limI (lenF l) i) ++ normF [⟨t, styF l (limI (lenF l) i) (limJ (lenF l) i j), []⟩]) ++ sliceF l (limJ (lenF l) i j) (lenF l))
    have h1 := normF_tot (sliceF l 0 (limI (lenF l) i) ++ normF [⟨t, styF l (limI (lenF l) i) (limJ (lenF l) i j), []⟩])
    have h2 := sliceF_tot l 0 (limI (lenF l) i)
    have h3 := sliceF_tot l (limJ (lenF l) i j) (lenF l)
    have h4 := normF_tot [(⟨t, styF l (limI (lenF l) i) (limJ (lenF l) i j), []⟩ : SR)]
    simp only [List.length_append, List.length_cons, List.length_nil, tot_append, tot_cons, tot_nil] at h0 h1 h4
    omega
theorem markF_bound (l : List SR) (i j : Int) (s : Sy) : (markF l i j s).length ≤ 3 * l.length ∧ tot (markF l i j s) ≤ 3 * tot l := by
  unfold markF
  split
  · simp [tot]
  · have h0 := normF_tot (normF (sliceF l 0 (limI (lenF l) i) ++ (sliceF l (limI (lenF l) i) (limJ (lenF l) i j)).map (inS s)) ++ sliceF l (limJ (lenF l) i j) (lenF l))
    have h1 := normF_tot (sliceF l 0 (limI (lenF l) i) ++ (sliceF l (limI (lenF l) i) (limJ (lenF l) i j)).map (inS s))
    have h2 := sliceF_tot l 0 (limI (lenF l) i)
    have h3 := sliceF_tot l (limJ (lenF l) i j) (lenF l)
    have h4 := sliceF_tot l (limI (lenF l) i) (limJ (lenF l) i j)
    have h5 := tot_inS s (sliceF l (limI (lenF l) i) (limJ (lenF l) i j))
    simp only [List.length_append, List.length_map, tot_append] at h0 h1
    omega
theorem neI_of {e : Option EqK} {k : IntKind} {a b : Int} (h : a = b) : gbin .neq e (.int k a) (.int k b) = some (.bool false) := by rw [h]; exact neI_self
theorem neS_of {a b : Sy} (h : a = b) : gbin .neq (some (.parts [(0, none, .int), (1, none, .bool), (2, none, .bool)])) (syV a) (syV b) = some (.bool false) := by rw [h]; exact neS_self
set_option maxHeartbeats 2000000 in
theorem marks_ok {H : GHeap} (hw : H.wf) {a : Value} {A : List SR} (ha : ArgR H a A) {i : Nat} (hi : i ≤ 255) {s : Sy} :
    ∃ r H', gev G 5 [rowV a, .int .u8 i, syV s] H = some (r, H') ∧ r = .bool true := by
  refine gev_GW (f := 5) rfl fun Post hPost => ?_
  have hlim := hw.1
  have hf := ha.rr.flat
  have htA := ha.tot
  have hlA := ha.len
  have hlr := lenF_range A
  simp only [frameOf, Nat.reduceAdd]
  have hS0 : Same H ((H.add (some (.cells [a] 0 true))).add (some (.cells (syC s) 0 true))) := ((Same.refl hw).add _).add _
  have kr : ((H.add (some (.cells [a] 0 true))).add (some (.cells (syC s) 0 true))).rdn H.len 0 1 = some (rowV a) := by
    rw [rdn_add_ne (by rw [len_add]; omega)]; exact rdn_add_all (n := 1) rfl rfl
  have ks : ((H.add (some (.cells [a] 0 true))).add (some (.cells (syC s) 0 true))).rdn (H.len + 1) 0 3 = some (syV s) := rdn_sy (by rw [len_add])
  have hl0 : ((H.add (some (.cells [a] 0 true))).add (some (.cells (syC s) 0 true))).len = H.len + 2 := by rw [len_add, len_add]
  repeat' (first | refine zA ?_ | refine zB ?_ | refine zC ?_ | refine zD ?_ | refine zE ?_ | refine zF ?_ | refine zG ?_ | refine zH ?_ | refine zI ?_ | refine zJ ?_ | refine zK rfl ?_ | refine zL ?_ | refine zM ?_ | refine zN ?_ | refine zO ?_ | refine zP rfl ?_ | refine zQ ?_ | ((first | refine zR ?_ | refine zS ?_ | refine zT ?_ | skip); intro K k; simp (disch := (first | (simp only [yD2, beq_self_eq_true, Nat.reduceLT, Nat.reduceAdd]; done) | ((fail_if_success (apply Bool.eq_iff_iff.2)); first | omega | (simp only [yD2, beq_self_eq_true, Nat.reduceLT, Nat.reduceAdd] <;> omega)) | fail)) only [↓yS, yT, ↓reduceIte, Nat.reduceEqDiff, Nat.reduceAdd, Nat.reduceMul, reduceCtorEq, Int.reduceToNat, g5, rowV_eq, agg_all, agg_list, hf, RN]; refine yC (k _ _ ?_); clear k K) | ((first | refine zU ?_ | refine zV ?_ | refine zW ?_); intro A B C D a b c d; simp only [↓yG, Nat.reduceEqDiff, ↓reduceIte, g5, rowV_eq, agg_all, agg_list, hf, RN]; (first | refine zX (a ?_) | refine zY (b ?_) | refine zZ (fun hc => c ?_) (fun hc => d ?_)) <;> clear a b c d A B C D <;> try simp only [yL] at hc) | (refine yA ?_; intro A a; simp only [↓yG, Nat.reduceEqDiff, ↓reduceIte, g5, rowV_eq, agg_all, agg_list, hf, RN]; refine yB (a ?_); clear a A) | (refine yD ?_; simp only [gresults, ↓yG, Nat.reduceEqDiff, ↓reduceIte, Option.bind_some, gld_1, gld_n, g5, rowV_eq, agg_all, agg_list, hf, RN]; refine ⟨_, rfl, ?_⟩; simp only [gone]))
  generalize (H.add (some (.cells [a] 0 true))).add (some (.cells (syC s) 0 true)) = Hb at *
  have mr : ∀ {H'}, Same Hb H' → H'.rdn H.len 0 1 = some (rowV a) := fun hs => by rw [hs.rdn (by omega)]; exact kr
  have ms : ∀ {H'}, Same Hb H' → H'.rdn (H.len + 1) 0 3 = some (syV s) := fun hs => by rw [hs.rdn (by omega)]; exact ks
  have aA : ∀ {H'}, Same Hb H' → RR H' a A := fun hs => ha.rr.later hw (hS0.trans hs)
  have hwb := hS0.wf
  refine Gw_s fun K' hK' => G1_call (by simp only [gtarget, ↓GArg.ev, ↓evs, ↓Tr.get_set, Nat.reduceEqDiff, if_true, if_false, ↓reduceIte, Option.map_some]; rfl) (one_of (awake_gev _)) fun r0 H0 hq => hK' _ _ ?_
  obtain ⟨rfl, rfl⟩ := hq
  have s0 := Same.refl hwb
  have hzc : [Value.int .u8 0, .bool false, .bool false] = syC syZ := rfl
  repeat' (first | (exfalso; omega) | refine zA ?_ | refine zB ?_ | refine zC ?_ | refine zD ?_ | refine zE ?_ | refine zF ?_ | refine zG ?_ | refine zH ?_ | refine zI ?_ | refine zJ ?_ | refine zK rfl ?_ | refine zL ?_ | refine zM ?_ | refine zN ?_ | refine zO ?_ | refine zP rfl ?_ | refine zQ ?_ | ((first | refine zR ?_ | refine zS ?_ | refine zT ?_ | skip); intro K k; simp (disch := (first | (simp only [yD2, beq_self_eq_true, Nat.reduceLT, Nat.reduceAdd]; done) | ((fail_if_success (apply Bool.eq_iff_iff.2)); first | omega | (simp only [yD2, beq_self_eq_true, Nat.reduceLT, Nat.reduceAdd] <;> omega)) | fail)) only [↓yS, yT, ↓reduceIte, Nat.reduceEqDiff, Nat.reduceAdd, Nat.reduceMul, reduceCtorEq, Int.reduceToNat, g5, mr s0]; refine yC (k _ _ ?_); clear k K) | ((first | refine zU ?_ | refine zV ?_ | refine zW ?_); intro A B C D a b c d; simp only [↓yG, Nat.reduceEqDiff, ↓reduceIte, g5, mr s0]; (first | refine zX (a ?_) | refine zY (b ?_) | refine zZ (fun hc => c ?_) (fun hc => d ?_)) <;> clear a b c d A B C D <;> try simp only [yL] at hc) | (refine yA ?_; intro A a; simp only [↓yG, Nat.reduceEqDiff, ↓reduceIte, g5, mr s0]; refine yB (a ?_); clear a A) | (refine yD ?_; simp only [gresults, ↓yG, Nat.reduceEqDiff, ↓reduceIte, Option.bind_some, gld_1, gld_n, g5, mr s0]; refine ⟨_, rfl, ?_⟩; simp only [gone]))
  refine Gw_s fun K' hK' => G1_call (by simp only [gtarget, ↓GArg.ev, ↓evs, ↓Tr.get_set, Nat.reduceEqDiff, if_true, if_false, ↓reduceIte, Option.map_some]; rfl) (Len_ok s0.wf (aA s0) (by omega) (by omega)) fun r1 K1 hq => hK' _ _ ?_
  obtain ⟨rfl, hS⟩ := hq
  have s1a := s0.trans hS
  have i1 := hS
  clear hS
  by_cases hneg : lenF A < 1
  · repeat' (first | (exfalso; omega) | refine zA ?_ | refine zB ?_ | refine zC ?_ | refine zD ?_ | refine zE ?_ | refine zF ?_ | refine zG ?_ | refine zH ?_ | refine zI ?_ | refine zJ ?_ | refine zK rfl ?_ | refine zL ?_ | refine zM ?_ | refine zN ?_ | refine zO ?_ | refine zP rfl ?_ | refine zQ ?_ | ((first | refine zR ?_ | refine zS ?_ | refine zT ?_ | skip); intro K k; simp (disch := (first | (simp only [yD2, beq_self_eq_true, Nat.reduceLT, Nat.reduceAdd]; done) | ((fail_if_success (apply Bool.eq_iff_iff.2)); first | omega | (simp only [yD2, beq_self_eq_true, Nat.reduceLT, Nat.reduceAdd] <;> omega)) | fail)) only [↓yS, yT, ↓reduceIte, Nat.reduceEqDiff, Nat.reduceAdd, Nat.reduceMul, reduceCtorEq, Int.reduceToNat, g5]; refine yC (k _ _ ?_); clear k K) | ((first | refine zU ?_ | refine zV ?_ | refine zW ?_); intro A B C D a b c d; simp only [↓yG, Nat.reduceEqDiff, ↓reduceIte, g5]; (first | refine zX (a ?_) | refine zY (b ?_) | refine zZ (fun hc => c ?_) (fun hc => d ?_)) <;> clear a b c d A B C D <;> try simp only [yL] at hc) | (refine yA ?_; intro A a; simp only [↓yG, Nat.reduceEqDiff, ↓reduceIte, g5]; refine yB (a ?_); clear a A) | (refine yD ?_; simp only [gresults, ↓yG, Nat.reduceEqDiff, ↓reduceIte, Option.bind_some, gld_1, gld_n, g5]; refine ⟨_, rfl, ?_⟩; simp only [gone]))
    exact hPost _ _ rfl
  have hok := lenF_okV (l := A) (by omega)
  have hlen := lenF_ok hok
  have hcl := cntL_le A
  rw [← charsR_len] at hcl
  generalize hnn : (charsR A).length = n at *
  rw [hlen]
  obtain ⟨I, hI⟩ : ∃ I, I = i % n := ⟨_, rfl⟩
  have hIn : I < n := by rw [hI]; exact Nat.mod_lt _ (by omega)
  obtain ⟨J, hJ⟩ : ∃ J, J = I + 1 + (i / 16) % (n - I) := ⟨_, rfl⟩
  have hJn : I < J ∧ J ≤ n := by have := Nat.mod_lt (i / 16) (show 0 < n - I by omega); omega
  have hr1 := fun e => gb_remN (e := e) (a := i) (b := n) (by omega)
  rw [← hI] at hr1
  have hr2 := fun e => gb_quoN (e := e) (a := i) (b := 16) (by omega) (by omega)
  have hr3 := fun e => gb_remN (e := e) (a := i / 16) (b := n - I) (by omega)
  have hd1 : ((n : Int) - (I : Int)) = ((n - I : Nat) : Int) := by omega
  have hc1 : IntKind.i64.wrap (i : Int) = (i : Int) := wr_i64 (by omega)
  have h16 : ((16 : Nat) : Int) = 16 := rfl
  rw [h16] at hr2
  repeat' (first | (exfalso; omega) | refine zA ?_ | refine zB ?_ | refine zC ?_ | refine zD ?_ | refine zE ?_ | refine zF ?_ | refine zG ?_ | refine zH ?_ | refine zI ?_ | refine zJ ?_ | refine zK rfl ?_ | refine zL ?_ | refine zM ?_ | refine zN ?_ | refine zO ?_ | refine zP rfl ?_ | refine zQ ?_ | ((first | refine zR ?_ | refine zS ?_ | refine zT ?_ | skip); intro K k; simp (disch := (first | (simp only [yD2, beq_self_eq_true, Nat.reduceLT, Nat.reduceAdd]; done) | ((fail_if_success (apply Bool.eq_iff_iff.2)); first | omega | (simp only [yD2, beq_self_eq_true, Nat.reduceLT, Nat.reduceAdd] <;> omega)) | fail)) only [↓yS, yT, ↓reduceIte, Nat.reduceEqDiff, Nat.reduceAdd, Nat.reduceMul, reduceCtorEq, Int.reduceToNat, g5, gcv_int, hc1, hr1, hr2, hd1, hr3, mr s1a, ms s1a]; refine yC (k _ _ ?_); clear k K) | ((first | refine zU ?_ | refine zV ?_ | refine zW ?_); intro A B C D a b c d; simp only [↓yG, Nat.reduceEqDiff, ↓reduceIte, g5, gcv_int, hc1, hr1, hr2, hd1, hr3, mr s1a, ms s1a]; (first | refine zX (a ?_) | refine zY (b ?_) | refine zZ (fun hc => c ?_) (fun hc => d ?_)) <;> clear a b c d A B C D <;> try simp only [yL] at hc) | (refine yA ?_; intro A a; simp only [↓yG, Nat.reduceEqDiff, ↓reduceIte, g5, gcv_int, hc1, hr1, hr2, hd1, hr3, mr s1a, ms s1a]; refine yB (a ?_); clear a A) | (refine yD ?_; simp only [gresults, ↓yG, Nat.reduceEqDiff, ↓reduceIte, Option.bind_some, gld_1, gld_n, g5, gcv_int, hc1, hr1, hr2, hd1, hr3, mr s1a, ms s1a]; refine ⟨_, rfl, ?_⟩; simp only [gone]))
  have hJe : ((I : Int) + 1 + ((i / 16 % (n - I) : Nat) : Int)) = (J : Int) := by omega
  try rw [hJe]
  repeat' (first | (exfalso; omega) | refine zA ?_ | refine zB ?_ | refine zC ?_ | refine zD ?_ | refine zE ?_ | refine zF ?_ | refine zG ?_ | refine zH ?_ | refine zI ?_ | refine zJ ?_ | refine zK rfl ?_ | refine zL ?_ | refine zM ?_ | refine zN ?_ | refine zO ?_ | refine zP rfl ?_ | refine zQ ?_ | ((first | refine zR ?_ | refine zS ?_ | refine zT ?_ | skip); intro K k; simp (disch := (first | (simp only [yD2, beq_self_eq_true, Nat.reduceLT, Nat.reduceAdd]; done) | ((fail_if_success (apply Bool.eq_iff_iff.2)); first | omega | (simp only [yD2, beq_self_eq_true, Nat.reduceLT, Nat.reduceAdd] <;> omega)) | fail)) only [↓yS, yT, ↓reduceIte, Nat.reduceEqDiff, Nat.reduceAdd, Nat.reduceMul, reduceCtorEq, Int.reduceToNat, g5, gcv_int, hc1, hr1, hr2, hd1, hr3, mr s1a, ms s1a]; refine yC (k _ _ ?_); clear k K) | ((first | refine zU ?_ | refine zV ?_ | refine zW ?_); intro A B C D a b c d; simp only [↓yG, Nat.reduceEqDiff, ↓reduceIte, g5, gcv_int, hc1, hr1, hr2, hd1, hr3, mr s1a, ms s1a]; (first | refine zX (a ?_) | refine zY (b ?_) | refine zZ (fun hc => c ?_) (fun hc => d ?_)) <;> clear a b c d A B C D <;> try simp only [yL] at hc) | (refine yA ?_; intro A a; simp only [↓yG, Nat.reduceEqDiff, ↓reduceIte, g5, gcv_int, hc1, hr1, hr2, hd1, hr3, mr s1a, ms s1a]; refine yB (a ?_); clear a A) | (refine yD ?_; simp only [gresults, ↓yG, Nat.reduceEqDiff, ↓reduceIte, Option.bind_some, gld_1, gld_n, g5, gcv_int, hc1, hr1, hr2, hd1, hr3, mr s1a, ms s1a]; refine ⟨_, rfl, ?_⟩; simp only [gone]))
  have bM := markF_bound A I J s
  have bX := replaceF_bound A I J [97, 98]
  simp only [List.length_cons, List.length_nil] at bX
  refine Gw_s fun K' hK' => G1_call (by simp only [gtarget, ↓GArg.ev, ↓evs, ↓Tr.get_set, Nat.reduceEqDiff, if_true, if_false, ↓reduceIte, Option.map_some]; rfl) (mark_ok s1a.wf (aA s1a) (by omega) (by omega) (i := (I : Int)) (j := (J : Int)) (by omega) (by omega) (s := s)) fun r2 K2 hq => hK' _ _ ?_
  obtain ⟨wm, rfl, hO⟩ := hq
  have o2 := hO
  clear hO
  have s2a := s1a.trans o2.same
  have i2 := o2.same
  have hg2 : ∀ c, gsetn [c] 0 1 (rowV wm) = some [wm] := fun c => gsetn_all (vs := #[wm]) rfl rfl (by simpa using OR.flat o2)
  have t2 : Same K2 ((K2.add (some (.cells [.slice none 0 0] 0 true))).put K2.len (.cells [wm] 0 true)) := (Same.refl s2a.wf).new _ _
  have k2 : ((K2.add (some (.cells [.slice none 0 0] 0 true))).put K2.len (.cells [wm] 0 true)).rdn K2.len 0 1 = some (rowV wm) := rdn_put_all rfl
  have l2 : ((K2.add (some (.cells [.slice none 0 0] 0 true))).put K2.len (.cells [wm] 0 true)).len = K2.len + 1 := by rw [len_put, len_add]
  have hlm2 := s2a.wf.1
  have sq2 := s2a.trans t2
  repeat' (first | (exfalso; omega) | refine zA ?_ | refine zB ?_ | refine zC ?_ | refine zD ?_ | refine zE ?_ | refine zF ?_ | refine zG ?_ | refine zH ?_ | refine zI ?_ | refine zJ ?_ | refine zK rfl ?_ | refine zL ?_ | refine zM ?_ | refine zN ?_ | refine zO ?_ | refine zP rfl ?_ | refine zQ ?_ | ((first | refine zR ?_ | refine zS ?_ | refine zT ?_ | skip); intro K k; simp (disch := (first | (simp only [yD2, beq_self_eq_true, Nat.reduceLT, Nat.reduceAdd]; done) | ((fail_if_success (apply Bool.eq_iff_iff.2)); first | omega | (simp only [yD2, beq_self_eq_true, Nat.reduceLT, Nat.reduceAdd] <;> omega)) | fail)) only [↓yS, yT, ↓reduceIte, Nat.reduceEqDiff, Nat.reduceAdd, Nat.reduceMul, reduceCtorEq, Int.reduceToNat, g5, hg2, mr sq2, ms sq2]; refine yC (k _ _ ?_); clear k K) | ((first | refine zU ?_ | refine zV ?_ | refine zW ?_); intro A B C D a b c d; simp only [↓yG, Nat.reduceEqDiff, ↓reduceIte, g5, hg2, mr sq2, ms sq2]; (first | refine zX (a ?_) | refine zY (b ?_) | refine zZ (fun hc => c ?_) (fun hc => d ?_)) <;> clear a b c d A B C D <;> try simp only [yL] at hc) | (refine yA ?_; intro A a; simp only [↓yG, Nat.reduceEqDiff, ↓reduceIte, g5, hg2, mr sq2, ms sq2]; refine yB (a ?_); clear a A) | (refine yD ?_; simp only [gresults, ↓yG, Nat.reduceEqDiff, ↓reduceIte, Option.bind_some, gld_1, gld_n, g5, hg2, mr sq2, ms sq2]; refine ⟨_, rfl, ?_⟩; simp only [gone]))
  have oo2 := o2.later t2
  generalize (K2.add (some (.cells [.slice none 0 0] 0 true))).put K2.len (.cells [wm] 0 true) = HM at *
  obtain ⟨hmc, hokM⟩ := mark_chars hok (I := I) (J := J) (by omega) (by omega) s
  have hma := fun {k : Nat} hk => mark_at hok (I := I) (J := J) (by omega) (by omega) s (k := k) hk
  obtain ⟨hxl, hokX, hxa⟩ := rep_at hok (I := I) (J := J) (by omega) (by omega)
  have hml : (charsR (markF A I J s)).length = n := by
    have l1 : ((charsR A).take I).length = I := by rw [List.length_take]; omega
    have l2 : ((((charsR A).take J).drop I).map fun p => (p.1, s)).length = J - I := by simp; omega
    rw [hmc, List.length_append, List.length_append, l1, l2, List.length_drop]; omega
  generalize hM : markF A I J s = M at *
  refine Gw_s fun K' hK' => G1_call (by simp only [gtarget, ↓GArg.ev, ↓evs, ↓Tr.get_set, Nat.reduceEqDiff, if_true, if_false, ↓reduceIte, Option.map_some]; rfl) (replace_ok sq2.wf (aA sq2) (by omega) (by omega) (i := (I : Int)) (j := (J : Int)) (by omega) (by omega) (t := [97, 98]) (by simp only [List.length_cons, List.length_nil]; omega)) fun r3 K3 hq => hK' _ _ ?_
  obtain ⟨wx, rfl, hO⟩ := hq
  have o3 := hO
  clear hO
  have s3a := sq2.trans o3.same
  have i3 := o3.same
  generalize hX : replaceF A I J [97, 98] = X at *
  have oM2 := oo2.later i3
  have kM2 : K3.rdn K2.len 0 1 = some (rowV wm) := by rw [i3.rdn (by omega)]; exact k2
  have hg3 : ∀ c, gsetn [c] 0 1 (rowV wx) = some [wx] := fun c => gsetn_all (vs := #[wx]) rfl rfl (by simpa using OR.flat o3)
  have t3 : Same K3 ((K3.add (some (.cells [.slice none 0 0] 0 true))).put K3.len (.cells [wx] 0 true)) := (Same.refl s3a.wf).new _ _
  have k3 : ((K3.add (some (.cells [.slice none 0 0] 0 true))).put K3.len (.cells [wx] 0 true)).rdn K3.len 0 1 = some (rowV wx) := rdn_put_all rfl
  have l3 : ((K3.add (some (.cells [.slice none 0 0] 0 true))).put K3.len (.cells [wx] 0 true)).len = K3.len + 1 := by rw [len_put, len_add]
  have hlm3 := s3a.wf.1
  have sq3 := s3a.trans t3
  repeat' (first | (exfalso; omega) | refine zA ?_ | refine zB ?_ | refine zC ?_ | refine zD ?_ | refine zE ?_ | refine zF ?_ | refine zG ?_ | refine zH ?_ | refine zI ?_ | refine zJ ?_ | refine zK rfl ?_ | refine zL ?_ | refine zM ?_ | refine zN ?_ | refine zO ?_ | refine zP rfl ?_ | refine zQ ?_ | ((first | refine zR ?_ | refine zS ?_ | refine zT ?_ | skip); intro K k; simp (disch := (first | (simp only [yD2, beq_self_eq_true, Nat.reduceLT, Nat.reduceAdd]; done) | ((fail_if_success (apply Bool.eq_iff_iff.2)); first | omega | (simp only [yD2, beq_self_eq_true, Nat.reduceLT, Nat.reduceAdd] <;> omega)) | fail)) only [↓yS, yT, ↓reduceIte, Nat.reduceEqDiff, Nat.reduceAdd, Nat.reduceMul, reduceCtorEq, Int.reduceToNat, g5, hg3, mr sq3, ms sq3]; refine yC (k _ _ ?_); clear k K) | ((first | refine zU ?_ | refine zV ?_ | refine zW ?_); intro A B C D a b c d; simp only [↓yG, Nat.reduceEqDiff, ↓reduceIte, g5, hg3, mr sq3, ms sq3]; (first | refine zX (a ?_) | refine zY (b ?_) | refine zZ (fun hc => c ?_) (fun hc => d ?_)) <;> clear a b c d A B C D <;> try simp only [yL] at hc) | (refine yA ?_; intro A a; simp only [↓yG, Nat.reduceEqDiff, ↓reduceIte, g5, hg3, mr sq3, ms sq3]; refine yB (a ?_); clear a A) | (refine yD ?_; simp only [gresults, ↓yG, Nat.reduceEqDiff, ↓reduceIte, Option.bind_some, gld_1, gld_n, g5, hg3, mr sq3, ms sq3]; refine ⟨_, rfl, ?_⟩; simp only [gone]))
  have oo3 := o3.later t3
  generalize (K3.add (some (.cells [.slice none 0 0] 0 true))).put K3.len (.cells [wx] 0 true) = HX at *
  have oM := oM2.later t3
  have kM : HX.rdn K2.len 0 1 = some (rowV wm) := by rw [t3.rdn (by have := i3.len; omega)]; exact kM2
  have hmx : K2.len < HX.len := by have := i3.len; omega
  have hwX := sq3.wf
  have mM : ∀ {H'}, Same HX H' → H'.rdn K2.len 0 1 = some (rowV wm) := fun hs => by rw [hs.rdn hmx]; exact kM
  have mX : ∀ {H'}, Same HX H' → H'.rdn K3.len 0 1 = some (rowV wx) := fun hs => by rw [hs.rdn (by omega)]; exact k3
  have aM : ∀ {H'}, Same HX H' → RR H' wm M := fun hs => (OR.rr oM).later hwX hs
  have aX : ∀ {H'}, Same HX H' → RR H' wx X := fun hs => (OR.rr oo3).later hwX hs
  have sX := sq3
  have u0 := Same.refl hwX
  repeat' (first | (exfalso; omega) | refine zA ?_ | refine zB ?_ | refine zC ?_ | refine zD ?_ | refine zE ?_ | refine zF ?_ | refine zG ?_ | refine zH ?_ | refine zI ?_ | refine zJ ?_ | refine zK rfl ?_ | refine zL ?_ | refine zM ?_ | refine zN ?_ | refine zO ?_ | refine zP rfl ?_ | refine zQ ?_ | ((first | refine zR ?_ | refine zS ?_ | refine zT ?_ | skip); intro K k; simp (disch := (first | (simp only [yD2, beq_self_eq_true, Nat.reduceLT, Nat.reduceAdd]; done) | ((fail_if_success (apply Bool.eq_iff_iff.2)); first | omega | (simp only [yD2, beq_self_eq_true, Nat.reduceLT, Nat.reduceAdd] <;> omega)) | fail)) only [↓yS, yT, ↓reduceIte, Nat.reduceEqDiff, Nat.reduceAdd, Nat.reduceMul, reduceCtorEq, Int.reduceToNat, g5, mr (sX.trans u0), ms (sX.trans u0), mM u0, mX u0]; refine yC (k _ _ ?_); clear k K) | ((first | refine zU ?_ | refine zV ?_ | refine zW ?_); intro A B C D a b c d; simp only [↓yG, Nat.reduceEqDiff, ↓reduceIte, g5, mr (sX.trans u0), ms (sX.trans u0), mM u0, mX u0]; (first | refine zX (a ?_) | refine zY (b ?_) | refine zZ (fun hc => c ?_) (fun hc => d ?_)) <;> clear a b c d A B C D <;> try simp only [yL] at hc) | (refine yA ?_; intro A a; simp only [↓yG, Nat.reduceEqDiff, ↓reduceIte, g5, mr (sX.trans u0), ms (sX.trans u0), mM u0, mX u0]; refine yB (a ?_); clear a A) | (refine yD ?_; simp only [gresults, ↓yG, Nat.reduceEqDiff, ↓reduceIte, Option.bind_some, gld_1, gld_n, g5, mr (sX.trans u0), ms (sX.trans u0), mM u0, mX u0]; refine ⟨_, rfl, ?_⟩; simp only [gone]))
  refine Gw_s fun K' hK' => G1_callM (by simp only [gtarget, ↓GArg.ev, ↓evs, ↓Tr.get_set, Nat.reduceEqDiff, if_true, if_false, ↓reduceIte, Option.map_some]; rfl) (plain_ok (wf_up u0.wf) (aM u0).up (by omega) (by omega)) fun r4 K4 hq => hK' _ _ ?_
  obtain ⟨rfl, hS⟩ := hq
  have s4a := u0.trans (Same.down u0.wf hS)
  have i4 := Same.down u0.wf hS
  generalize K4.down HX.lim = L4 at s4a i4 ⊢
  clear hS
  have hpl : plainF M = plainF A := by
    rw [plainF_chars hokM, plainF_chars hok, hmc, List.flatMap_append, List.flatMap_append]
    conv => rhs; rw [← List.take_append_drop J (charsR A)]
    rw [List.flatMap_append]
    congr 1
    have h1 : (charsR A).take J = (charsR A).take I ++ ((charsR A).take J).drop I := by
      have := List.take_append_drop I ((charsR A).take J)
      rw [List.take_take, Nat.min_eq_left (by omega)] at this
      exact this.symm
    conv => rhs; rw [h1]
    rw [List.flatMap_append, List.flatMap_map]
  rw [hpl]
  repeat' (first | (exfalso; omega) | refine zA ?_ | refine zB ?_ | refine zC ?_ | refine zD ?_ | refine zE ?_ | refine zF ?_ | refine zG ?_ | refine zH ?_ | refine zI ?_ | refine zJ ?_ | refine zK rfl ?_ | refine zL ?_ | refine zM ?_ | refine zN ?_ | refine zO ?_ | refine zP rfl ?_ | refine zQ ?_ | ((first | refine zR ?_ | refine zS ?_ | refine zT ?_ | skip); intro K k; simp (disch := (first | (simp only [yD2, beq_self_eq_true, Nat.reduceLT, Nat.reduceAdd]; done) | ((fail_if_success (apply Bool.eq_iff_iff.2)); first | omega | (simp only [yD2, beq_self_eq_true, Nat.reduceLT, Nat.reduceAdd] <;> omega)) | fail)) only [↓yS, yT, ↓reduceIte, Nat.reduceEqDiff, Nat.reduceAdd, Nat.reduceMul, reduceCtorEq, Int.reduceToNat, g5, mr (sX.trans s4a), ms (sX.trans s4a), mM s4a, mX s4a]; refine yC (k _ _ ?_); clear k K) | ((first | refine zU ?_ | refine zV ?_ | refine zW ?_); intro A B C D a b c d; simp only [↓yG, Nat.reduceEqDiff, ↓reduceIte, g5, mr (sX.trans s4a), ms (sX.trans s4a), mM s4a, mX s4a]; (first | refine zX (a ?_) | refine zY (b ?_) | refine zZ (fun hc => c ?_) (fun hc => d ?_)) <;> clear a b c d A B C D <;> try simp only [yL] at hc) | (refine yA ?_; intro A a; simp only [↓yG, Nat.reduceEqDiff, ↓reduceIte, g5, mr (sX.trans s4a), ms (sX.trans s4a), mM s4a, mX s4a]; refine yB (a ?_); clear a A) | (refine yD ?_; simp only [gresults, ↓yG, Nat.reduceEqDiff, ↓reduceIte, Option.bind_some, gld_1, gld_n, g5, mr (sX.trans s4a), ms (sX.trans s4a), mM s4a, mX s4a]; refine ⟨_, rfl, ?_⟩; simp only [gone]))
  refine Gw_s fun K' hK' => G1_callM (by simp only [gtarget, ↓GArg.ev, ↓evs, ↓Tr.get_set, Nat.reduceEqDiff, if_true, if_false, ↓reduceIte, Option.map_some]; rfl) (plain_ok (wf_up s4a.wf) (aA (sX.trans s4a)).up (by omega) (by omega)) fun r5 K5 hq => hK' _ _ ?_
  obtain ⟨rfl, hS⟩ := hq
  have s5a := s4a.trans (Same.down s4a.wf hS)
  have i5 := Same.down s4a.wf hS
  generalize K5.down L4.lim = L5 at s5a i5 ⊢
  clear hS
  have hneq := fun e => gb_neqB (e := e) (a := plainF A) (b := plainF A)
  simp only [not_true_eq_false, decide_false] at hneq
  repeat' (first | (exfalso; omega) | refine zA ?_ | refine zB ?_ | refine zC ?_ | refine zD ?_ | refine zE ?_ | refine zF ?_ | refine zG ?_ | refine zH ?_ | refine zI ?_ | refine zJ ?_ | refine zK rfl ?_ | refine zL ?_ | refine zM ?_ | refine zN ?_ | refine zO ?_ | refine zP rfl ?_ | refine zQ ?_ | ((first | refine zR ?_ | refine zS ?_ | refine zT ?_ | skip); intro K k; simp (disch := (first | (simp only [yD2, beq_self_eq_true, Nat.reduceLT, Nat.reduceAdd]; done) | ((fail_if_success (apply Bool.eq_iff_iff.2)); first | omega | (simp only [yD2, beq_self_eq_true, Nat.reduceLT, Nat.reduceAdd] <;> omega)) | fail)) only [↓yS, yT, ↓reduceIte, Nat.reduceEqDiff, Nat.reduceAdd, Nat.reduceMul, reduceCtorEq, Int.reduceToNat, g5, mr (sX.trans s5a), ms (sX.trans s5a), mM s5a, mX s5a, hneq]; refine yC (k _ _ ?_); clear k K) | ((first | refine zU ?_ | refine zV ?_ | refine zW ?_); intro A B C D a b c d; simp only [↓yG, Nat.reduceEqDiff, ↓reduceIte, g5, mr (sX.trans s5a), ms (sX.trans s5a), mM s5a, mX s5a, hneq]; (first | refine zX (a ?_) | refine zY (b ?_) | refine zZ (fun hc => c ?_) (fun hc => d ?_)) <;> clear a b c d A B C D <;> try simp only [yL] at hc) | (refine yA ?_; intro A a; simp only [↓yG, Nat.reduceEqDiff, ↓reduceIte, g5, mr (sX.trans s5a), ms (sX.trans s5a), mM s5a, mX s5a, hneq]; refine yB (a ?_); clear a A) | (refine yD ?_; simp only [gresults, ↓yG, Nat.reduceEqDiff, ↓reduceIte, Option.bind_some, gld_1, gld_n, g5, mr (sX.trans s5a), ms (sX.trans s5a), mM s5a, mX s5a, hneq]; refine ⟨_, rfl, ?_⟩; simp only [gone]))
  intro K' hK'; refine G1_callM (by simp only [gtarget, ↓GArg.ev, ↓evs, ↓Tr.get_set, Nat.reduceEqDiff, if_true, if_false, ↓reduceIte, Option.map_some]; rfl) (Len_ok (wf_up s5a.wf) (aX s5a).up (by omega) (by omega)) fun r6 K6 hq => hK' _ _ ?_
  obtain ⟨rfl, hS⟩ := hq
  have s6a := s5a.trans (Same.down s5a.wf hS)
  have i6 := Same.down s5a.wf hS
  generalize K6.down L5.lim = L6 at s6a i6 ⊢
  clear hS
  have hlX : lenF X = (n : Int) - ((J : Int) - (I : Int)) + 2 := by rw [lenF_ok hokX, hxl]; omega
  rw [hlX]
  repeat' (first | (exfalso; omega) | refine zA ?_ | refine zB ?_ | refine zC ?_ | refine zD ?_ | refine zE ?_ | refine zF ?_ | refine zG ?_ | refine zH ?_ | refine zI ?_ | refine zJ ?_ | refine zK rfl ?_ | refine zL ?_ | refine zM ?_ | refine zN ?_ | refine zO ?_ | refine zP rfl ?_ | refine zQ ?_ | ((first | refine zR ?_ | refine zS ?_ | refine zT ?_ | skip); intro K k; simp (disch := (first | (simp only [yD2, beq_self_eq_true, Nat.reduceLT, Nat.reduceAdd]; done) | ((fail_if_success (apply Bool.eq_iff_iff.2)); first | omega | (simp only [yD2, beq_self_eq_true, Nat.reduceLT, Nat.reduceAdd] <;> omega)) | fail)) only [↓yS, yT, ↓reduceIte, Nat.reduceEqDiff, Nat.reduceAdd, Nat.reduceMul, reduceCtorEq, Int.reduceToNat, g5, mr (sX.trans s6a), ms (sX.trans s6a), mM s6a, mX s6a, neI_self]; refine yC (k _ _ ?_); clear k K) | ((first | refine zU ?_ | refine zV ?_ | refine zW ?_); intro A B C D a b c d; simp only [↓yG, Nat.reduceEqDiff, ↓reduceIte, g5, mr (sX.trans s6a), ms (sX.trans s6a), mM s6a, mX s6a, neI_self]; (first | refine zX (a ?_) | refine zY (b ?_) | refine zZ (fun hc => c ?_) (fun hc => d ?_)) <;> clear a b c d A B C D <;> try simp only [yL] at hc) | (refine yA ?_; intro A a; simp only [↓yG, Nat.reduceEqDiff, ↓reduceIte, g5, mr (sX.trans s6a), ms (sX.trans s6a), mM s6a, mX s6a, neI_self]; refine yB (a ?_); clear a A) | (refine yD ?_; simp only [gresults, ↓yG, Nat.reduceEqDiff, ↓reduceIte, Option.bind_some, gld_1, gld_n, g5, mr (sX.trans s6a), ms (sX.trans s6a), mM s6a, mX s6a, neI_self]; refine ⟨_, rfl, ?_⟩; simp only [gone]))
  refine GW_loop (fun k fr Hk => ∃ (j : Nat), k = n - j ∧ j ≤ n ∧ fr.get 3 = some (.pointer (some ⟨H.len, 0, none⟩)) ∧ fr.get 5 = some (.pointer (some ⟨H.len + 1, 0, none⟩)) ∧ fr.get 8 = some (.int .i64 I) ∧ fr.get 9 = some (.int .i64 J) ∧ fr.get 10 = some (.pointer (some ⟨K2.len, 0, none⟩)) ∧ fr.get 11 = some (.pointer (some ⟨K3.len, 0, none⟩)) ∧ fr.get 69 = some (.int .i64 n) ∧ fr.get 70 = some (.int .i64 j) ∧ Same HX Hk) ?_ n ?_
  rotate_left
  · refine ⟨0, by omega, by omega, ?_⟩
    simp only [↓yG, Nat.reduceEqDiff, ↓reduceIte, Int.natCast_add, Int.cast_ofNat_Int, Int.natCast_zero, true_and, and_true, Option.some.injEq, Value.int.injEq]
    exact s6a
  rintro k fr H1 ⟨j, rfl, hj, f3, f5, f8, f9, f10, f11, f69, f70, v0⟩ Jt hJt
  by_cases hj1 : j < n
  · have hjl : (charsR A)[j]? = some (charsR A)[j]! := gget (by omega)
    have hat : atF A (j : Int) = some (charsR A)[j]! := by rw [atF_ok hok (by omega), Int.toNat_natCast]; exact hjl
    have ham : atF M (j : Int) = some (if I ≤ j ∧ j < J then ((charsR A)[j]!.1, s) else (charsR A)[j]!) := by rw [atF_ok hokM (by omega), Int.toNat_natCast]; exact hma (by omega)
    obtain ⟨hx1, hx2⟩ := hxa j (by omega)
    generalize (charsR A)[j]! = cs at *
    obtain ⟨cA, sA, bA, pA, qA⟩ := at_var (X := A) (i := (j : Int)) (by omega) (by omega) (by omega)
    obtain ⟨rfl, rfl, rfl⟩ := qA _ hat
    obtain ⟨cM, sM, bM2, pM, qM⟩ := at_var (X := M) (i := (j : Int)) (by omega) (by omega) (by omega)
    obtain ⟨eM1, eM2, rfl⟩ := qM _ ham
    have hcM : cM = (cs.1 : Nat) := by rw [eM1]; split <;> rfl
    clear eM1
    subst hcM
    have three : j < I ∨ (I ≤ j ∧ j < J) ∨ J ≤ j := by omega
    rcases three with hc0 | hc0 | hc0
    case' inl =>
      have hsM : sM = cs.2 := by rw [eM2, if_neg (by omega)]
      have eV : gbin .neq (some (.parts [(0, none, .int), (1, none, .bool), (2, none, .bool)])) (syV sM) (syV cs.2) = some (.bool false) := neS_of hsM
      obtain ⟨cX, sXx, bX2, pX, qX⟩ := at_var (X := X) (i := (j : Int)) (by omega) (by omega) (by omega)
      obtain ⟨eX1, eX2, eX3⟩ := qX cs (by rw [atF_ok hokX (by omega)]; rw [Int.toNat_natCast]; exact hx1 hc0)
      have fX1 := fun e k => neI_of (e := e) (k := k) eX1
      have fX2 := neS_of eX2
    case' inr.inl =>
      have hsM : sM = s := by rw [eM2, if_pos (by omega)]
      have eV : gbin .neq (some (.parts [(0, none, .int), (1, none, .bool), (2, none, .bool)])) (syV sM) (syV s) = some (.bool false) := neS_of hsM
      obtain ⟨cX, sXx, bX2, pX, qX⟩ := at_var (X := X) (i := (j : Int)) (by omega) (by omega) (by omega)
      have fX1 := True.intro
      have fX2 := True.intro
      have eX3 := True.intro
    case' inr.inr =>
      have hsM : sM = cs.2 := by rw [eM2, if_neg (by omega)]
      have eV : gbin .neq (some (.parts [(0, none, .int), (1, none, .bool), (2, none, .bool)])) (syV sM) (syV cs.2) = some (.bool false) := neS_of hsM
      obtain ⟨cX, sXx, bX2, pX, qX⟩ := at_var (X := X) (i := ((j : Int) - ((J : Int) - (I : Int)) + 2)) (by omega) (by omega) (by omega)
      obtain ⟨eX1, eX2, eX3⟩ := qX cs (by rw [atF_ok hokX (by omega)]; rw [show ((j : Int) - ((J : Int) - (I : Int)) + 2).toNat = j - (J - I) + 2 from by omega]; exact hx2 hc0)
      have fX1 := fun e k => neI_of (e := e) (k := k) eX1
      have fX2 := neS_of eX2
    all_goals
      repeat' (first | (exfalso; omega) | refine zA ?_ | refine zB ?_ | refine zC ?_ | refine zD ?_ | refine zE ?_ | refine zF ?_ | refine zG ?_ | refine zH ?_ | refine zI ?_ | refine zJ ?_ | refine zK rfl ?_ | refine zL ?_ | refine zM ?_ | refine zN ?_ | refine zO ?_ | refine zP rfl ?_ | refine zQ ?_ | ((first | refine zR ?_ | refine zS ?_ | refine zT ?_ | skip); intro K k; simp (disch := (first | (simp only [yD2, beq_self_eq_true, Nat.reduceLT, Nat.reduceAdd]; done) | ((fail_if_success (apply Bool.eq_iff_iff.2)); first | omega | (simp only [yD2, beq_self_eq_true, Nat.reduceLT, Nat.reduceAdd] <;> omega)) | fail)) only [↓yS, yT, ↓reduceIte, Nat.reduceEqDiff, Nat.reduceAdd, Nat.reduceMul, reduceCtorEq, Int.reduceToNat, g5, f3, f5, f8, f9, f10, f11, f69, f70, mr (sX.trans v0), ms (sX.trans v0), mM v0, mX v0]; refine yC (k _ _ ?_); clear k K) | ((first | refine zU ?_ | refine zV ?_ | refine zW ?_); intro A B C D a b c d; simp only [↓yG, Nat.reduceEqDiff, ↓reduceIte, g5, f3, f5, f8, f9, f10, f11, f69, f70, mr (sX.trans v0), ms (sX.trans v0), mM v0, mX v0]; (first | refine zX (a ?_) | refine zY (b ?_) | refine zZ (fun hc => c ?_) (fun hc => d ?_)) <;> clear a b c d A B C D <;> try simp only [yL] at hc) | (refine yA ?_; intro A a; simp only [↓yG, Nat.reduceEqDiff, ↓reduceIte, g5, f3, f5, f8, f9, f10, f11, f69, f70, mr (sX.trans v0), ms (sX.trans v0), mM v0, mX v0]; refine yB (a ?_); clear a A) | (refine yD ?_; simp only [gresults, ↓yG, Nat.reduceEqDiff, ↓reduceIte, Option.bind_some, gld_1, gld_n, g5, f3, f5, f8, f9, f10, f11, f69, f70, mr (sX.trans v0), ms (sX.trans v0), mM v0, mX v0]; refine ⟨_, rfl, ?_⟩; simp only [gone]))
      refine Gw_s fun K' hK' => G1_call (by simp only [gtarget, ↓GArg.ev, ↓evs, ↓Tr.get_set, Nat.reduceEqDiff, if_true, if_false, ↓reduceIte, Option.map_some, f3, f5, f8, f9, f10, f11, f69, f70]; rfl) (pA v0.wf (aA (sX.trans v0))) fun r7 K7 hq => hK' _ _ ?_
      obtain ⟨rfl, hS⟩ := hq
      have s7a := v0.trans hS
      have i7 := hS
      clear hS
      have t7 : Same K7 (styH K7 cs.2) := styH_same s7a.wf _
      have hh7 : (K7.add (some (.cells (syC syZ) 0 true))).put K7.len (.cells (syC cs.2) 0 true) = styH K7 cs.2 := rfl
      have p7 := styH_rdn (H := K7) cs.2
      have pl7 := styH_len (H := K7) cs.2
      have hlm7 := s7a.wf.1
      have z7 := s7a.trans t7
      repeat' (first | (exfalso; omega) | refine zA ?_ | refine zB ?_ | refine zC ?_ | refine zD ?_ | refine zE ?_ | refine zF ?_ | refine zG ?_ | refine zH ?_ | refine zI ?_ | refine zJ ?_ | refine zK rfl ?_ | refine zL ?_ | refine zM ?_ | refine zN ?_ | refine zO ?_ | refine zP rfl ?_ | refine zQ ?_ | ((first | refine zR ?_ | refine zS ?_ | refine zT ?_ | skip); intro K k; simp (disch := (first | (simp only [yD2, beq_self_eq_true, Nat.reduceLT, Nat.reduceAdd]; done) | ((fail_if_success (apply Bool.eq_iff_iff.2)); first | omega | (simp only [yD2, beq_self_eq_true, Nat.reduceLT, Nat.reduceAdd] <;> omega)) | fail)) only [↓yS, yT, ↓reduceIte, Nat.reduceEqDiff, Nat.reduceAdd, Nat.reduceMul, reduceCtorEq, Int.reduceToNat, g5, f3, f5, f8, f9, f10, f11, f69, f70, hzc, RN, gsetn_z, hh7, mM z7, mX z7]; refine yC (k _ _ ?_); clear k K) | ((first | refine zU ?_ | refine zV ?_ | refine zW ?_); intro A B C D a b c d; simp only [↓yG, Nat.reduceEqDiff, ↓reduceIte, g5, f3, f5, f8, f9, f10, f11, f69, f70, hzc, RN, gsetn_z, hh7, mM z7, mX z7]; (first | refine zX (a ?_) | refine zY (b ?_) | refine zZ (fun hc => c ?_) (fun hc => d ?_)) <;> clear a b c d A B C D <;> try simp only [yL] at hc) | (refine yA ?_; intro A a; simp only [↓yG, Nat.reduceEqDiff, ↓reduceIte, g5, f3, f5, f8, f9, f10, f11, f69, f70, hzc, RN, gsetn_z, hh7, mM z7, mX z7]; refine yB (a ?_); clear a A) | (refine yD ?_; simp only [gresults, ↓yG, Nat.reduceEqDiff, ↓reduceIte, Option.bind_some, gld_1, gld_n, g5, f3, f5, f8, f9, f10, f11, f69, f70, hzc, RN, gsetn_z, hh7, mM z7, mX z7]; refine ⟨_, rfl, ?_⟩; simp only [gone]))
      generalize styH K7 cs.2 = G7 at *
      have yA1 : ∀ {H'}, Same G7 H' → H'.rdn K7.len 0 3 = some (syV cs.2) := fun hs => by rw [hs.rdn (by omega)]; exact p7
      refine Gw_s fun K' hK' => G1_call (by simp only [gtarget, ↓GArg.ev, ↓evs, ↓Tr.get_set, Nat.reduceEqDiff, if_true, if_false, ↓reduceIte, Option.map_some, f3, f5, f8, f9, f10, f11, f69, f70]; rfl) (pM z7.wf (aM z7)) fun r8 K8 hq => hK' _ _ ?_
      obtain ⟨rfl, hS⟩ := hq
      have s8a := z7.trans hS
      have i8 := hS
      clear hS
      have t8 : Same K8 (styH K8 sM) := styH_same s8a.wf _
      have hh8 : (K8.add (some (.cells (syC syZ) 0 true))).put K8.len (.cells (syC sM) 0 true) = styH K8 sM := rfl
      have p8 := styH_rdn (H := K8) sM
      have pl8 := styH_len (H := K8) sM
      have hlm8 := s8a.wf.1
      have z8 := s8a.trans t8
      repeat' (first | (exfalso; omega) | refine zA ?_ | refine zB ?_ | refine zC ?_ | refine zD ?_ | refine zE ?_ | refine zF ?_ | refine zG ?_ | refine zH ?_ | refine zI ?_ | refine zJ ?_ | refine zK rfl ?_ | refine zL ?_ | refine zM ?_ | refine zN ?_ | refine zO ?_ | refine zP rfl ?_ | refine zQ ?_ | ((first | refine zR ?_ | refine zS ?_ | refine zT ?_ | skip); intro K k; simp (disch := (first | (simp only [yD2, beq_self_eq_true, Nat.reduceLT, Nat.reduceAdd]; done) | ((fail_if_success (apply Bool.eq_iff_iff.2)); first | omega | (simp only [yD2, beq_self_eq_true, Nat.reduceLT, Nat.reduceAdd] <;> omega)) | fail)) only [↓yS, yT, ↓reduceIte, Nat.reduceEqDiff, Nat.reduceAdd, Nat.reduceMul, reduceCtorEq, Int.reduceToNat, g5, f3, f5, f8, f9, f10, f11, f69, f70, hzc, RN, gsetn_z, hh8, mM z8, mX z8]; refine yC (k _ _ ?_); clear k K) | ((first | refine zU ?_ | refine zV ?_ | refine zW ?_); intro A B C D a b c d; simp only [↓yG, Nat.reduceEqDiff, ↓reduceIte, g5, f3, f5, f8, f9, f10, f11, f69, f70, hzc, RN, gsetn_z, hh8, mM z8, mX z8]; (first | refine zX (a ?_) | refine zY (b ?_) | refine zZ (fun hc => c ?_) (fun hc => d ?_)) <;> clear a b c d A B C D <;> try simp only [yL] at hc) | (refine yA ?_; intro A a; simp only [↓yG, Nat.reduceEqDiff, ↓reduceIte, g5, f3, f5, f8, f9, f10, f11, f69, f70, hzc, RN, gsetn_z, hh8, mM z8, mX z8]; refine yB (a ?_); clear a A) | (refine yD ?_; simp only [gresults, ↓yG, Nat.reduceEqDiff, ↓reduceIte, Option.bind_some, gld_1, gld_n, g5, f3, f5, f8, f9, f10, f11, f69, f70, hzc, RN, gsetn_z, hh8, mM z8, mX z8]; refine ⟨_, rfl, ?_⟩; simp only [gone]))
      generalize styH K8 sM = G8 at *
      have yA2 := yA1 (i8.trans t8)
      have yM1 : ∀ {H'}, Same G8 H' → H'.rdn K8.len 0 3 = some (syV sM) := fun hs => by rw [hs.rdn (by omega)]; exact p8
      have yM2 := yM1 (Same.refl z8.wf)
      repeat' (first | (exfalso; omega) | refine zA ?_ | refine zB ?_ | refine zC ?_ | refine zD ?_ | refine zE ?_ | refine zF ?_ | refine zG ?_ | refine zH ?_ | refine zI ?_ | refine zJ ?_ | refine zK rfl ?_ | refine zL ?_ | refine zM ?_ | refine zN ?_ | refine zO ?_ | refine zP rfl ?_ | refine zQ ?_ | ((first | refine zR ?_ | refine zS ?_ | refine zT ?_ | skip); intro K k; simp (disch := (first | (simp only [yD2, beq_self_eq_true, Nat.reduceLT, Nat.reduceAdd]; done) | ((fail_if_success (apply Bool.eq_iff_iff.2)); first | omega | (simp only [yD2, beq_self_eq_true, Nat.reduceLT, Nat.reduceAdd] <;> omega)) | fail)) only [↓yS, yT, ↓reduceIte, Nat.reduceEqDiff, Nat.reduceAdd, Nat.reduceMul, reduceCtorEq, Int.reduceToNat, g5, f3, f5, f8, f9, f10, f11, f69, f70, mr (sX.trans z8), ms (sX.trans z8), mM z8, mX z8, neI_self, yA2, yM2, eV]; refine yC (k _ _ ?_); clear k K) | ((first | refine zU ?_ | refine zV ?_ | refine zW ?_); intro A B C D a b c d; simp only [↓yG, Nat.reduceEqDiff, ↓reduceIte, g5, f3, f5, f8, f9, f10, f11, f69, f70, mr (sX.trans z8), ms (sX.trans z8), mM z8, mX z8, neI_self, yA2, yM2, eV]; (first | refine zX (a ?_) | refine zY (b ?_) | refine zZ (fun hc => c ?_) (fun hc => d ?_)) <;> clear a b c d A B C D <;> try simp only [yL] at hc) | (refine yA ?_; intro A a; simp only [↓yG, Nat.reduceEqDiff, ↓reduceIte, g5, f3, f5, f8, f9, f10, f11, f69, f70, mr (sX.trans z8), ms (sX.trans z8), mM z8, mX z8, neI_self, yA2, yM2, eV]; refine yB (a ?_); clear a A) | (refine yD ?_; simp only [gresults, ↓yG, Nat.reduceEqDiff, ↓reduceIte, Option.bind_some, gld_1, gld_n, g5, f3, f5, f8, f9, f10, f11, f69, f70, mr (sX.trans z8), ms (sX.trans z8), mM z8, mX z8, neI_self, yA2, yM2, eV]; refine ⟨_, rfl, ?_⟩; simp only [gone]))
      refine Gw_s fun K' hK' => G1_call (by simp only [gtarget, ↓GArg.ev, ↓evs, ↓Tr.get_set, Nat.reduceEqDiff, if_true, if_false, ↓reduceIte, Option.map_some, f3, f5, f8, f9, f10, f11, f69, f70]; rfl) (pX z8.wf (aX z8)) fun r9 K9 hq => hK' _ _ ?_
      obtain ⟨rfl, hS⟩ := hq
      have s9a := z8.trans hS
      have i9 := hS
      clear hS
      have t9 : Same K9 (styH K9 sXx) := styH_same s9a.wf _
      have hh9 : (K9.add (some (.cells (syC syZ) 0 true))).put K9.len (.cells (syC sXx) 0 true) = styH K9 sXx := rfl
      have p9 := styH_rdn (H := K9) sXx
      have hlm9 := s9a.wf.1
      have z9 := s9a.trans t9
      have yA3 := yA1 ((i8.trans t8).trans (i9.trans t9))
      repeat' (first | (exfalso; omega) | refine zA ?_ | refine zB ?_ | refine zC ?_ | refine zD ?_ | refine zE ?_ | refine zF ?_ | refine zG ?_ | refine zH ?_ | refine zI ?_ | refine zJ ?_ | refine zK rfl ?_ | refine zL ?_ | refine zM ?_ | refine zN ?_ | refine zO ?_ | refine zP rfl ?_ | refine zQ ?_ | ((first | refine zR ?_ | refine zS ?_ | refine zT ?_ | skip); intro K k; simp (disch := (first | (simp only [yD2, beq_self_eq_true, Nat.reduceLT, Nat.reduceAdd]; done) | ((fail_if_success (apply Bool.eq_iff_iff.2)); first | omega | (simp only [yD2, beq_self_eq_true, Nat.reduceLT, Nat.reduceAdd] <;> omega)) | fail)) only [↓yS, yT, ↓reduceIte, Nat.reduceEqDiff, Nat.reduceAdd, Nat.reduceMul, reduceCtorEq, Int.reduceToNat, g5, f3, f5, f8, f9, f10, f11, f69, f70, hzc, RN, gsetn_z, hh9, p9, yA3, fX1, fX2, eX3]; refine yC (k _ _ ?_); clear k K) | ((first | refine zU ?_ | refine zV ?_ | refine zW ?_); intro A B C D a b c d; simp only [↓yG, Nat.reduceEqDiff, ↓reduceIte, g5, f3, f5, f8, f9, f10, f11, f69, f70, hzc, RN, gsetn_z, hh9, p9, yA3, fX1, fX2, eX3]; (first | refine zX (a ?_) | refine zY (b ?_) | refine zZ (fun hc => c ?_) (fun hc => d ?_)) <;> clear a b c d A B C D <;> try simp only [yL] at hc) | (refine yA ?_; intro A a; simp only [↓yG, Nat.reduceEqDiff, ↓reduceIte, g5, f3, f5, f8, f9, f10, f11, f69, f70, hzc, RN, gsetn_z, hh9, p9, yA3, fX1, fX2, eX3]; refine yB (a ?_); clear a A) | (refine yD ?_; simp only [gresults, ↓yG, Nat.reduceEqDiff, ↓reduceIte, Option.bind_some, gld_1, gld_n, g5, f3, f5, f8, f9, f10, f11, f69, f70, hzc, RN, gsetn_z, hh9, p9, yA3, fX1, fX2, eX3]; refine ⟨_, rfl, ?_⟩; simp only [gone]))
      refine hJt _ _ ⟨n - (j + 1), by omega, j + 1, rfl, by omega, ?_⟩
      simp only [↓yG, Nat.reduceEqDiff, ↓reduceIte, Int.natCast_add, Int.cast_ofNat_Int, Int.natCast_zero, true_and, and_true, Option.some.injEq, Value.int.injEq, f3, f5, f8, f9, f10, f11, f69]
      exact z9
  · obtain rfl : j = n := by omega
    repeat' (first | (exfalso; omega) | refine zA ?_ | refine zB ?_ | refine zC ?_ | refine zD ?_ | refine zE ?_ | refine zF ?_ | refine zG ?_ | refine zH ?_ | refine zI ?_ | refine zJ ?_ | refine zK rfl ?_ | refine zL ?_ | refine zM ?_ | refine zN ?_ | refine zO ?_ | refine zP rfl ?_ | refine zQ ?_ | ((first | refine zR ?_ | refine zS ?_ | refine zT ?_ | skip); intro K k; simp (disch := (first | (simp only [yD2, beq_self_eq_true, Nat.reduceLT, Nat.reduceAdd]; done) | ((fail_if_success (apply Bool.eq_iff_iff.2)); first | omega | (simp only [yD2, beq_self_eq_true, Nat.reduceLT, Nat.reduceAdd] <;> omega)) | fail)) only [↓yS, yT, ↓reduceIte, Nat.reduceEqDiff, Nat.reduceAdd, Nat.reduceMul, reduceCtorEq, Int.reduceToNat, g5, f3, f5, f8, f9, f10, f11, f69, f70]; refine yC (k _ _ ?_); clear k K) | ((first | refine zU ?_ | refine zV ?_ | refine zW ?_); intro A B C D a b c d; simp only [↓yG, Nat.reduceEqDiff, ↓reduceIte, g5, f3, f5, f8, f9, f10, f11, f69, f70]; (first | refine zX (a ?_) | refine zY (b ?_) | refine zZ (fun hc => c ?_) (fun hc => d ?_)) <;> clear a b c d A B C D <;> try simp only [yL] at hc) | (refine yA ?_; intro A a; simp only [↓yG, Nat.reduceEqDiff, ↓reduceIte, g5, f3, f5, f8, f9, f10, f11, f69, f70]; refine yB (a ?_); clear a A) | (refine yD ?_; simp only [gresults, ↓yG, Nat.reduceEqDiff, ↓reduceIte, Option.bind_some, gld_1, gld_n, g5, f3, f5, f8, f9, f10, f11, f69, f70]; refine ⟨_, rfl, ?_⟩; simp only [gone]))
    exact hPost _ _ rfl
theorem marks_law {H : GHeap} (hw : H.wf) {gvs : List Value} (h : RdAsQ (fun m => m ≤ 1048576) H [.st [.sl runShp], .int .u8, .st [.int .u8, .bool, .bool]] gvs) : ∃ v H2, gev G 5 gvs H = some (v, H2) ∧ v = .bool true := by
  obtain ⟨_, _, rfl, h1, _, _, rfl, h2, _, _, rfl, h3, rfl⟩ := h
  obtain ⟨a, A, rfl, ha⟩ := argR_of h1
  obtain ⟨i, rfl, hi⟩ := h2.int_
  have hi2 := wf_u8 hi
  simp only [RdAQ, RdSsQ, RdSQ] at h3
  obtain ⟨gs, rfl, _, _, rfl, ⟨c, rfl, _⟩, _, _, rfl, ⟨b1, rfl⟩, _, _, rfl, ⟨b2, rfl⟩, rfl⟩ := h3
  obtain ⟨n, rfl⟩ : ∃ n : Nat, i = n := ⟨i.toNat, by omega⟩
  exact marks_ok hw ha (i := n) (s := ⟨c, b1, b2⟩) (by omega)
end Go.Gh
