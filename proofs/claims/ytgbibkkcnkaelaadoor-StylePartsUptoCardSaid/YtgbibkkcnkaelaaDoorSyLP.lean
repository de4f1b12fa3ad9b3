/-
  The law StyleParts, walked.
-/
import Derived.Test.YtgbibkkcnkaelaaDoorSyP5
namespace Go.Gh
set_option linter.unusedSimpArgs false
set_option linter.unusedVariables false
open Go.RowKit
set_option maxRecDepth 4000

def atC : Option (Nat × Sy) → Int
  | some (c, _) => c
  | none => 0
def atS : Option (Nat × Sy) → Sy
  | some (_, s) => s
  | none => syZ
theorem atV_eq (o : Option (Nat × Sy)) : atV o = .tuple #[.int .i32 (atC o), syV (atS o), .bool o.isSome] := by
  cases o with
  | none => rfl
  | some p => cases p; rfl
theorem neS_self {a : Sy} : gbin .neq (some (.parts [(0, none, .int), (1, none, .bool), (2, none, .bool)])) (syV a) (syV a) = some (.bool false) := by rw [gb_neS']; simp
theorem neI_self {e : Option EqK} {k : IntKind} {a : Int} : gbin .neq e (.int k a) (.int k a) = some (.bool false) := by rw [gb_neq']; simp
theorem neB_self {a : Bool} : gbin .neq (some .bool) (.bool a) (.bool a) = some (.bool false) := by cases a <;> rfl
theorem replaceF_tot (l : List SR) (i j : Int) (t : List UInt8) : (replaceF l i j t).length ≤ 2 * l.length + 1 := by
  unfold replaceF
  split
  · simp
  · refine Nat.le_trans (normF_tot _).2 ?_
    rw [List.length_append]
    have h1 := (normF_tot (sliceF l 0 (limI (lenF l) i) ++ normF [⟨t, styF l (limI (lenF l) i) (limJ (lenF l) i j), []⟩])).2
    have h2 := (sliceF_tot l 0 (limI (lenF l) i)).2
    have h3 := (sliceF_tot l (limJ (lenF l) i j) (lenF l)).2
    have h4 := (normF_tot [(⟨t, styF l (limI (lenF l) i) (limJ (lenF l) i j), []⟩ : SR)]).2
    simp only [List.length_append, List.length_cons, List.length_nil] at h1 h4
    omega
theorem markF_tot (l : List SR) (i j : Int) (s : Sy) : (markF l i j s).length ≤ 3 * l.length := by
  unfold markF
  split
  · simp
  · refine Nat.le_trans (normF_tot _).2 ?_
    rw [List.length_append]
    have h1 := (normF_tot (sliceF l 0 (limI (lenF l) i) ++ (sliceF l (limI (lenF l) i) (limJ (lenF l) i j)).map (inS s))).2
    have h2 := (sliceF_tot l 0 (limI (lenF l) i)).2
    have h3 := (sliceF_tot l (limJ (lenF l) i j) (lenF l)).2
    have h4 := (sliceF_tot l (limI (lenF l) i) (limJ (lenF l) i j)).2
    simp only [List.length_append, List.length_map] at h1
    omega
/-- a style's place in memory -/
def styH (H : GHeap) (s : Sy) : GHeap := (H.add (some (.cells (syC syZ) 0 true))).put H.len (.cells (syC s) 0 true)
theorem gsetn_z {s : Sy} : gsetn (syC syZ) 0 3 (syV s) = some (syC s) := gsetn_sy rfl
theorem styH_same {H : GHeap} (hw : H.wf) (s : Sy) : Same H (styH H s) := (Same.refl hw).new _ _
theorem styH_rdn {H : GHeap} (s : Sy) : (styH H s).rdn H.len 0 3 = some (syV s) := rdn_syp
theorem styH_len {H : GHeap} (s : Sy) : (styH H s).len = H.len + 1 := by rw [styH, len_put, len_add]
theorem styH_mine {H : GHeap} (hw : H.wf) (s : Sy) : (styH H s).mine H.len = some (syC s, 0) := mine_put_same (by rw [lim_add]; exact hw.1)
set_option maxHeartbeats 1000000 in
theorem parts_ok {H : GHeap} (hw : H.wf) {a : Value} {A : List SR} (ha : ArgR H a A) {i j : Int} (hi : -9223372036854775808 ≤ i ∧ i ≤ 9223372036854775807) (hj : -9223372036854775808 ≤ j ∧ j ≤ 9223372036854775807) :
    ∃ r H', gev G 3 [rowV a, .int .i64 i, .int .i64 j] H = some (r, H') ∧ r = .bool true := by
  refine gev_GW (f := 3) rfl fun Post hPost => ?_
  have hlim := hw.1
  have hf := ha.rr.flat
  have htA := ha.tot
  have hlA := ha.len
  have hsl := ha.rr.isSl
  have hsT := sliceF_tot A i j
  simp only [frameOf, Nat.reduceAdd]
  have hS0 : Same H (H.add (some (.cells [a] 0 true))) := (Same.refl hw).add _
  have kr : (H.add (some (.cells [a] 0 true))).rdn H.len 0 1 = some (rowV a) := rdn_add_all (n := 1) rfl rfl
  have k0 : (H.add (some (.cells [a] 0 true))).rd H.len 0 = some a := by rw [rd_add_eq rfl]; rfl
  have hl0 : (H.add (some (.cells [a] 0 true))).len = H.len + 1 := by rw [len_add]
  repeat' (first | refine zA ?_ | refine zB ?_ | refine zC ?_ | refine zD ?_ | refine zE ?_ | refine zF ?_ | refine zG ?_ | refine zH ?_ | refine zI ?_ | refine zJ ?_ | refine zK rfl ?_ | refine zL ?_ | refine zM ?_ | refine zN ?_ | refine zO ?_ | refine zP rfl ?_ | refine zQ ?_ | ((first | refine zR ?_ | refine zS ?_ | refine zT ?_ | skip); intro K k; simp (disch := (first | (simp only [yD2, beq_self_eq_true, Nat.reduceLT, Nat.reduceAdd]; done) | ((fail_if_success (apply Bool.eq_iff_iff.2)); first | omega | (simp only [yD2, beq_self_eq_true, Nat.reduceLT, Nat.reduceAdd] <;> omega)) | fail)) only [↓yS, yT, ↓reduceIte, Nat.reduceEqDiff, Nat.reduceAdd, Nat.reduceMul, reduceCtorEq, Int.reduceToNat, g3, rowV_eq, agg_all, agg_list, hf]; refine yC (k _ _ ?_); clear k K) | ((first | refine zU ?_ | refine zV ?_ | refine zW ?_); intro A B C D a b c d; simp only [↓yG, Nat.reduceEqDiff, ↓reduceIte, g3, rowV_eq, agg_all, agg_list, hf]; (first | refine zX (a ?_) | refine zY (b ?_) | refine zZ (fun hc => c ?_) (fun hc => d ?_)) <;> clear a b c d A B C D <;> try simp only [yL] at hc) | (refine yA ?_; intro A a; simp only [↓yG, Nat.reduceEqDiff, ↓reduceIte, g3, rowV_eq, agg_all, agg_list, hf]; refine yB (a ?_); clear a A) | (refine yD ?_; simp only [gresults, ↓yG, Nat.reduceEqDiff, ↓reduceIte, Option.bind_some, gld_1, gld_n, g3, rowV_eq, agg_all, agg_list, hf]; refine ⟨_, rfl, ?_⟩; simp only [gone]))
  generalize H.add (some (.cells [a] 0 true)) = Hb at *
  have mr : ∀ {H'}, Same Hb H' → H'.rdn H.len 0 1 = some (rowV a) := fun hs => by rw [hs.rdn (by omega)]; exact kr
  have m0 : ∀ {H'}, Same Hb H' → H'.rd H.len 0 = some a := fun hs => by rw [hs.rd (by omega)]; exact k0
  have aA : ∀ {H'}, Same Hb H' → RR H' a A := fun hs => ha.rr.later hw (hS0.trans hs)
  have hwb := hS0.wf
  refine Gw_s fun K' hK' => G1_call (by simp only [gtarget, ↓GArg.ev, ↓evs, ↓Tr.get_set, Nat.reduceEqDiff, if_true, if_false, ↓reduceIte, Option.map_some]; rfl) (one_of (awake_gev _)) fun r0 H0 hq => hK' _ _ ?_
  obtain ⟨rfl, rfl⟩ := hq
  have s0 := Same.refl hwb
  have hzc : [Value.int .u8 0, .bool false, .bool false] = syC syZ := rfl
  repeat' (first | (exfalso; omega) | refine zA ?_ | refine zB ?_ | refine zC ?_ | refine zD ?_ | refine zE ?_ | refine zF ?_ | refine zG ?_ | refine zH ?_ | refine zI ?_ | refine zJ ?_ | refine zK rfl ?_ | refine zL ?_ | refine zM ?_ | refine zN ?_ | refine zO ?_ | refine zP rfl ?_ | refine zQ ?_ | ((first | refine zR ?_ | refine zS ?_ | refine zT ?_ | skip); intro K k; simp (disch := (first | (simp only [yD2, beq_self_eq_true, Nat.reduceLT, Nat.reduceAdd]; done) | ((fail_if_success (apply Bool.eq_iff_iff.2)); first | omega | (simp only [yD2, beq_self_eq_true, Nat.reduceLT, Nat.reduceAdd] <;> omega)) | fail)) only [↓yS, yT, ↓reduceIte, Nat.reduceEqDiff, Nat.reduceAdd, Nat.reduceMul, reduceCtorEq, Int.reduceToNat, g3, mr s0]; refine yC (k _ _ ?_); clear k K) | ((first | refine zU ?_ | refine zV ?_ | refine zW ?_); intro A B C D a b c d; simp only [↓yG, Nat.reduceEqDiff, ↓reduceIte, g3, mr s0]; (first | refine zX (a ?_) | refine zY (b ?_) | refine zZ (fun hc => c ?_) (fun hc => d ?_)) <;> clear a b c d A B C D <;> try simp only [yL] at hc) | (refine yA ?_; intro A a; simp only [↓yG, Nat.reduceEqDiff, ↓reduceIte, g3, mr s0]; refine yB (a ?_); clear a A) | (refine yD ?_; simp only [gresults, ↓yG, Nat.reduceEqDiff, ↓reduceIte, Option.bind_some, gld_1, gld_n, g3, mr s0]; refine ⟨_, rfl, ?_⟩; simp only [gone]))
  refine Gw_s fun K' hK' => G1_call (by simp only [gtarget, ↓GArg.ev, ↓evs, ↓Tr.get_set, Nat.reduceEqDiff, if_true, if_false, ↓reduceIte, Option.map_some]; rfl) (at_ok s0.wf (aA s0) (by omega) (by omega) hi) fun r1 K1 hq => hK' _ _ ?_
  obtain ⟨rfl, hS⟩ := hq
  have s1a := s0.trans hS
  have i1 := hS
  clear hS
  rw [atV_eq]
  have t1 : Same K1 (styH K1 (atS (atF A i))) := styH_same s1a.wf _
  have hh1 : (K1.add (some (.cells (syC syZ) 0 true))).put K1.len (.cells (syC (atS (atF A i))) 0 true) = styH K1 (atS (atF A i)) := rfl
  have p1 := styH_rdn (H := K1) (atS (atF A i))
  have pl1 := styH_len (H := K1) (atS (atF A i))
  have hlm1 := s1a.wf.1
  have s8 := s1a.trans t1
  repeat' (first | (exfalso; omega) | refine zA ?_ | refine zB ?_ | refine zC ?_ | refine zD ?_ | refine zE ?_ | refine zF ?_ | refine zG ?_ | refine zH ?_ | refine zI ?_ | refine zJ ?_ | refine zK rfl ?_ | refine zL ?_ | refine zM ?_ | refine zN ?_ | refine zO ?_ | refine zP rfl ?_ | refine zQ ?_ | ((first | refine zR ?_ | refine zS ?_ | refine zT ?_ | skip); intro K k; simp (disch := (first | (simp only [yD2, beq_self_eq_true, Nat.reduceLT, Nat.reduceAdd]; done) | ((fail_if_success (apply Bool.eq_iff_iff.2)); first | omega | (simp only [yD2, beq_self_eq_true, Nat.reduceLT, Nat.reduceAdd] <;> omega)) | fail)) only [↓yS, yT, ↓reduceIte, Nat.reduceEqDiff, Nat.reduceAdd, Nat.reduceMul, reduceCtorEq, Int.reduceToNat, g3, hzc, RN, gsetn_z, hh1, mr s8]; refine yC (k _ _ ?_); clear k K) | ((first | refine zU ?_ | refine zV ?_ | refine zW ?_); intro A B C D a b c d; simp only [↓yG, Nat.reduceEqDiff, ↓reduceIte, g3, hzc, RN, gsetn_z, hh1, mr s8]; (first | refine zX (a ?_) | refine zY (b ?_) | refine zZ (fun hc => c ?_) (fun hc => d ?_)) <;> clear a b c d A B C D <;> try simp only [yL] at hc) | (refine yA ?_; intro A a; simp only [↓yG, Nat.reduceEqDiff, ↓reduceIte, g3, hzc, RN, gsetn_z, hh1, mr s8]; refine yB (a ?_); clear a A) | (refine yD ?_; simp only [gresults, ↓yG, Nat.reduceEqDiff, ↓reduceIte, Option.bind_some, gld_1, gld_n, g3, hzc, RN, gsetn_z, hh1, mr s8]; refine ⟨_, rfl, ?_⟩; simp only [gone]))
  generalize styH K1 (atS (atF A i)) = HA at *
  have y8 : ∀ {H'}, Same HA H' → H'.rdn K1.len 0 3 = some (syV (atS (atF A i))) := fun hs => by rw [hs.rdn (by omega)]; exact p1
  refine Gw_s fun K' hK' => G1_call (by simp only [gtarget, ↓GArg.ev, ↓evs, ↓Tr.get_set, Nat.reduceEqDiff, if_true, if_false, ↓reduceIte, Option.map_some]; rfl) (rat_ok s8.wf (aA s8) (by omega) (by omega) hi) fun r2 K2 hq => hK' _ _ ?_
  obtain ⟨rfl, hS⟩ := hq
  have s2a := s8.trans hS
  have i2 := hS
  clear hS
  rw [atV_eq]
  have t2 : Same K2 (styH K2 (atS (atF A i))) := styH_same s2a.wf _
  have hh2 : (K2.add (some (.cells (syC syZ) 0 true))).put K2.len (.cells (syC (atS (atF A i))) 0 true) = styH K2 (atS (atF A i)) := rfl
  have p2 := styH_rdn (H := K2) (atS (atF A i))
  have pl2 := styH_len (H := K2) (atS (atF A i))
  have hlm2 := s2a.wf.1
  have s11 := s2a.trans t2
  have y8b := y8 (i2.trans t2)
  repeat' (first | (exfalso; omega) | refine zA ?_ | refine zB ?_ | refine zC ?_ | refine zD ?_ | refine zE ?_ | refine zF ?_ | refine zG ?_ | refine zH ?_ | refine zI ?_ | refine zJ ?_ | refine zK rfl ?_ | refine zL ?_ | refine zM ?_ | refine zN ?_ | refine zO ?_ | refine zP rfl ?_ | refine zQ ?_ | ((first | refine zR ?_ | refine zS ?_ | refine zT ?_ | skip); intro K k; simp (disch := (first | (simp only [yD2, beq_self_eq_true, Nat.reduceLT, Nat.reduceAdd]; done) | ((fail_if_success (apply Bool.eq_iff_iff.2)); first | omega | (simp only [yD2, beq_self_eq_true, Nat.reduceLT, Nat.reduceAdd] <;> omega)) | fail)) only [↓yS, yT, ↓reduceIte, Nat.reduceEqDiff, Nat.reduceAdd, Nat.reduceMul, reduceCtorEq, Int.reduceToNat, g3, hzc, RN, gsetn_z, hh2, neS_self, neI_self, neB_self, y8b, p2, mr s11]; refine yC (k _ _ ?_); clear k K) | ((first | refine zU ?_ | refine zV ?_ | refine zW ?_); intro A B C D a b c d; simp only [↓yG, Nat.reduceEqDiff, ↓reduceIte, g3, hzc, RN, gsetn_z, hh2, neS_self, neI_self, neB_self, y8b, p2, mr s11]; (first | refine zX (a ?_) | refine zY (b ?_) | refine zZ (fun hc => c ?_) (fun hc => d ?_)) <;> clear a b c d A B C D <;> try simp only [yL] at hc) | (refine yA ?_; intro A a; simp only [↓yG, Nat.reduceEqDiff, ↓reduceIte, g3, hzc, RN, gsetn_z, hh2, neS_self, neI_self, neB_self, y8b, p2, mr s11]; refine yB (a ?_); clear a A) | (refine yD ?_; simp only [gresults, ↓yG, Nat.reduceEqDiff, ↓reduceIte, Option.bind_some, gld_1, gld_n, g3, hzc, RN, gsetn_z, hh2, neS_self, neI_self, neB_self, y8b, p2, mr s11]; refine ⟨_, rfl, ?_⟩; simp only [gone]))
  generalize styH K2 (atS (atF A i)) = HB at *
  clear y8 y8b
  intro K' hK'; refine G1_callM (by simp only [gtarget, ↓GArg.ev, ↓evs, ↓Tr.get_set, Nat.reduceEqDiff, if_true, if_false, ↓reduceIte, Option.map_some]; rfl) (slice_ok' (wf_up s11.wf) (aA s11).up (by omega) (by omega) hi hj) fun r3 K3 hq => hK' _ _ ?_
  obtain ⟨w3, rfl, hO⟩ := hq
  have o3 := OR.down s11.wf hO
  clear hO
  generalize K3.down HB.lim = L3 at o3 ⊢
  have s3a := s11.trans o3.same
  have i3 := o3.same
  repeat' (first | (exfalso; omega) | refine zA ?_ | refine zB ?_ | refine zC ?_ | refine zD ?_ | refine zE ?_ | refine zF ?_ | refine zG ?_ | refine zH ?_ | refine zI ?_ | refine zJ ?_ | refine zK rfl ?_ | refine zL ?_ | refine zM ?_ | refine zN ?_ | refine zO ?_ | refine zP rfl ?_ | refine zQ ?_ | ((first | refine zR ?_ | refine zS ?_ | refine zT ?_ | skip); intro K k; simp (disch := (first | (simp only [yD2, beq_self_eq_true, Nat.reduceLT, Nat.reduceAdd]; done) | ((fail_if_success (apply Bool.eq_iff_iff.2)); first | omega | (simp only [yD2, beq_self_eq_true, Nat.reduceLT, Nat.reduceAdd] <;> omega)) | fail)) only [↓yS, yT, ↓reduceIte, Nat.reduceEqDiff, Nat.reduceAdd, Nat.reduceMul, reduceCtorEq, Int.reduceToNat, g3, mr s3a]; refine yC (k _ _ ?_); clear k K) | ((first | refine zU ?_ | refine zV ?_ | refine zW ?_); intro A B C D a b c d; simp only [↓yG, Nat.reduceEqDiff, ↓reduceIte, g3, mr s3a]; (first | refine zX (a ?_) | refine zY (b ?_) | refine zZ (fun hc => c ?_) (fun hc => d ?_)) <;> clear a b c d A B C D <;> try simp only [yL] at hc) | (refine yA ?_; intro A a; simp only [↓yG, Nat.reduceEqDiff, ↓reduceIte, g3, mr s3a]; refine yB (a ?_); clear a A) | (refine yD ?_; simp only [gresults, ↓yG, Nat.reduceEqDiff, ↓reduceIte, Option.bind_some, gld_1, gld_n, g3, mr s3a]; refine ⟨_, rfl, ?_⟩; simp only [gone]))
  intro K' hK'; refine G1_callM (by simp only [gtarget, ↓GArg.ev, ↓evs, ↓Tr.get_set, Nat.reduceEqDiff, if_true, if_false, ↓reduceIte, Option.map_some]; rfl) (rslice_ok' (wf_up s3a.wf) (aA s3a).up (by omega) (by omega) hi hj) fun r4 K4 hq => hK' _ _ ?_
  obtain ⟨w4, rfl, hO⟩ := hq
  have o4 := OR.down s3a.wf hO
  clear hO
  generalize K4.down L3.lim = L4 at o4 ⊢
  have s4a := s3a.trans o4.same
  have i4 := o4.same
  repeat' (first | (exfalso; omega) | refine zA ?_ | refine zB ?_ | refine zC ?_ | refine zD ?_ | refine zE ?_ | refine zF ?_ | refine zG ?_ | refine zH ?_ | refine zI ?_ | refine zJ ?_ | refine zK rfl ?_ | refine zL ?_ | refine zM ?_ | refine zN ?_ | refine zO ?_ | refine zP rfl ?_ | refine zQ ?_ | ((first | refine zR ?_ | refine zS ?_ | refine zT ?_ | skip); intro K k; simp (disch := (first | (simp only [yD2, beq_self_eq_true, Nat.reduceLT, Nat.reduceAdd]; done) | ((fail_if_success (apply Bool.eq_iff_iff.2)); first | omega | (simp only [yD2, beq_self_eq_true, Nat.reduceLT, Nat.reduceAdd] <;> omega)) | fail)) only [↓yS, yT, ↓reduceIte, Nat.reduceEqDiff, Nat.reduceAdd, Nat.reduceMul, reduceCtorEq, Int.reduceToNat, g3, mr s4a]; refine yC (k _ _ ?_); clear k K) | ((first | refine zU ?_ | refine zV ?_ | refine zW ?_); intro A B C D a b c d; simp only [↓yG, Nat.reduceEqDiff, ↓reduceIte, g3, mr s4a]; (first | refine zX (a ?_) | refine zY (b ?_) | refine zZ (fun hc => c ?_) (fun hc => d ?_)) <;> clear a b c d A B C D <;> try simp only [yL] at hc) | (refine yA ?_; intro A a; simp only [↓yG, Nat.reduceEqDiff, ↓reduceIte, g3, mr s4a]; refine yB (a ?_); clear a A) | (refine yD ?_; simp only [gresults, ↓yG, Nat.reduceEqDiff, ↓reduceIte, Option.bind_some, gld_1, gld_n, g3, mr s4a]; refine ⟨_, rfl, ?_⟩; simp only [gone]))
  intro K' hK'; refine G1_callM (by simp only [gtarget, ↓GArg.ev, ↓evs, ↓Tr.get_set, Nat.reduceEqDiff, if_true, if_false, ↓reduceIte, Option.map_some]; rfl) (rsame_ok (wf_up s4a.wf) (OR.rr (o3.later i4)).up (OR.rr o4).up (by omega) (by omega)) fun r5 K5 hq => hK' _ _ ?_
  obtain ⟨rfl, hS⟩ := hq
  have s5a := s4a.trans (Same.down s4a.wf hS)
  have i5 := Same.down s4a.wf hS
  generalize K5.down L4.lim = L5 at s5a i5 ⊢
  clear hS
  rw [decide_eq_true rfl]
  have hagg : ∀ s : Sy, Value.agg (syC s).toArray = syV s := fun _ => rfl
  have hfi : fillL (syC syZ) [(1, 1, .bool true)] = some (syC ⟨0, true, false⟩) := rfl
  have hfi2 : fillL [.int .u8 0, .bool false, .bool false] [(1, 1, .bool true)] = some (syC ⟨0, true, false⟩) := rfl
  have tm : Same L5 (styH L5 ⟨0, true, false⟩) := styH_same s5a.wf _
  have hhm : (L5.add (some (.cells (syC syZ) 0 true))).put L5.len (.cells (syC ⟨0, true, false⟩) 0 true) = styH L5 ⟨0, true, false⟩ := rfl
  have hhm2 : (L5.add (some (.cells [.int .u8 0, .bool false, .bool false] 0 true))).put L5.len (.cells (syC ⟨0, true, false⟩) 0 true) = styH L5 ⟨0, true, false⟩ := rfl
  have pm := styH_rdn (H := L5) ⟨0, true, false⟩
  have plm := styH_len (H := L5) ⟨0, true, false⟩
  have pmm := styH_mine s5a.wf ⟨0, true, false⟩
  have hlmm := s5a.wf.1
  have sm := s5a.trans tm
  have hgz2 : ∀ s : Sy, gsetn [.int .u8 0, .bool false, .bool false] 0 3 (syV s) = some (syC s) := fun s => gsetn_sy rfl
  have hle := s5a.len
  have m0m := m0 sm
  rcases Nat.eq_zero_or_pos A.length with hA0 | hA0
  case' inl =>
    repeat' (first | (exfalso; omega) | refine zA ?_ | refine zB ?_ | refine zC ?_ | refine zD ?_ | refine zE ?_ | refine zF ?_ | refine zG ?_ | refine zH ?_ | refine zI ?_ | refine zJ ?_ | refine zK rfl ?_ | refine zL ?_ | refine zM ?_ | refine zN ?_ | refine zO ?_ | refine zP rfl ?_ | refine zQ ?_ | ((first | refine zR ?_ | refine zS ?_ | refine zT ?_ | skip); intro K k; simp (disch := (first | (simp only [yD2, beq_self_eq_true, Nat.reduceLT, Nat.reduceAdd]; done) | ((fail_if_success (apply Bool.eq_iff_iff.2)); first | omega | (simp only [yD2, beq_self_eq_true, Nat.reduceLT, Nat.reduceAdd] <;> omega)) | fail)) only [↓yS, yT, ↓reduceIte, Nat.reduceEqDiff, Nat.reduceAdd, Nat.reduceMul, reduceCtorEq, Int.reduceToNat, g3, mr s5a, hfi, hfi2, hagg, hzc, hgz2, gsetn_z, RN, hhm, hhm2, m0m, hsl.len]; refine yC (k _ _ ?_); clear k K) | ((first | refine zU ?_ | refine zV ?_ | refine zW ?_); intro A B C D a b c d; simp only [↓yG, Nat.reduceEqDiff, ↓reduceIte, g3, mr s5a, hfi, hfi2, hagg, hzc, hgz2, gsetn_z, RN, hhm, hhm2, m0m, hsl.len]; (first | refine zX (a ?_) | refine zY (b ?_) | refine zZ (fun hc => c ?_) (fun hc => d ?_)) <;> clear a b c d A B C D <;> try simp only [yL] at hc) | (refine yA ?_; intro A a; simp only [↓yG, Nat.reduceEqDiff, ↓reduceIte, g3, mr s5a, hfi, hfi2, hagg, hzc, hgz2, gsetn_z, RN, hhm, hhm2, m0m, hsl.len]; refine yB (a ?_); clear a A) | (refine yD ?_; simp only [gresults, ↓yG, Nat.reduceEqDiff, ↓reduceIte, Option.bind_some, gld_1, gld_n, g3, mr s5a, hfi, hfi2, hagg, hzc, hgz2, gsetn_z, RN, hhm, hhm2, m0m, hsl.len]; refine ⟨_, rfl, ?_⟩; simp only [gone]))
    have sn := sm
    generalize styH L5 ⟨0, true, false⟩ = HM at *
    have y14 : ∀ {H'}, Same HM H' → H'.rdn L5.len 0 3 = some (syV (⟨0, true, false⟩ : Sy)) := fun hs => by rw [hs.rdn (by omega)]; exact pm
    have hrep := fun {Hq : GHeap} (hw : Hq.wf) (hv : RR Hq a A) => replace_ok hw hv (by omega) (by omega) hi hj (t := ([] : List UInt8)) (by simp only [List.length_nil]; omega)
    have hrrep := fun {Hq : GHeap} (hw : Hq.wf) (hv : RR Hq a A) => rreplace_ok hw hv (by omega) (by omega) hi hj (t := ([] : List UInt8)) (by simp only [List.length_nil]; omega)
    have hR := replaceF_tot A i j ([] : List UInt8)
    have hmk := fun {Hq : GHeap} (hw : Hq.wf) (hv : RR Hq a A) => mark_ok hw hv (by omega) (by omega) hi hj (s := (⟨0, true, false⟩ : Sy))
    have hrmk := fun {Hq : GHeap} (hw : Hq.wf) (hv : RR Hq a A) => rmark_ok hw hv (by omega) (by omega) hi hj (s := (⟨0, true, false⟩ : Sy))
    have hM := markF_tot A i j (⟨0, true, false⟩ : Sy)
  case' inr =>
    have hx1 := (aA sm).row (k := 0) (c := 4) (by omega) (by decide)
    have hx2 := (aA sm).sy (k := A.length - 1) (by omega)
    have hx1' : (styH L5 ⟨0, true, false⟩).rd (blk a) (ofs a + 4) = some (.string (strB A[0]!.y)) := by rw [Nat.zero_mul, Nat.add_zero] at hx1; exact hx1
    have hn1 : ((A.length : Int) - 1).toNat = A.length - 1 := by omega
    have h0m : A[0]! ∈ A := by rw [getElem!_pos A 0 (by omega)]; exact List.getElem_mem _
    have htx := (ha.each _ h0m).2
    generalize A[0]!.y = tx at *
    generalize A[A.length - 1]!.s = st at *
    have u1 : gst (some 3) (styH L5 ⟨0, true, false⟩) (.pointer (some ⟨L5.len, 0, none⟩)) (syV st) = some ((styH L5 ⟨0, true, false⟩).put L5.len (.cells (syC st) 0 true)) := by rw [gst_n, pmm, Option.bind_some, gsetn_sy rfl]; rfl
    have sn : Same H0 ((styH L5 ⟨0, true, false⟩).put L5.len (.cells (syC st) 0 true)) := sm.put (by omega) (by omega) _
    have pn : ((styH L5 ⟨0, true, false⟩).put L5.len (.cells (syC st) 0 true)).rdn L5.len 0 3 = some (syV st) := rdn_syp
    have pln : ((styH L5 ⟨0, true, false⟩).put L5.len (.cells (syC st) 0 true)).len = L5.len + 1 := by rw [len_put, plm]
    repeat' (first | (exfalso; omega) | refine zA ?_ | refine zB ?_ | refine zC ?_ | refine zD ?_ | refine zE ?_ | refine zF ?_ | refine zG ?_ | refine zH ?_ | refine zI ?_ | refine zJ ?_ | refine zK rfl ?_ | refine zL ?_ | refine zM ?_ | refine zN ?_ | refine zO ?_ | refine zP rfl ?_ | refine zQ ?_ | ((first | refine zR ?_ | refine zS ?_ | refine zT ?_ | skip); intro K k; simp (disch := (first | (simp only [yD2, beq_self_eq_true, Nat.reduceLT, Nat.reduceAdd]; done) | ((fail_if_success (apply Bool.eq_iff_iff.2)); first | omega | (simp only [yD2, beq_self_eq_true, Nat.reduceLT, Nat.reduceAdd] <;> omega)) | fail)) only [↓yS, yT, ↓reduceIte, Nat.reduceEqDiff, Nat.reduceAdd, Nat.reduceMul, reduceCtorEq, Int.reduceToNat, g3, hfi, hfi2, hagg, hzc, hgz2, gsetn_z, RN, hhm, hhm2, m0m, hsl.len, hsl.ia, hn1, hx1', hx2, u1, Int.toNat_zero, Nat.zero_mul, Nat.add_zero]; refine yC (k _ _ ?_); clear k K) | ((first | refine zU ?_ | refine zV ?_ | refine zW ?_); intro A B C D a b c d; simp only [↓yG, Nat.reduceEqDiff, ↓reduceIte, g3, hfi, hfi2, hagg, hzc, hgz2, gsetn_z, RN, hhm, hhm2, m0m, hsl.len, hsl.ia, hn1, hx1', hx2, u1, Int.toNat_zero, Nat.zero_mul, Nat.add_zero]; (first | refine zX (a ?_) | refine zY (b ?_) | refine zZ (fun hc => c ?_) (fun hc => d ?_)) <;> clear a b c d A B C D <;> try simp only [yL] at hc) | (refine yA ?_; intro A a; simp only [↓yG, Nat.reduceEqDiff, ↓reduceIte, g3, hfi, hfi2, hagg, hzc, hgz2, gsetn_z, RN, hhm, hhm2, m0m, hsl.len, hsl.ia, hn1, hx1', hx2, u1, Int.toNat_zero, Nat.zero_mul, Nat.add_zero]; refine yB (a ?_); clear a A) | (refine yD ?_; simp only [gresults, ↓yG, Nat.reduceEqDiff, ↓reduceIte, Option.bind_some, gld_1, gld_n, g3, hfi, hfi2, hagg, hzc, hgz2, gsetn_z, RN, hhm, hhm2, m0m, hsl.len, hsl.ia, hn1, hx1', hx2, u1, Int.toNat_zero, Nat.zero_mul, Nat.add_zero]; refine ⟨_, rfl, ?_⟩; simp only [gone]))
    generalize (styH L5 ⟨0, true, false⟩).put L5.len (.cells (syC st) 0 true) = HM at *
    have y14 : ∀ {H'}, Same HM H' → H'.rdn L5.len 0 3 = some (syV st) := fun hs => by rw [hs.rdn (by omega)]; exact pn
    have hrep := fun {Hq : GHeap} (hw : Hq.wf) (hv : RR Hq a A) => replace_ok hw hv (by omega) (by omega) hi hj (t := tx) (by omega)
    have hrrep := fun {Hq : GHeap} (hw : Hq.wf) (hv : RR Hq a A) => rreplace_ok hw hv (by omega) (by omega) hi hj (t := tx) (by omega)
    have hR := replaceF_tot A i j tx
    have hmk := fun {Hq : GHeap} (hw : Hq.wf) (hv : RR Hq a A) => mark_ok hw hv (by omega) (by omega) hi hj (s := st)
    have hrmk := fun {Hq : GHeap} (hw : Hq.wf) (hv : RR Hq a A) => rmark_ok hw hv (by omega) (by omega) hi hj (s := st)
    have hM := markF_tot A i j st
  all_goals
    have q0 := Same.refl sn.wf
    repeat' (first | (exfalso; omega) | refine zA ?_ | refine zB ?_ | refine zC ?_ | refine zD ?_ | refine zE ?_ | refine zF ?_ | refine zG ?_ | refine zH ?_ | refine zI ?_ | refine zJ ?_ | refine zK rfl ?_ | refine zL ?_ | refine zM ?_ | refine zN ?_ | refine zO ?_ | refine zP rfl ?_ | refine zQ ?_ | ((first | refine zR ?_ | refine zS ?_ | refine zT ?_ | skip); intro K k; simp (disch := (first | (simp only [yD2, beq_self_eq_true, Nat.reduceLT, Nat.reduceAdd]; done) | ((fail_if_success (apply Bool.eq_iff_iff.2)); first | omega | (simp only [yD2, beq_self_eq_true, Nat.reduceLT, Nat.reduceAdd] <;> omega)) | fail)) only [↓yS, yT, ↓reduceIte, Nat.reduceEqDiff, Nat.reduceAdd, Nat.reduceMul, reduceCtorEq, Int.reduceToNat, g3, mr sn, y14 q0]; refine yC (k _ _ ?_); clear k K) | ((first | refine zU ?_ | refine zV ?_ | refine zW ?_); intro A B C D a b c d; simp only [↓yG, Nat.reduceEqDiff, ↓reduceIte, g3, mr sn, y14 q0]; (first | refine zX (a ?_) | refine zY (b ?_) | refine zZ (fun hc => c ?_) (fun hc => d ?_)) <;> clear a b c d A B C D <;> try simp only [yL] at hc) | (refine yA ?_; intro A a; simp only [↓yG, Nat.reduceEqDiff, ↓reduceIte, g3, mr sn, y14 q0]; refine yB (a ?_); clear a A) | (refine yD ?_; simp only [gresults, ↓yG, Nat.reduceEqDiff, ↓reduceIte, Option.bind_some, gld_1, gld_n, g3, mr sn, y14 q0]; refine ⟨_, rfl, ?_⟩; simp only [gone]))
    refine Gw_s fun K' hK' => G1_callM (by simp only [gtarget, ↓GArg.ev, ↓evs, ↓Tr.get_set, Nat.reduceEqDiff, if_true, if_false, ↓reduceIte, Option.map_some]; rfl) (hrep (wf_up sn.wf) (aA sn).up) fun r6 K6 hq => hK' _ _ ?_
    obtain ⟨w20, rfl, hO⟩ := hq
    have o6 := OR.down sn.wf hO
    clear hO
    generalize K6.down HM.lim = L6 at o6 ⊢
    have s6a := sn.trans o6.same
    have i6 := o6.same
    repeat' (first | (exfalso; omega) | refine zA ?_ | refine zB ?_ | refine zC ?_ | refine zD ?_ | refine zE ?_ | refine zF ?_ | refine zG ?_ | refine zH ?_ | refine zI ?_ | refine zJ ?_ | refine zK rfl ?_ | refine zL ?_ | refine zM ?_ | refine zN ?_ | refine zO ?_ | refine zP rfl ?_ | refine zQ ?_ | ((first | refine zR ?_ | refine zS ?_ | refine zT ?_ | skip); intro K k; simp (disch := (first | (simp only [yD2, beq_self_eq_true, Nat.reduceLT, Nat.reduceAdd]; done) | ((fail_if_success (apply Bool.eq_iff_iff.2)); first | omega | (simp only [yD2, beq_self_eq_true, Nat.reduceLT, Nat.reduceAdd] <;> omega)) | fail)) only [↓yS, yT, ↓reduceIte, Nat.reduceEqDiff, Nat.reduceAdd, Nat.reduceMul, reduceCtorEq, Int.reduceToNat, g3, mr s6a, y14 o6.same]; refine yC (k _ _ ?_); clear k K) | ((first | refine zU ?_ | refine zV ?_ | refine zW ?_); intro A B C D a b c d; simp only [↓yG, Nat.reduceEqDiff, ↓reduceIte, g3, mr s6a, y14 o6.same]; (first | refine zX (a ?_) | refine zY (b ?_) | refine zZ (fun hc => c ?_) (fun hc => d ?_)) <;> clear a b c d A B C D <;> try simp only [yL] at hc) | (refine yA ?_; intro A a; simp only [↓yG, Nat.reduceEqDiff, ↓reduceIte, g3, mr s6a, y14 o6.same]; refine yB (a ?_); clear a A) | (refine yD ?_; simp only [gresults, ↓yG, Nat.reduceEqDiff, ↓reduceIte, Option.bind_some, gld_1, gld_n, g3, mr s6a, y14 o6.same]; refine ⟨_, rfl, ?_⟩; simp only [gone]))
    refine Gw_s fun K' hK' => G1_callM (by simp only [gtarget, ↓GArg.ev, ↓evs, ↓Tr.get_set, Nat.reduceEqDiff, if_true, if_false, ↓reduceIte, Option.map_some]; rfl) (hrrep (wf_up s6a.wf) (aA s6a).up) fun r7 K7 hq => hK' _ _ ?_
    obtain ⟨w21, rfl, hO⟩ := hq
    have o7 := OR.down s6a.wf hO
    clear hO
    generalize K7.down L6.lim = L7 at o7 ⊢
    have s7a := s6a.trans o7.same
    have i7 := o7.same
    have q1 := (q0.trans o6.same).trans i7
    repeat' (first | (exfalso; omega) | refine zA ?_ | refine zB ?_ | refine zC ?_ | refine zD ?_ | refine zE ?_ | refine zF ?_ | refine zG ?_ | refine zH ?_ | refine zI ?_ | refine zJ ?_ | refine zK rfl ?_ | refine zL ?_ | refine zM ?_ | refine zN ?_ | refine zO ?_ | refine zP rfl ?_ | refine zQ ?_ | ((first | refine zR ?_ | refine zS ?_ | refine zT ?_ | skip); intro K k; simp (disch := (first | (simp only [yD2, beq_self_eq_true, Nat.reduceLT, Nat.reduceAdd]; done) | ((fail_if_success (apply Bool.eq_iff_iff.2)); first | omega | (simp only [yD2, beq_self_eq_true, Nat.reduceLT, Nat.reduceAdd] <;> omega)) | fail)) only [↓yS, yT, ↓reduceIte, Nat.reduceEqDiff, Nat.reduceAdd, Nat.reduceMul, reduceCtorEq, Int.reduceToNat, g3, mr s7a, y14 q1]; refine yC (k _ _ ?_); clear k K) | ((first | refine zU ?_ | refine zV ?_ | refine zW ?_); intro A B C D a b c d; simp only [↓yG, Nat.reduceEqDiff, ↓reduceIte, g3, mr s7a, y14 q1]; (first | refine zX (a ?_) | refine zY (b ?_) | refine zZ (fun hc => c ?_) (fun hc => d ?_)) <;> clear a b c d A B C D <;> try simp only [yL] at hc) | (refine yA ?_; intro A a; simp only [↓yG, Nat.reduceEqDiff, ↓reduceIte, g3, mr s7a, y14 q1]; refine yB (a ?_); clear a A) | (refine yD ?_; simp only [gresults, ↓yG, Nat.reduceEqDiff, ↓reduceIte, Option.bind_some, gld_1, gld_n, g3, mr s7a, y14 q1]; refine ⟨_, rfl, ?_⟩; simp only [gone]))
    refine Gw_s fun K' hK' => G1_callM (by simp only [gtarget, ↓GArg.ev, ↓evs, ↓Tr.get_set, Nat.reduceEqDiff, if_true, if_false, ↓reduceIte, Option.map_some]; rfl) (rsame_ok (wf_up s7a.wf) (OR.rr (o6.later i7)).up (OR.rr o7).up (by omega) (by omega)) fun r8 K8 hq => hK' _ _ ?_
    obtain ⟨rfl, hS⟩ := hq
    have s8a := s7a.trans (Same.down s7a.wf hS)
    have i8 := Same.down s7a.wf hS
    generalize K8.down L7.lim = L8 at s8a i8 ⊢
    clear hS
    rw [decide_eq_true rfl]
    have q2 := q1.trans i8
    repeat' (first | (exfalso; omega) | refine zA ?_ | refine zB ?_ | refine zC ?_ | refine zD ?_ | refine zE ?_ | refine zF ?_ | refine zG ?_ | refine zH ?_ | refine zI ?_ | refine zJ ?_ | refine zK rfl ?_ | refine zL ?_ | refine zM ?_ | refine zN ?_ | refine zO ?_ | refine zP rfl ?_ | refine zQ ?_ | ((first | refine zR ?_ | refine zS ?_ | refine zT ?_ | skip); intro K k; simp (disch := (first | (simp only [yD2, beq_self_eq_true, Nat.reduceLT, Nat.reduceAdd]; done) | ((fail_if_success (apply Bool.eq_iff_iff.2)); first | omega | (simp only [yD2, beq_self_eq_true, Nat.reduceLT, Nat.reduceAdd] <;> omega)) | fail)) only [↓yS, yT, ↓reduceIte, Nat.reduceEqDiff, Nat.reduceAdd, Nat.reduceMul, reduceCtorEq, Int.reduceToNat, g3, mr s8a, y14 q2]; refine yC (k _ _ ?_); clear k K) | ((first | refine zU ?_ | refine zV ?_ | refine zW ?_); intro A B C D a b c d; simp only [↓yG, Nat.reduceEqDiff, ↓reduceIte, g3, mr s8a, y14 q2]; (first | refine zX (a ?_) | refine zY (b ?_) | refine zZ (fun hc => c ?_) (fun hc => d ?_)) <;> clear a b c d A B C D <;> try simp only [yL] at hc) | (refine yA ?_; intro A a; simp only [↓yG, Nat.reduceEqDiff, ↓reduceIte, g3, mr s8a, y14 q2]; refine yB (a ?_); clear a A) | (refine yD ?_; simp only [gresults, ↓yG, Nat.reduceEqDiff, ↓reduceIte, Option.bind_some, gld_1, gld_n, g3, mr s8a, y14 q2]; refine ⟨_, rfl, ?_⟩; simp only [gone]))
    intro K' hK'; refine G1_callM (by simp only [gtarget, ↓GArg.ev, ↓evs, ↓Tr.get_set, Nat.reduceEqDiff, if_true, if_false, ↓reduceIte, Option.map_some]; rfl) (hmk (wf_up s8a.wf) (aA s8a).up) fun r9 K9 hq => hK' _ _ ?_
    obtain ⟨w22, rfl, hO⟩ := hq
    have o9 := OR.down s8a.wf hO
    clear hO
    generalize K9.down L8.lim = L9 at o9 ⊢
    have s9a := s8a.trans o9.same
    have i9 := o9.same
    have q3 := q2.trans i9
    repeat' (first | (exfalso; omega) | refine zA ?_ | refine zB ?_ | refine zC ?_ | refine zD ?_ | refine zE ?_ | refine zF ?_ | refine zG ?_ | refine zH ?_ | refine zI ?_ | refine zJ ?_ | refine zK rfl ?_ | refine zL ?_ | refine zM ?_ | refine zN ?_ | refine zO ?_ | refine zP rfl ?_ | refine zQ ?_ | ((first | refine zR ?_ | refine zS ?_ | refine zT ?_ | skip); intro K k; simp (disch := (first | (simp only [yD2, beq_self_eq_true, Nat.reduceLT, Nat.reduceAdd]; done) | ((fail_if_success (apply Bool.eq_iff_iff.2)); first | omega | (simp only [yD2, beq_self_eq_true, Nat.reduceLT, Nat.reduceAdd] <;> omega)) | fail)) only [↓yS, yT, ↓reduceIte, Nat.reduceEqDiff, Nat.reduceAdd, Nat.reduceMul, reduceCtorEq, Int.reduceToNat, g3, mr s9a, y14 q3]; refine yC (k _ _ ?_); clear k K) | ((first | refine zU ?_ | refine zV ?_ | refine zW ?_); intro A B C D a b c d; simp only [↓yG, Nat.reduceEqDiff, ↓reduceIte, g3, mr s9a, y14 q3]; (first | refine zX (a ?_) | refine zY (b ?_) | refine zZ (fun hc => c ?_) (fun hc => d ?_)) <;> clear a b c d A B C D <;> try simp only [yL] at hc) | (refine yA ?_; intro A a; simp only [↓yG, Nat.reduceEqDiff, ↓reduceIte, g3, mr s9a, y14 q3]; refine yB (a ?_); clear a A) | (refine yD ?_; simp only [gresults, ↓yG, Nat.reduceEqDiff, ↓reduceIte, Option.bind_some, gld_1, gld_n, g3, mr s9a, y14 q3]; refine ⟨_, rfl, ?_⟩; simp only [gone]))
    intro K' hK'; refine G1_callM (by simp only [gtarget, ↓GArg.ev, ↓evs, ↓Tr.get_set, Nat.reduceEqDiff, if_true, if_false, ↓reduceIte, Option.map_some]; rfl) (hrmk (wf_up s9a.wf) (aA s9a).up) fun r10 K10 hq => hK' _ _ ?_
    obtain ⟨w23, rfl, hO⟩ := hq
    have o10 := OR.down s9a.wf hO
    clear hO
    generalize K10.down L9.lim = L10 at o10 ⊢
    have s10a := s9a.trans o10.same
    have i10 := o10.same
    have q4 := q3.trans i10
    repeat' (first | (exfalso; omega) | refine zA ?_ | refine zB ?_ | refine zC ?_ | refine zD ?_ | refine zE ?_ | refine zF ?_ | refine zG ?_ | refine zH ?_ | refine zI ?_ | refine zJ ?_ | refine zK rfl ?_ | refine zL ?_ | refine zM ?_ | refine zN ?_ | refine zO ?_ | refine zP rfl ?_ | refine zQ ?_ | ((first | refine zR ?_ | refine zS ?_ | refine zT ?_ | skip); intro K k; simp (disch := (first | (simp only [yD2, beq_self_eq_true, Nat.reduceLT, Nat.reduceAdd]; done) | ((fail_if_success (apply Bool.eq_iff_iff.2)); first | omega | (simp only [yD2, beq_self_eq_true, Nat.reduceLT, Nat.reduceAdd] <;> omega)) | fail)) only [↓yS, yT, ↓reduceIte, Nat.reduceEqDiff, Nat.reduceAdd, Nat.reduceMul, reduceCtorEq, Int.reduceToNat, g3, mr s10a, y14 q4]; refine yC (k _ _ ?_); clear k K) | ((first | refine zU ?_ | refine zV ?_ | refine zW ?_); intro A B C D a b c d; simp only [↓yG, Nat.reduceEqDiff, ↓reduceIte, g3, mr s10a, y14 q4]; (first | refine zX (a ?_) | refine zY (b ?_) | refine zZ (fun hc => c ?_) (fun hc => d ?_)) <;> clear a b c d A B C D <;> try simp only [yL] at hc) | (refine yA ?_; intro A a; simp only [↓yG, Nat.reduceEqDiff, ↓reduceIte, g3, mr s10a, y14 q4]; refine yB (a ?_); clear a A) | (refine yD ?_; simp only [gresults, ↓yG, Nat.reduceEqDiff, ↓reduceIte, Option.bind_some, gld_1, gld_n, g3, mr s10a, y14 q4]; refine ⟨_, rfl, ?_⟩; simp only [gone]))
    intro K' hK'; refine G1_callM (by simp only [gtarget, ↓GArg.ev, ↓evs, ↓Tr.get_set, Nat.reduceEqDiff, if_true, if_false, ↓reduceIte, Option.map_some]; rfl) (rsame_ok (wf_up s10a.wf) (OR.rr (o9.later i10)).up (OR.rr o10).up (by omega) (by omega)) fun r11 K11 hq => hK' _ _ ?_
    obtain ⟨rfl, hS⟩ := hq
    have s11a := s10a.trans (Same.down s10a.wf hS)
    have i11 := Same.down s10a.wf hS
    generalize K11.down L10.lim = L11 at s11a i11 ⊢
    clear hS
    rw [decide_eq_true rfl]
    repeat' (first | (exfalso; omega) | refine zA ?_ | refine zB ?_ | refine zC ?_ | refine zD ?_ | refine zE ?_ | refine zF ?_ | refine zG ?_ | refine zH ?_ | refine zI ?_ | refine zJ ?_ | refine zK rfl ?_ | refine zL ?_ | refine zM ?_ | refine zN ?_ | refine zO ?_ | refine zP rfl ?_ | refine zQ ?_ | ((first | refine zR ?_ | refine zS ?_ | refine zT ?_ | skip); intro K k; simp (disch := (first | (simp only [yD2, beq_self_eq_true, Nat.reduceLT, Nat.reduceAdd]; done) | ((fail_if_success (apply Bool.eq_iff_iff.2)); first | omega | (simp only [yD2, beq_self_eq_true, Nat.reduceLT, Nat.reduceAdd] <;> omega)) | fail)) only [↓yS, yT, ↓reduceIte, Nat.reduceEqDiff, Nat.reduceAdd, Nat.reduceMul, reduceCtorEq, Int.reduceToNat, g3, mr s11a]; refine yC (k _ _ ?_); clear k K) | ((first | refine zU ?_ | refine zV ?_ | refine zW ?_); intro A B C D a b c d; simp only [↓yG, Nat.reduceEqDiff, ↓reduceIte, g3, mr s11a]; (first | refine zX (a ?_) | refine zY (b ?_) | refine zZ (fun hc => c ?_) (fun hc => d ?_)) <;> clear a b c d A B C D <;> try simp only [yL] at hc) | (refine yA ?_; intro A a; simp only [↓yG, Nat.reduceEqDiff, ↓reduceIte, g3, mr s11a]; refine yB (a ?_); clear a A) | (refine yD ?_; simp only [gresults, ↓yG, Nat.reduceEqDiff, ↓reduceIte, Option.bind_some, gld_1, gld_n, g3, mr s11a]; refine ⟨_, rfl, ?_⟩; simp only [gone]))
    intro K' hK'; refine G1_callM (by simp only [gtarget, ↓GArg.ev, ↓evs, ↓Tr.get_set, Nat.reduceEqDiff, if_true, if_false, ↓reduceIte, Option.map_some]; rfl) (slice_ok' (wf_up s11a.wf) (aA s11a).up (by omega) (by omega) hi hj) fun r12 K12 hq => hK' _ _ ?_
    obtain ⟨w24, rfl, hO⟩ := hq
    have o12 := OR.down s11a.wf hO
    clear hO
    generalize K12.down L11.lim = L12 at o12 ⊢
    have s12a := s11a.trans o12.same
    have i12 := o12.same
    repeat' (first | (exfalso; omega) | refine zA ?_ | refine zB ?_ | refine zC ?_ | refine zD ?_ | refine zE ?_ | refine zF ?_ | refine zG ?_ | refine zH ?_ | refine zI ?_ | refine zJ ?_ | refine zK rfl ?_ | refine zL ?_ | refine zM ?_ | refine zN ?_ | refine zO ?_ | refine zP rfl ?_ | refine zQ ?_ | ((first | refine zR ?_ | refine zS ?_ | refine zT ?_ | skip); intro K k; simp (disch := (first | (simp only [yD2, beq_self_eq_true, Nat.reduceLT, Nat.reduceAdd]; done) | ((fail_if_success (apply Bool.eq_iff_iff.2)); first | omega | (simp only [yD2, beq_self_eq_true, Nat.reduceLT, Nat.reduceAdd] <;> omega)) | fail)) only [↓yS, yT, ↓reduceIte, Nat.reduceEqDiff, Nat.reduceAdd, Nat.reduceMul, reduceCtorEq, Int.reduceToNat, g3, mr s12a]; refine yC (k _ _ ?_); clear k K) | ((first | refine zU ?_ | refine zV ?_ | refine zW ?_); intro A B C D a b c d; simp only [↓yG, Nat.reduceEqDiff, ↓reduceIte, g3, mr s12a]; (first | refine zX (a ?_) | refine zY (b ?_) | refine zZ (fun hc => c ?_) (fun hc => d ?_)) <;> clear a b c d A B C D <;> try simp only [yL] at hc) | (refine yA ?_; intro A a; simp only [↓yG, Nat.reduceEqDiff, ↓reduceIte, g3, mr s12a]; refine yB (a ?_); clear a A) | (refine yD ?_; simp only [gresults, ↓yG, Nat.reduceEqDiff, ↓reduceIte, Option.bind_some, gld_1, gld_n, g3, mr s12a]; refine ⟨_, rfl, ?_⟩; simp only [gone]))
    intro K' hK'; refine G1_callM (by simp only [gtarget, ↓GArg.ev, ↓evs, ↓Tr.get_set, Nat.reduceEqDiff, if_true, if_false, ↓reduceIte, Option.map_some]; rfl) (Concat_ok (wf_up s12a.wf) (aA s12a).up (OR.rr o12).up (by omega) (by omega)) fun r13 K13 hq => hK' _ _ ?_
    obtain ⟨w25, rfl, hO⟩ := hq
    have o13 := OR.down s12a.wf hO
    clear hO
    generalize K13.down L12.lim = L13 at o13 ⊢
    have s13a := s12a.trans o13.same
    have i13 := o13.same
    repeat' (first | (exfalso; omega) | refine zA ?_ | refine zB ?_ | refine zC ?_ | refine zD ?_ | refine zE ?_ | refine zF ?_ | refine zG ?_ | refine zH ?_ | refine zI ?_ | refine zJ ?_ | refine zK rfl ?_ | refine zL ?_ | refine zM ?_ | refine zN ?_ | refine zO ?_ | refine zP rfl ?_ | refine zQ ?_ | ((first | refine zR ?_ | refine zS ?_ | refine zT ?_ | skip); intro K k; simp (disch := (first | (simp only [yD2, beq_self_eq_true, Nat.reduceLT, Nat.reduceAdd]; done) | ((fail_if_success (apply Bool.eq_iff_iff.2)); first | omega | (simp only [yD2, beq_self_eq_true, Nat.reduceLT, Nat.reduceAdd] <;> omega)) | fail)) only [↓yS, yT, ↓reduceIte, Nat.reduceEqDiff, Nat.reduceAdd, Nat.reduceMul, reduceCtorEq, Int.reduceToNat, g3, mr s13a]; refine yC (k _ _ ?_); clear k K) | ((first | refine zU ?_ | refine zV ?_ | refine zW ?_); intro A B C D a b c d; simp only [↓yG, Nat.reduceEqDiff, ↓reduceIte, g3, mr s13a]; (first | refine zX (a ?_) | refine zY (b ?_) | refine zZ (fun hc => c ?_) (fun hc => d ?_)) <;> clear a b c d A B C D <;> try simp only [yL] at hc) | (refine yA ?_; intro A a; simp only [↓yG, Nat.reduceEqDiff, ↓reduceIte, g3, mr s13a]; refine yB (a ?_); clear a A) | (refine yD ?_; simp only [gresults, ↓yG, Nat.reduceEqDiff, ↓reduceIte, Option.bind_some, gld_1, gld_n, g3, mr s13a]; refine ⟨_, rfl, ?_⟩; simp only [gone]))
    intro K' hK'; refine G1_callM (by simp only [gtarget, ↓GArg.ev, ↓evs, ↓Tr.get_set, Nat.reduceEqDiff, if_true, if_false, ↓reduceIte, Option.map_some]; rfl) (rslice_ok' (wf_up s13a.wf) (aA s13a).up (by omega) (by omega) hi hj) fun r14 K14 hq => hK' _ _ ?_
    obtain ⟨w26, rfl, hO⟩ := hq
    have o14 := OR.down s13a.wf hO
    clear hO
    generalize K14.down L13.lim = L14 at o14 ⊢
    have s14a := s13a.trans o14.same
    have i14 := o14.same
    repeat' (first | (exfalso; omega) | refine zA ?_ | refine zB ?_ | refine zC ?_ | refine zD ?_ | refine zE ?_ | refine zF ?_ | refine zG ?_ | refine zH ?_ | refine zI ?_ | refine zJ ?_ | refine zK rfl ?_ | refine zL ?_ | refine zM ?_ | refine zN ?_ | refine zO ?_ | refine zP rfl ?_ | refine zQ ?_ | ((first | refine zR ?_ | refine zS ?_ | refine zT ?_ | skip); intro K k; simp (disch := (first | (simp only [yD2, beq_self_eq_true, Nat.reduceLT, Nat.reduceAdd]; done) | ((fail_if_success (apply Bool.eq_iff_iff.2)); first | omega | (simp only [yD2, beq_self_eq_true, Nat.reduceLT, Nat.reduceAdd] <;> omega)) | fail)) only [↓yS, yT, ↓reduceIte, Nat.reduceEqDiff, Nat.reduceAdd, Nat.reduceMul, reduceCtorEq, Int.reduceToNat, g3, mr s14a]; refine yC (k _ _ ?_); clear k K) | ((first | refine zU ?_ | refine zV ?_ | refine zW ?_); intro A B C D a b c d; simp only [↓yG, Nat.reduceEqDiff, ↓reduceIte, g3, mr s14a]; (first | refine zX (a ?_) | refine zY (b ?_) | refine zZ (fun hc => c ?_) (fun hc => d ?_)) <;> clear a b c d A B C D <;> try simp only [yL] at hc) | (refine yA ?_; intro A a; simp only [↓yG, Nat.reduceEqDiff, ↓reduceIte, g3, mr s14a]; refine yB (a ?_); clear a A) | (refine yD ?_; simp only [gresults, ↓yG, Nat.reduceEqDiff, ↓reduceIte, Option.bind_some, gld_1, gld_n, g3, mr s14a]; refine ⟨_, rfl, ?_⟩; simp only [gone]))
    intro K' hK'; refine G1_callM (by simp only [gtarget, ↓GArg.ev, ↓evs, ↓Tr.get_set, Nat.reduceEqDiff, if_true, if_false, ↓reduceIte, Option.map_some]; rfl) (rConcat_ok (wf_up s14a.wf) (aA s14a).up (OR.rr o14).up (by omega) (by omega)) fun r15 K15 hq => hK' _ _ ?_
    obtain ⟨w27, rfl, hO⟩ := hq
    have o15 := OR.down s14a.wf hO
    clear hO
    generalize K15.down L14.lim = L15 at o15 ⊢
    have s15a := s14a.trans o15.same
    have i15 := o15.same
    have hC := normF_tot (A ++ sliceF A i j)
    rw [List.length_append] at hC
    repeat' (first | (exfalso; omega) | refine zA ?_ | refine zB ?_ | refine zC ?_ | refine zD ?_ | refine zE ?_ | refine zF ?_ | refine zG ?_ | refine zH ?_ | refine zI ?_ | refine zJ ?_ | refine zK rfl ?_ | refine zL ?_ | refine zM ?_ | refine zN ?_ | refine zO ?_ | refine zP rfl ?_ | refine zQ ?_ | ((first | refine zR ?_ | refine zS ?_ | refine zT ?_ | skip); intro K k; simp (disch := (first | (simp only [yD2, beq_self_eq_true, Nat.reduceLT, Nat.reduceAdd]; done) | ((fail_if_success (apply Bool.eq_iff_iff.2)); first | omega | (simp only [yD2, beq_self_eq_true, Nat.reduceLT, Nat.reduceAdd] <;> omega)) | fail)) only [↓yS, yT, ↓reduceIte, Nat.reduceEqDiff, Nat.reduceAdd, Nat.reduceMul, reduceCtorEq, Int.reduceToNat, g3, mr s15a]; refine yC (k _ _ ?_); clear k K) | ((first | refine zU ?_ | refine zV ?_ | refine zW ?_); intro A B C D a b c d; simp only [↓yG, Nat.reduceEqDiff, ↓reduceIte, g3, mr s15a]; (first | refine zX (a ?_) | refine zY (b ?_) | refine zZ (fun hc => c ?_) (fun hc => d ?_)) <;> clear a b c d A B C D <;> try simp only [yL] at hc) | (refine yA ?_; intro A a; simp only [↓yG, Nat.reduceEqDiff, ↓reduceIte, g3, mr s15a]; refine yB (a ?_); clear a A) | (refine yD ?_; simp only [gresults, ↓yG, Nat.reduceEqDiff, ↓reduceIte, Option.bind_some, gld_1, gld_n, g3, mr s15a]; refine ⟨_, rfl, ?_⟩; simp only [gone]))
    intro K' hK'; refine G1_callM (by simp only [gtarget, ↓GArg.ev, ↓evs, ↓Tr.get_set, Nat.reduceEqDiff, if_true, if_false, ↓reduceIte, Option.map_some]; rfl) (rsame_ok (wf_up s15a.wf) (OR.rr ((o13.later i14).later i15)).up (OR.rr o15).up (by omega) (by omega)) fun r16 K16 hq => hK' _ _ ?_
    obtain ⟨rfl, hS⟩ := hq
    have s16a := s15a.trans (Same.down s15a.wf hS)
    have i16 := Same.down s15a.wf hS
    generalize K16.down L15.lim = L16 at s16a i16 ⊢
    clear hS
    rw [decide_eq_true rfl]
    repeat' (first | (exfalso; omega) | refine zA ?_ | refine zB ?_ | refine zC ?_ | refine zD ?_ | refine zE ?_ | refine zF ?_ | refine zG ?_ | refine zH ?_ | refine zI ?_ | refine zJ ?_ | refine zK rfl ?_ | refine zL ?_ | refine zM ?_ | refine zN ?_ | refine zO ?_ | refine zP rfl ?_ | refine zQ ?_ | ((first | refine zR ?_ | refine zS ?_ | refine zT ?_ | skip); intro K k; simp (disch := (first | (simp only [yD2, beq_self_eq_true, Nat.reduceLT, Nat.reduceAdd]; done) | ((fail_if_success (apply Bool.eq_iff_iff.2)); first | omega | (simp only [yD2, beq_self_eq_true, Nat.reduceLT, Nat.reduceAdd] <;> omega)) | fail)) only [↓yS, yT, ↓reduceIte, Nat.reduceEqDiff, Nat.reduceAdd, Nat.reduceMul, reduceCtorEq, Int.reduceToNat, g3, mr s16a]; refine yC (k _ _ ?_); clear k K) | ((first | refine zU ?_ | refine zV ?_ | refine zW ?_); intro A B C D a b c d; simp only [↓yG, Nat.reduceEqDiff, ↓reduceIte, g3, mr s16a]; (first | refine zX (a ?_) | refine zY (b ?_) | refine zZ (fun hc => c ?_) (fun hc => d ?_)) <;> clear a b c d A B C D <;> try simp only [yL] at hc) | (refine yA ?_; intro A a; simp only [↓yG, Nat.reduceEqDiff, ↓reduceIte, g3, mr s16a]; refine yB (a ?_); clear a A) | (refine yD ?_; simp only [gresults, ↓yG, Nat.reduceEqDiff, ↓reduceIte, Option.bind_some, gld_1, gld_n, g3, mr s16a]; refine ⟨_, rfl, ?_⟩; simp only [gone]))
    exact hPost _ _ rfl
theorem parts_law {H : GHeap} (hw : H.wf) {gvs : List Value} (h : RdAsQ (fun m => m ≤ 1048576) H [.st [.sl runShp], .int .i64, .int .i64] gvs) : ∃ v H2, gev G 3 gvs H = some (v, H2) ∧ v = .bool true := by
  obtain ⟨_, _, rfl, h1, _, _, rfl, h2, _, _, rfl, h3, rfl⟩ := h
  obtain ⟨a, A, rfl, ha⟩ := argR_of h1
  obtain ⟨i, rfl, hi⟩ := h2.int_
  obtain ⟨j, rfl, hj⟩ := h3.int_
  exact parts_ok hw ha (wf_i64 hi) (wf_i64 hj)
end Go.Gh
