/-
  style and its reference, walked: Norm, Of.
-/
import Derived.Test.YtgbibkkcnkaelaaDoorSyN1
namespace Go.Gh
set_option linter.unusedSimpArgs false
set_option linter.unusedVariables false
open Go.RowKit
set_option maxRecDepth 4000

/-- the result's place, set -/
theorem OR.res {H0 H : GHeap} {w : Value} {out : List SR} (h : OR H0 H w out) {i : Nat} {c : List Value} (m2 : H.mine i = some (c, 0)) (hc : c.length = 1) (hi : H0.len ≤ i) :
    gst (some 1) H (.pointer (some ⟨i, 0, none⟩)) (rowV w) = some (H.put i (.cells [w] 0 true)) ∧ OR H0 (H.put i (.cells [w] 0 true)) w out ∧ (H.put i (.cells [w] 0 true)).rdn i 0 1 = some (rowV w) := by
  refine ⟨?_, ?_, rdn_put_all rfl⟩
  · have hg : gsetn c 0 1 (rowV w) = some [w] := gsetn_all (vs := #[w]) hc rfl (by simpa using h.flat)
    rw [gst_n, m2, Option.bind_some, hg]; rfl
  · have hB6 : But (fun z => z = i) H (H.put i (.cells [w] 0 true)) := (But.refl (S := fun z => z = i) h.same.wf).put rfl (mine_lt h.same.wf m2) _
    exact h.but hB6 (fun z hz e2 => by omega) fun a ha e2 => by
      have := (h.ids ha).2.2
      rw [e2, m2] at this
      simp at this
theorem OR.weaken {H0 H1 H : GHeap} {v : Value} {l : List SR} (h : OR H1 H v l) (hs : Same H0 H1) : OR H0 H v l := OS.weaken h hs
theorem rowV_eq (w : Value) : rowV w = .agg [w].toArray := rfl
theorem Norm_ok {H : GHeap} (hw : H.wf) {v : Value} {l : List SR} (hv : RR H v l) (hll : l.length ≤ 16777216) (ht : tot l ≤ 70368744177664) :
    ∃ r H', gev G 34 [rowV v] H = some (r, H') ∧ ∃ w, r = rowV w ∧ OR H H' w (normF l) := by
  refine gev_GW (f := 34) rfl fun Post hPost => ?_
  have hlim := hw.1
  have hf := hv.flat
  simp only [frameOf, Nat.reduceAdd]
  repeat' (first | refine zA ?_ | refine zB ?_ | refine zC ?_ | refine zD ?_ | refine zE ?_ | refine zF ?_ | refine zG ?_ | refine zH ?_ | refine zI ?_ | refine zJ ?_ | refine zK rfl ?_ | refine zL ?_ | refine zM ?_ | refine zN ?_ | refine zO ?_ | refine zP rfl ?_ | refine zQ ?_ | ((first | refine zR ?_ | refine zS ?_ | refine zT ?_ | skip); intro K k; simp (disch := (first | (simp only [yD2, beq_self_eq_true, Nat.reduceLT, Nat.reduceAdd]; done) | ((fail_if_success (apply Bool.eq_iff_iff.2)); first | omega | (simp only [yD2, beq_self_eq_true, Nat.reduceLT, Nat.reduceAdd] <;> omega)) | fail)) only [↓yS, yT, ↓reduceIte, Nat.reduceEqDiff, Nat.reduceAdd, Nat.reduceMul, reduceCtorEq, Int.reduceToNat, g34, rowV_eq, agg_all, agg_list, hf]; refine yC (k _ _ ?_); clear k K) | ((first | refine zU ?_ | refine zV ?_ | refine zW ?_); intro A B C D a b c d; simp only [↓yG, Nat.reduceEqDiff, ↓reduceIte, g34, rowV_eq, agg_all, agg_list, hf]; (first | refine zX (a ?_) | refine zY (b ?_) | refine zZ (fun hc => c ?_) (fun hc => d ?_)) <;> clear a b c d A B C D <;> try simp only [yL] at hc) | (refine yA ?_; intro A a; simp only [↓yG, Nat.reduceEqDiff, ↓reduceIte, g34, rowV_eq, agg_all, agg_list, hf]; refine yB (a ?_); clear a A) | (refine yD ?_; simp only [gresults, ↓yG, Nat.reduceEqDiff, ↓reduceIte, Option.bind_some, gld_1, gld_n, g34, rowV_eq, agg_all, agg_list, hf]; refine ⟨_, rfl, ?_⟩; simp only [gone]))
  have hS : Same H ((H.add (some (.cells [v] 0 true))).add (some (.cells [.slice none 0 0] 0 true))) := ((Same.refl hw).add _).add _
  refine Gw_s fun K' hK' => G1_call (by simp only [gtarget, ↓GArg.ev, ↓evs, ↓Tr.get_set, Nat.reduceEqDiff, if_true, if_false, ↓reduceIte, Option.map_some]; rfl) (norm_ok hS.wf (hv.later hw hS) hll ht) fun r1 H1 hq => hK' _ _ ?_
  obtain ⟨w, rfl, hO⟩ := hq
  have m2 : H1.mine (H.len + 1) = some ([.slice none 0 0], 0) := by
    rw [hO.same.mine (by rw [len_add, len_add]; omega), mine_add_eq (by rw [len_add]) (by rw [lim_add]; omega)]
  obtain ⟨h1, h2, h3⟩ := (hO.weaken hS).res m2 rfl (by omega)
  repeat' (first | refine zA ?_ | refine zB ?_ | refine zC ?_ | refine zD ?_ | refine zE ?_ | refine zF ?_ | refine zG ?_ | refine zH ?_ | refine zI ?_ | refine zJ ?_ | refine zK rfl ?_ | refine zL ?_ | refine zM ?_ | refine zN ?_ | refine zO ?_ | refine zP rfl ?_ | refine zQ ?_ | ((first | refine zR ?_ | refine zS ?_ | refine zT ?_ | skip); intro K k; simp (disch := (first | (simp only [yD2, beq_self_eq_true, Nat.reduceLT, Nat.reduceAdd]; done) | ((fail_if_success (apply Bool.eq_iff_iff.2)); first | omega | (simp only [yD2, beq_self_eq_true, Nat.reduceLT, Nat.reduceAdd] <;> omega)) | fail)) only [↓yS, yT, ↓reduceIte, Nat.reduceEqDiff, Nat.reduceAdd, Nat.reduceMul, reduceCtorEq, Int.reduceToNat, g34, h1, h3]; refine yC (k _ _ ?_); clear k K) | ((first | refine zU ?_ | refine zV ?_ | refine zW ?_); intro A B C D a b c d; simp only [↓yG, Nat.reduceEqDiff, ↓reduceIte, g34, h1, h3]; (first | refine zX (a ?_) | refine zY (b ?_) | refine zZ (fun hc => c ?_) (fun hc => d ?_)) <;> clear a b c d A B C D <;> try simp only [yL] at hc) | (refine yA ?_; intro A a; simp only [↓yG, Nat.reduceEqDiff, ↓reduceIte, g34, h1, h3]; refine yB (a ?_); clear a A) | (refine yD ?_; simp only [gresults, ↓yG, Nat.reduceEqDiff, ↓reduceIte, Option.bind_some, gld_1, gld_n, g34, h1, h3]; refine ⟨_, rfl, ?_⟩; simp only [gone]))
  exact hPost _ _ ⟨w, rfl, h2⟩
theorem fill_of {t : List UInt8} {s : Sy} : fillL [.string ⟨#[]⟩, .int .u8 0, .bool false, .bool false, .string ⟨#[]⟩] [(0, 1, .string (strB t)), (1, 3, syV s)] = some (runC ⟨t, s, []⟩) := by
  have h1 : (syV s).cells.toList = [.int .u8 s.c, .bool s.i, .bool s.u] := rfl
  have h2 : (Value.string (strB t)).cells.toList = [.string (strB t)] := rfl
  simp [fillL, h1, h2, flatV, runC]
  rfl
theorem Of_ok {H : GHeap} (hw : H.wf) {t : List UInt8} {s : Sy} (ht : t.length ≤ 70368744177664) :
    ∃ r H', gev G 40 [.string (strB t), syV s] H = some (r, H') ∧ ∃ w, r = rowV w ∧ OR H H' w (normF [⟨t, s, []⟩]) := by
  refine gev_GW (f := 40) rfl fun Post hPost => ?_
  have hlim := hw.1
  simp only [frameOf, Nat.reduceAdd]
  repeat' (first | refine zA ?_ | refine zB ?_ | refine zC ?_ | refine zD ?_ | refine zE ?_ | refine zF ?_ | refine zG ?_ | refine zH ?_ | refine zI ?_ | refine zJ ?_ | refine zK rfl ?_ | refine zL ?_ | refine zM ?_ | refine zN ?_ | refine zO ?_ | refine zP rfl ?_ | refine zQ ?_ | ((first | refine zR ?_ | refine zS ?_ | refine zT ?_ | skip); intro K k; simp (disch := (first | (simp only [yD2, beq_self_eq_true, Nat.reduceLT, Nat.reduceAdd]; done) | ((fail_if_success (apply Bool.eq_iff_iff.2)); first | omega | (simp only [yD2, beq_self_eq_true, Nat.reduceLT, Nat.reduceAdd] <;> omega)) | fail)) only [↓yS, yT, ↓reduceIte, Nat.reduceEqDiff, Nat.reduceAdd, Nat.reduceMul, reduceCtorEq, Int.reduceToNat, g40, RN, fill_of, runV_eq]; refine yC (k _ _ ?_); clear k K) | ((first | refine zU ?_ | refine zV ?_ | refine zW ?_); intro A B C D a b c d; simp only [↓yG, Nat.reduceEqDiff, ↓reduceIte, g40, RN, fill_of, runV_eq]; (first | refine zX (a ?_) | refine zY (b ?_) | refine zZ (fun hc => c ?_) (fun hc => d ?_)) <;> clear a b c d A B C D <;> try simp only [yL] at hc) | (refine yA ?_; intro A a; simp only [↓yG, Nat.reduceEqDiff, ↓reduceIte, g40, RN, fill_of, runV_eq]; refine yB (a ?_); clear a A) | (refine yD ?_; simp only [gresults, ↓yG, Nat.reduceEqDiff, ↓reduceIte, Option.bind_some, gld_1, gld_n, g40, RN, fill_of, runV_eq]; refine ⟨_, rfl, ?_⟩; simp only [gone]))
  have hS : Same H ((H.add (some (.cells (syC s) 0 true))).add (some (.cells [.slice none 0 0] 0 true))) := ((Same.refl hw).add _).add _
  have hO0 : OR H (((H.add (some (.cells (syC s) 0 true))).add (some (.cells [.slice none 0 0] 0 true))).add (some (.cells (runC ⟨t, s, []⟩) 5 true))) (.slice (some ⟨H.len + 1 + 1, 0, none⟩) 1 2) [⟨t, s, []⟩] := by
    have := OS.made' (s := 5) (u := 5) (n := 1) (cs := runC ⟨t, s, []⟩) hS rfl
    rw [len_add, len_add] at this
    exact this
  refine Gw_s fun K' hK' => G1_call (by simp only [gtarget, ↓GArg.ev, ↓evs, ↓Tr.get_set, Nat.reduceEqDiff, if_true, if_false, ↓reduceIte, Option.map_some]; rfl) (norm_ok hO0.same.wf hO0.rr (by simp) (by simp [tot]; omega)) fun r1 H1 hq => hK' _ _ ?_
  obtain ⟨w, rfl, hO⟩ := hq
  have m2 : H1.mine (H.len + 1) = some ([.slice none 0 0], 0) := by
    rw [hO.same.mine (by rw [len_add, len_add, len_add]; omega), mine_add_ne (by rw [len_add, len_add]; omega), mine_add_eq (by rw [len_add]) (by rw [lim_add]; omega)]
  obtain ⟨h1, h2, h3⟩ := (hO.weaken hO0.same).res m2 rfl (by omega)
  repeat' (first | refine zA ?_ | refine zB ?_ | refine zC ?_ | refine zD ?_ | refine zE ?_ | refine zF ?_ | refine zG ?_ | refine zH ?_ | refine zI ?_ | refine zJ ?_ | refine zK rfl ?_ | refine zL ?_ | refine zM ?_ | refine zN ?_ | refine zO ?_ | refine zP rfl ?_ | refine zQ ?_ | ((first | refine zR ?_ | refine zS ?_ | refine zT ?_ | skip); intro K k; simp (disch := (first | (simp only [yD2, beq_self_eq_true, Nat.reduceLT, Nat.reduceAdd]; done) | ((fail_if_success (apply Bool.eq_iff_iff.2)); first | omega | (simp only [yD2, beq_self_eq_true, Nat.reduceLT, Nat.reduceAdd] <;> omega)) | fail)) only [↓yS, yT, ↓reduceIte, Nat.reduceEqDiff, Nat.reduceAdd, Nat.reduceMul, reduceCtorEq, Int.reduceToNat, g40, h1, h3]; refine yC (k _ _ ?_); clear k K) | ((first | refine zU ?_ | refine zV ?_ | refine zW ?_); intro A B C D a b c d; simp only [↓yG, Nat.reduceEqDiff, ↓reduceIte, g40, h1, h3]; (first | refine zX (a ?_) | refine zY (b ?_) | refine zZ (fun hc => c ?_) (fun hc => d ?_)) <;> clear a b c d A B C D <;> try simp only [yL] at hc) | (refine yA ?_; intro A a; simp only [↓yG, Nat.reduceEqDiff, ↓reduceIte, g40, h1, h3]; refine yB (a ?_); clear a A) | (refine yD ?_; simp only [gresults, ↓yG, Nat.reduceEqDiff, ↓reduceIte, Option.bind_some, gld_1, gld_n, g40, h1, h3]; refine ⟨_, rfl, ?_⟩; simp only [gone]))
  exact hPost _ _ ⟨w, rfl, h2⟩
theorem RR.sy {H : GHeap} {v : Value} {l : List SR} (h : RR H v l) {k : Nat} (hk : k < l.length) : H.rdn (blk v) (ofs v + k * 5 + 1) 3 = some (syV l[k]!.s) := by
  have h1 := h.rowN hk
  have h2 : l[k]! = l[k]! := rfl
  obtain ⟨a, gc, e, _⟩ := h.sl
  have h3 := h.rd.rdn (by decide) (c := k * 5 + 1) (m := 3) (by decide) (by rw [RunsC_len]; omega)
  rw [Nat.add_assoc, h3]
  have h4 : (RunsC l).drop (k * 5 + 1) = ((RunsC l).drop (k * 5)).drop 1 := by rw [List.drop_drop]
  have h5 := rows_part runC_len l k hk
  have h6 : (((RunsC l).drop (k * 5)).drop 1).take 3 = ((((RunsC l).drop (k * 5)).take 5).drop 1).take 3 := by
    rw [List.drop_take, List.take_take]; rfl
  rw [h4, h6]
  unfold RunsC
  rw [h5]
  rfl
theorem rnorm_ok {H : GHeap} (hw : H.wf) {v : Value} {l : List SR} (hv : RR H v l) (hll : l.length ≤ 16777216) (ht : tot l ≤ 70368744177664) :
    ∃ r H', gev G 35 [rowV v] H = some (r, H') ∧ ∃ w, r = rowV w ∧ OR H H' w (normF l) := by
  refine gev_GW (f := 35) rfl fun Post hPost => ?_
  have hlim := hw.1
  have hf := hv.flat
  have hsl := hv.isSl
  simp only [frameOf, Nat.reduceAdd]
  repeat' (first | refine zA ?_ | refine zB ?_ | refine zC ?_ | refine zD ?_ | refine zE ?_ | refine zF ?_ | refine zG ?_ | refine zH ?_ | refine zI ?_ | refine zJ ?_ | refine zK rfl ?_ | refine zL ?_ | refine zM ?_ | refine zN ?_ | refine zO ?_ | refine zP rfl ?_ | refine zQ ?_ | ((first | refine zR ?_ | refine zS ?_ | refine zT ?_ | skip); intro K k; simp (disch := (first | (simp only [yD2, beq_self_eq_true, Nat.reduceLT, Nat.reduceAdd]; done) | ((fail_if_success (apply Bool.eq_iff_iff.2)); first | omega | (simp only [yD2, beq_self_eq_true, Nat.reduceLT, Nat.reduceAdd] <;> omega)) | fail)) only [↓yS, yT, ↓reduceIte, Nat.reduceEqDiff, Nat.reduceAdd, Nat.reduceMul, reduceCtorEq, Int.reduceToNat, g35, rowV_eq, agg_all, agg_list, hf, hsl.len]; refine yC (k _ _ ?_); clear k K) | ((first | refine zU ?_ | refine zV ?_ | refine zW ?_); intro A B C D a b c d; simp only [↓yG, Nat.reduceEqDiff, ↓reduceIte, g35, rowV_eq, agg_all, agg_list, hf, hsl.len]; (first | refine zX (a ?_) | refine zY (b ?_) | refine zZ (fun hc => c ?_) (fun hc => d ?_)) <;> clear a b c d A B C D <;> try simp only [yL] at hc) | (refine yA ?_; intro A a; simp only [↓yG, Nat.reduceEqDiff, ↓reduceIte, g35, rowV_eq, agg_all, agg_list, hf, hsl.len]; refine yB (a ?_); clear a A) | (refine yD ?_; simp only [gresults, ↓yG, Nat.reduceEqDiff, ↓reduceIte, Option.bind_some, gld_1, gld_n, g35, rowV_eq, agg_all, agg_list, hf, hsl.len]; refine ⟨_, rfl, ?_⟩; simp only [gone]))
  have hSb : Same H ((H.add (some (.cells [v] 0 true))).add (some (.cells [.slice none 0 0] 0 true))) := ((Same.refl hw).add _).add _
  refine GW_loop (fun k fr H1 => ∃ (j : Nat) (w : Value), k = l.length - j ∧ j ≤ l.length ∧ fr.get 2 = some (.pointer (some ⟨H.len + 1, 0, none⟩)) ∧ fr.get 3 = some (w) ∧ fr.get 8 = some (v) ∧ fr.get 9 = some (.int .i64 l.length) ∧ fr.get 10 = some (.int .i64 j) ∧ H1.mine (H.len + 1) = some ([.slice none 0 0], 0) ∧ OR H H1 w (normF (l.take j))) ?_ l.length ?_
  case refine_2 =>
    refine ⟨0, .slice none 0 0, by omega, by omega, ?_⟩
    simp only [↓yG, Nat.reduceEqDiff, ↓reduceIte, Int.natCast_add, Int.cast_ofNat_Int, Int.natCast_zero, true_and, and_true, Option.some.injEq, Value.int.injEq]
    refine ⟨?_, OS.nil hSb⟩
    rw [mine_add_eq (by rw [len_add]) (by rw [lim_add]; omega)]
  rintro k fr H1 ⟨j, w, rfl, hj, f2, f3, f8, f9, f10, m2, hO⟩ J hJ
  have hS := hO.same
  have hw1 := hS.wf
  have hlim1 := hw1.1
  have hl2 := mine_lt hw1 m2
  have hnt := normF_tot (l.take j)
  have htl := tot_le l j
  rw [List.length_take] at hnt
  generalize hout : normF (l.take j) = out at *
  have hso := hO.rr.isSl
  by_cases hj1 : j < l.length
  · have e1 := (hv.later hw hS).rowN hj1
    have htk := tot_take l hj1
    have htl2 := tot_le l (j + 1)
    have hstep : normF (l.take (j + 1)) = pushN out l[j]! := by rw [normF_take hj1, hout]
    generalize hx : l[j]! = x at *
    obtain ⟨H2, hH2⟩ : ∃ H2, H2 = (H1.add (some (.cells [.string ⟨#[]⟩, .int .u8 0, .bool false, .bool false, .string ⟨#[]⟩] 0 true))).put H1.len (.cells (runC x) 0 true) := ⟨_, rfl⟩
    have hS12 : Same H1 H2 := hH2 ▸ (Same.refl hw1).new _ _
    have hl2' : H2.len = H1.len + 1 := by rw [hH2, len_put, len_add]
    have hO2 := hO.later hS12
    have m2' : H2.mine (H.len + 1) = some ([.slice none 0 0], 0) := by rw [hS12.mine hl2]; exact m2
    have x5 : H2.rdn H1.len 0 5 = some (runV x) := by rw [hH2, rdn_runp]
    have x3 : H2.rdn H1.len 1 3 = some (syV x.s) := by rw [hH2, rdn_run3p]
    have x0 : H2.rd H1.len 0 = some (.string (strB x.t)) := by rw [hH2, rd_put_same]; rfl
    have x4 : H2.rd H1.len 4 = some (.string (strB x.y)) := by rw [hH2, rd_put_same]; rfl
    have hw2 := hS12.wf
    have hlim2 := hw2.1
    have hn2 : ¬ (H.len + 1) ∈ idOf w := fun ha => by
      have := (hO2.ids ha).2.2
      rw [m2'] at this
      simp at this
    repeat' (first | (exfalso; omega) | refine zA ?_ | refine zB ?_ | refine zC ?_ | refine zD ?_ | refine zE ?_ | refine zF ?_ | refine zG ?_ | refine zH ?_ | refine zI ?_ | refine zJ ?_ | refine zK rfl ?_ | refine zL ?_ | refine zM ?_ | refine zN ?_ | refine zO ?_ | refine zP rfl ?_ | refine zQ ?_ | ((first | refine zR ?_ | refine zS ?_ | refine zT ?_ | skip); intro K k; simp (disch := (first | (simp only [yD2, beq_self_eq_true, Nat.reduceLT, Nat.reduceAdd]; done) | ((fail_if_success (apply Bool.eq_iff_iff.2)); first | omega | (simp only [yD2, beq_self_eq_true, Nat.reduceLT, Nat.reduceAdd] <;> omega)) | fail)) only [↓yS, yT, ↓reduceIte, Nat.reduceEqDiff, Nat.reduceAdd, Nat.reduceMul, reduceCtorEq, Int.reduceToNat, g35, f2, f3, f8, f9, f10, RN, hsl.ia, e1, hso.len]; refine yC (k _ _ ?_); clear k K) | ((first | refine zU ?_ | refine zV ?_ | refine zW ?_); intro A B C D a b c d; simp only [↓yG, Nat.reduceEqDiff, ↓reduceIte, g35, f2, f3, f8, f9, f10, RN, hsl.ia, e1, hso.len]; (first | refine zX (a ?_) | refine zY (b ?_) | refine zZ (fun hc => c ?_) (fun hc => d ?_)) <;> clear a b c d A B C D <;> try simp only [yL] at hc) | (refine yA ?_; intro A a; simp only [↓yG, Nat.reduceEqDiff, ↓reduceIte, g35, f2, f3, f8, f9, f10, RN, hsl.ia, e1, hso.len]; refine yB (a ?_); clear a A) | (refine yD ?_; simp only [gresults, ↓yG, Nat.reduceEqDiff, ↓reduceIte, Option.bind_some, gld_1, gld_n, g35, f2, f3, f8, f9, f10, RN, hsl.ia, e1, hso.len]; refine ⟨_, rfl, ?_⟩; simp only [gone]))
    case pos.refine_1.refine_1 =>
      rw [← hH2]
      refine hJ _ _ ⟨l.length - (j + 1), by omega, j + 1, w, rfl, by omega, ?_⟩
      simp only [↓yG, Nat.reduceEqDiff, ↓reduceIte, Int.natCast_add, Int.cast_ofNat_Int, Int.natCast_zero, true_and, and_true, Option.some.injEq, Value.int.injEq, f2, f3, f8, f9]
      refine ⟨m2', ?_⟩
      rw [hstep, pushN, if_pos hc]
      exact hO2
    case pos.refine_1.refine_2.refine_1 =>
      rw [← hH2]
      have hxt : ¬ x.t = [] := by assumption
      have hn1 : ((out.length : Int) - 1).toNat = out.length - 1 := by omega
      have e3 : H2.rd (blk w) (ofs w + (out.length - 1) * 5) = some (.string (strB (lastR out).t)) := (OR.rr hO2).row (k := out.length - 1) (c := 0) (by omega) (by decide)
      have e4 : H2.rd (blk w) (ofs w + (out.length - 1) * 5 + 4) = some (.string (strB (lastR out).y)) := (OR.rr hO2).row (k := out.length - 1) (c := 4) (by omega) (by decide)
      have e2 : H2.rdn (blk w) (ofs w + (out.length - 1) * 5 + 1) 3 = some (syV (lastR out).s) := (OR.rr hO2).sy (k := out.length - 1) (by omega)
      have hadd := fun e => gb_addB (e := e) (a := (lastR out).t) (b := x.t) (by have := last_le (l := out) (by omega); omega)
      obtain ⟨H5, e5, hO5, hB5⟩ := OR.setT hO2 (k := out.length - 1) (by omega) ((lastR out).t ++ x.t)
      repeat' (first | (exfalso; omega) | refine zA ?_ | refine zB ?_ | refine zC ?_ | refine zD ?_ | refine zE ?_ | refine zF ?_ | refine zG ?_ | refine zH ?_ | refine zI ?_ | refine zJ ?_ | refine zK rfl ?_ | refine zL ?_ | refine zM ?_ | refine zN ?_ | refine zO ?_ | refine zP rfl ?_ | refine zQ ?_ | ((first | refine zR ?_ | refine zS ?_ | refine zT ?_ | skip); intro K k; simp (disch := (first | (simp only [yD2, beq_self_eq_true, Nat.reduceLT, Nat.reduceAdd]; done) | ((fail_if_success (apply Bool.eq_iff_iff.2)); first | omega | (simp only [yD2, beq_self_eq_true, Nat.reduceLT, Nat.reduceAdd] <;> omega)) | fail)) only [↓yS, yT, ↓reduceIte, Nat.reduceEqDiff, Nat.reduceAdd, Nat.reduceMul, reduceCtorEq, Int.reduceToNat, g35, f2, f3, f8, f9, f10, RN, hso.ia, hn1, e2, e3, e4, x5, x3, x0, x4, hadd, e5, Nat.add_zero]; refine yC (k _ _ ?_); clear k K) | ((first | refine zU ?_ | refine zV ?_ | refine zW ?_); intro A B C D a b c d; simp only [↓yG, Nat.reduceEqDiff, ↓reduceIte, g35, f2, f3, f8, f9, f10, RN, hso.ia, hn1, e2, e3, e4, x5, x3, x0, x4, hadd, e5, Nat.add_zero]; (first | refine zX (a ?_) | refine zY (b ?_) | refine zZ (fun hc => c ?_) (fun hc => d ?_)) <;> clear a b c d A B C D <;> try simp only [yL] at hc) | (refine yA ?_; intro A a; simp only [↓yG, Nat.reduceEqDiff, ↓reduceIte, g35, f2, f3, f8, f9, f10, RN, hso.ia, hn1, e2, e3, e4, x5, x3, x0, x4, hadd, e5, Nat.add_zero]; refine yB (a ?_); clear a A) | (refine yD ?_; simp only [gresults, ↓yG, Nat.reduceEqDiff, ↓reduceIte, Option.bind_some, gld_1, gld_n, g35, f2, f3, f8, f9, f10, RN, hso.ia, hn1, e2, e3, e4, x5, x3, x0, x4, hadd, e5, Nat.add_zero]; refine ⟨_, rfl, ?_⟩; simp only [gone]))
      case refine_1.refine_1.refine_1 =>
        refine hJ _ _ ⟨l.length - (j + 1), by omega, j + 1, w, rfl, by omega, ?_⟩
        simp only [↓yG, Nat.reduceEqDiff, ↓reduceIte, Int.natCast_add, Int.cast_ofNat_Int, Int.natCast_zero, true_and, and_true, Option.some.injEq, Value.int.injEq, f2, f3, f8, f9]
        refine ⟨by rw [hB5.mine (by omega) hn2]; exact m2', ?_⟩
        rw [hstep, pushN, if_neg hxt, if_pos ⟨by omega, by simp [alikeF, *]⟩]
        exact hO5
      all_goals
        have hpp : ¬ (0 < out.length ∧ alikeF (lastR out) x = true) := fun h => by simp_all [alikeF]
        have hl4 : H1.len + 1 = H2.len := hl2'.symm
        first | rw [← hH2] | skip
        first | rw [hl4] | skip
        refine Gw_s fun K' hK' => ?_
        simp (disch := (first | (simp only [yD2, beq_self_eq_true, Nat.reduceLT, Nat.reduceAdd]; done) | ((fail_if_success (apply Bool.eq_iff_iff.2)); first | omega | (simp only [yD2, beq_self_eq_true, Nat.reduceLT, Nat.reduceAdd] <;> omega)) | fail)) only [↓yS, yT, ↓reduceIte, Nat.reduceEqDiff, Nat.reduceAdd, Nat.reduceMul, reduceCtorEq, Int.reduceToNat, f2, f3, f8, f9, f10]
        obtain ⟨w', H5, e, hO5, hB5⟩ := OS.app1 hO2 (by decide) (by decide) (news := runC x) rfl (b := 40) (by omega) (by omega)
        refine G1_eq e (hK' _ _ ?_)
        clear hK' K' e
        have hO5' : OR H H5 w' (out ++ [x]) := by
          have e1 : RunsC (out ++ [x]) = RunsC out ++ runC x := by simp [RunsC]
          have e2 : (out ++ [x]).length = out.length + 1 := by simp
          unfold OR
          rw [e1, e2]; exact hO5
        have m2a : H5.mine (H.len + 1) = some ([.slice none 0 0], 0) := by rw [hB5.mine (by omega) hn2]; exact m2'
        repeat' (first | (exfalso; omega) | refine zA ?_ | refine zB ?_ | refine zC ?_ | refine zD ?_ | refine zE ?_ | refine zF ?_ | refine zG ?_ | refine zH ?_ | refine zI ?_ | refine zJ ?_ | refine zK rfl ?_ | refine zL ?_ | refine zM ?_ | refine zN ?_ | refine zO ?_ | refine zP rfl ?_ | refine zQ ?_ | ((first | refine zR ?_ | refine zS ?_ | refine zT ?_ | skip); intro K k; simp (disch := (first | (simp only [yD2, beq_self_eq_true, Nat.reduceLT, Nat.reduceAdd]; done) | ((fail_if_success (apply Bool.eq_iff_iff.2)); first | omega | (simp only [yD2, beq_self_eq_true, Nat.reduceLT, Nat.reduceAdd] <;> omega)) | fail)) only [↓yS, yT, ↓reduceIte, Nat.reduceEqDiff, Nat.reduceAdd, Nat.reduceMul, reduceCtorEq, Int.reduceToNat, g35, f2, f3, f8, f9, f10]; refine yC (k _ _ ?_); clear k K) | ((first | refine zU ?_ | refine zV ?_ | refine zW ?_); intro A B C D a b c d; simp only [↓yG, Nat.reduceEqDiff, ↓reduceIte, g35, f2, f3, f8, f9, f10]; (first | refine zX (a ?_) | refine zY (b ?_) | refine zZ (fun hc => c ?_) (fun hc => d ?_)) <;> clear a b c d A B C D <;> try simp only [yL] at hc) | (refine yA ?_; intro A a; simp only [↓yG, Nat.reduceEqDiff, ↓reduceIte, g35, f2, f3, f8, f9, f10]; refine yB (a ?_); clear a A) | (refine yD ?_; simp only [gresults, ↓yG, Nat.reduceEqDiff, ↓reduceIte, Option.bind_some, gld_1, gld_n, g35, f2, f3, f8, f9, f10]; refine ⟨_, rfl, ?_⟩; simp only [gone]))
        refine hJ _ _ ⟨l.length - (j + 1), by omega, j + 1, w', rfl, by omega, ?_⟩
        simp only [↓yG, Nat.reduceEqDiff, ↓reduceIte, Int.natCast_add, Int.cast_ofNat_Int, Int.natCast_zero, true_and, and_true, Option.some.injEq, Value.int.injEq, f2, f3, f8, f9]
        refine ⟨m2a, ?_⟩
        rw [hstep, pushN, if_neg hxt, if_neg hpp]
        exact hO5'
    case pos.refine_1.refine_2.refine_2 =>
        have hxt : ¬ x.t = [] := by assumption
        have hpp : ¬ (0 < out.length ∧ alikeF (lastR out) x = true) := fun h => by omega
        have hl4 : H1.len + 1 = H2.len := hl2'.symm
        first | rw [← hH2] | skip
        first | rw [hl4] | skip
        refine Gw_s fun K' hK' => ?_
        simp (disch := (first | (simp only [yD2, beq_self_eq_true, Nat.reduceLT, Nat.reduceAdd]; done) | ((fail_if_success (apply Bool.eq_iff_iff.2)); first | omega | (simp only [yD2, beq_self_eq_true, Nat.reduceLT, Nat.reduceAdd] <;> omega)) | fail)) only [↓yS, yT, ↓reduceIte, Nat.reduceEqDiff, Nat.reduceAdd, Nat.reduceMul, reduceCtorEq, Int.reduceToNat, f2, f3, f8, f9, f10]
        obtain ⟨w', H5, e, hO5, hB5⟩ := OS.app1 hO2 (by decide) (by decide) (news := runC x) rfl (b := 40) (by omega) (by omega)
        refine G1_eq e (hK' _ _ ?_)
        clear hK' K' e
        have hO5' : OR H H5 w' (out ++ [x]) := by
          have e1 : RunsC (out ++ [x]) = RunsC out ++ runC x := by simp [RunsC]
          have e2 : (out ++ [x]).length = out.length + 1 := by simp
          unfold OR
          rw [e1, e2]; exact hO5
        have m2a : H5.mine (H.len + 1) = some ([.slice none 0 0], 0) := by rw [hB5.mine (by omega) hn2]; exact m2'
        repeat' (first | (exfalso; omega) | refine zA ?_ | refine zB ?_ | refine zC ?_ | refine zD ?_ | refine zE ?_ | refine zF ?_ | refine zG ?_ | refine zH ?_ | refine zI ?_ | refine zJ ?_ | refine zK rfl ?_ | refine zL ?_ | refine zM ?_ | refine zN ?_ | refine zO ?_ | refine zP rfl ?_ | refine zQ ?_ | ((first | refine zR ?_ | refine zS ?_ | refine zT ?_ | skip); intro K k; simp (disch := (first | (simp only [yD2, beq_self_eq_true, Nat.reduceLT, Nat.reduceAdd]; done) | ((fail_if_success (apply Bool.eq_iff_iff.2)); first | omega | (simp only [yD2, beq_self_eq_true, Nat.reduceLT, Nat.reduceAdd] <;> omega)) | fail)) only [↓yS, yT, ↓reduceIte, Nat.reduceEqDiff, Nat.reduceAdd, Nat.reduceMul, reduceCtorEq, Int.reduceToNat, g35, f2, f3, f8, f9, f10]; refine yC (k _ _ ?_); clear k K) | ((first | refine zU ?_ | refine zV ?_ | refine zW ?_); intro A B C D a b c d; simp only [↓yG, Nat.reduceEqDiff, ↓reduceIte, g35, f2, f3, f8, f9, f10]; (first | refine zX (a ?_) | refine zY (b ?_) | refine zZ (fun hc => c ?_) (fun hc => d ?_)) <;> clear a b c d A B C D <;> try simp only [yL] at hc) | (refine yA ?_; intro A a; simp only [↓yG, Nat.reduceEqDiff, ↓reduceIte, g35, f2, f3, f8, f9, f10]; refine yB (a ?_); clear a A) | (refine yD ?_; simp only [gresults, ↓yG, Nat.reduceEqDiff, ↓reduceIte, Option.bind_some, gld_1, gld_n, g35, f2, f3, f8, f9, f10]; refine ⟨_, rfl, ?_⟩; simp only [gone]))
        refine hJ _ _ ⟨l.length - (j + 1), by omega, j + 1, w', rfl, by omega, ?_⟩
        simp only [↓yG, Nat.reduceEqDiff, ↓reduceIte, Int.natCast_add, Int.cast_ofNat_Int, Int.natCast_zero, true_and, and_true, Option.some.injEq, Value.int.injEq, f2, f3, f8, f9]
        refine ⟨m2a, ?_⟩
        rw [hstep, pushN, if_neg hxt, if_neg hpp]
        exact hO5'
  · obtain rfl : j = l.length := by omega
    rw [List.take_length] at hout
    have hb1 : fillL [.slice none 0 0] [(0, 1, w)] = some [w] := fillL_1 rfl hO.flat
    obtain ⟨h1, h2, h3⟩ := hO.res m2 rfl (by omega)
    rw [rowV_eq] at h1 h3
    repeat' (first | (exfalso; omega) | refine zA ?_ | refine zB ?_ | refine zC ?_ | refine zD ?_ | refine zE ?_ | refine zF ?_ | refine zG ?_ | refine zH ?_ | refine zI ?_ | refine zJ ?_ | refine zK rfl ?_ | refine zL ?_ | refine zM ?_ | refine zN ?_ | refine zO ?_ | refine zP rfl ?_ | refine zQ ?_ | ((first | refine zR ?_ | refine zS ?_ | refine zT ?_ | skip); intro K k; simp (disch := (first | (simp only [yD2, beq_self_eq_true, Nat.reduceLT, Nat.reduceAdd]; done) | ((fail_if_success (apply Bool.eq_iff_iff.2)); first | omega | (simp only [yD2, beq_self_eq_true, Nat.reduceLT, Nat.reduceAdd] <;> omega)) | fail)) only [↓yS, yT, ↓reduceIte, Nat.reduceEqDiff, Nat.reduceAdd, Nat.reduceMul, reduceCtorEq, Int.reduceToNat, g35, f2, f3, f8, f9, f10, hb1, h1, h3]; refine yC (k _ _ ?_); clear k K) | ((first | refine zU ?_ | refine zV ?_ | refine zW ?_); intro A B C D a b c d; simp only [↓yG, Nat.reduceEqDiff, ↓reduceIte, g35, f2, f3, f8, f9, f10, hb1, h1, h3]; (first | refine zX (a ?_) | refine zY (b ?_) | refine zZ (fun hc => c ?_) (fun hc => d ?_)) <;> clear a b c d A B C D <;> try simp only [yL] at hc) | (refine yA ?_; intro A a; simp only [↓yG, Nat.reduceEqDiff, ↓reduceIte, g35, f2, f3, f8, f9, f10, hb1, h1, h3]; refine yB (a ?_); clear a A) | (refine yD ?_; simp only [gresults, ↓yG, Nat.reduceEqDiff, ↓reduceIte, Option.bind_some, gld_1, gld_n, g35, f2, f3, f8, f9, f10, hb1, h1, h3]; refine ⟨_, rfl, ?_⟩; simp only [gone]))
    exact hPost _ _ ⟨w, rfl, hout ▸ h2⟩
end Go.Gh
