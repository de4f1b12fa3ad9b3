/-
  style and its reference, walked: rows joined.
-/
import Derived.Test.YtgbibkkcnkaelaaDoorSyP2
namespace Go.Gh
set_option linter.unusedSimpArgs false
set_option linter.unusedVariables false
open Go.RowKit
set_option maxRecDepth 4000

/-- runs that were made since, in a row that may be longer -/
def OWR (H0 H : GHeap) (v : Value) (l : List SR) : Prop :=
  Same H0 H ∧ ((v = .slice none 0 0 ∧ l = []) ∨ ∃ i cs, v = .slice (some ⟨i, 0, none⟩) l.length 0 ∧ H.mine i = some (cs, 5) ∧ l.length * 5 ≤ cs.length ∧ cs.take (l.length * 5) = RunsC l ∧ H0.len ≤ i)
theorem RR.nil {H : GHeap} : RR H (.slice none 0 0) [] :=
  ⟨⟨rfl, none, 0, rfl, fun h => absurd h (by simp)⟩, none, 0, rfl, .inl rfl, fun _ => .inl rfl, fun i o e => by cases e⟩
theorem OWR.rr {H0 H : GHeap} {v : Value} {l : List SR} (h : OWR H0 H v l) : RR H v l := by
  obtain ⟨hS, ⟨rfl, rfl⟩ | ⟨i, cs, rfl, hm, h1, h2, h3⟩⟩ := h
  · exact RR.nil
  · refine ⟨⟨RunsC_len l, _, 0, rfl, fun _ => ⟨i, 0, cs, rfl, mine_lt hS.wf hm, mine_cs hm, fun j u hu => ?_⟩⟩, _, 0, rfl, .inl rfl, fun _ => .inr ⟨_, _, rfl⟩, fun i' o' e => ?_⟩
    · rw [Nat.zero_add]
      rw [← h2] at hu
      have hj : j < l.length * 5 := by
        have := (List.getElem?_eq_some_iff.1 hu).1
        simp at this; omega
      rw [List.getElem?_take_of_lt hj] at hu
      exact hu
    · cases e
      exact ⟨5, by unfold GHeap.unit; rw [(mine_obj hm).2]; rfl, .inr rfl⟩
theorem OWR.later {H0 H H' : GHeap} {v : Value} {l : List SR} (h : OWR H0 H v l) (hs : Same H H') : OWR H0 H' v l := by
  obtain ⟨hS, h⟩ := h
  refine ⟨hS.trans hs, h.imp id fun ⟨i, cs, e, hm, h1⟩ => ⟨i, cs, e, ?_, h1⟩⟩
  rw [hs.mine (mine_lt hS.wf hm)]; exact hm
theorem RR.count {H : GHeap} {v : Value} {l : List SR} (h : RR H v l) : gcount v = some l.length := by
  obtain ⟨a, gc, rfl, _⟩ := h.sl; rfl
theorem RR.cells {H : GHeap} {v : Value} {l : List SR} (h : RR H v l) : gcells 5 l.length H v = some (RunsC l) := gcells_arg h
theorem OWR.app {H0 H : GHeap} {v x : Value} {a b : List SR} (h : OWR H0 H v a) (hx : RR H x b) (hl : (a.length + b.length) * 40 ≤ 140737488355328) :
    ∃ v' H', gapp 5 40 5 H v x = some (v', H') ∧ OWR H0 H' v' (a ++ b) := by
  obtain ⟨hS, h⟩ := h
  have h1 := hx.count
  have h2 := hx.cells
  have hlim := hS.wf.1
  have hSl := hS.len
  have happ : RunsC (a ++ b) = RunsC a ++ RunsC b := by simp [RunsC]
  by_cases hb : b.length = 0
  · obtain rfl : b = [] := List.eq_nil_of_length_eq_zero hb
    refine ⟨v, H, ?_, hS, by simpa using h⟩
    have : ∃ av n gc, v = .slice av n gc := by
      rcases h with ⟨e, _⟩ | ⟨i, cs, e, _⟩
      · exact ⟨_, _, _, e⟩
      · exact ⟨_, _, _, e⟩
    obtain ⟨av, n, gc, rfl⟩ := this
    simp only [gapp, h1, Option.bind_some, h2]
    rfl
  · have hnl : (RunsC b).length = b.length * 5 := RunsC_len b
    rcases h with ⟨rfl, rfl⟩ | ⟨i, cs, rfl, hm, h3, h4, h5⟩
    · refine ⟨.slice (some ⟨H.len, 0, none⟩) b.length 0, H.add (some (.cells (RunsC b) 5 true)), ?_, hS.add _, .inr ⟨H.len, RunsC b, by simp, ?_, by simp [RunsC_len], by simp [← hnl], hSl⟩⟩
      · simp only [gapp, h1, Option.bind_some, h2]
        rw [if_neg hb, if_pos ⟨by simp at hl ⊢; omega, by simp at hl ⊢; omega, by decide, hnl⟩]
        rfl
      · exact mine_add_eq rfl hlim
    · have hlt := mine_lt hS.wf hm
      refine ⟨.slice (some ⟨H.len, 0, none⟩) (a.length + b.length) 0, (H.put i (.dead 5)).add (some (.cells (RunsC (a ++ b)) 5 true)), ?_, (hS.put h5 hlt _).add _, .inr ⟨H.len, RunsC (a ++ b), by simp, ?_, by rw [RunsC_len]; omega, by rw [← RunsC_len (a ++ b), List.take_length], hSl⟩⟩
      · simp only [gapp, h1, Option.bind_some, h2]
        rw [if_neg hb, if_pos ⟨by omega, by omega, by decide, hnl⟩]
        simp only [hm, if_true]
        rw [if_pos ⟨trivial, by decide, by omega⟩, List.drop_zero, h4, happ]
      · exact mine_add_eq rfl hlim
def runZ : List Value := [.string ⟨#[]⟩, .int .u8 0, .bool false, .bool false, .string ⟨#[]⟩]
theorem zerosR_len (z : List Value) : ∀ n, (zeros z n).length = n * z.length
  | 0 => by simp [zeros]
  | n + 1 => by simp [zeros, zerosR_len z n, Nat.succ_mul]; omega
theorem growR_ok {H : GHeap} (hw : H.wf) {n : Nat} (hn : n * 40 ≤ 140737488355328) : ∃ r H', gev G 75 [.slice none 0 0, .int .i64 n] H = some (r, H') ∧ OWR H H' r [] := by
  refine gev_GW (f := 75) rfl fun Post hPost => ?_
  have hlim := hw.1
  have hgz : 0 < n → gappZ 5 40 5 [.string ⟨#[]⟩, .int .u8 0, .bool false, .bool false, .string ⟨#[]⟩] H (.slice none 0 0) (.int .i64 n) = some (.slice (some ⟨H.len, 0, none⟩) n 0, H.add (some (.cells (zeros [.string ⟨#[]⟩, .int .u8 0, .bool false, .bool false, .string ⟨#[]⟩] n) 5 true))) := fun h => by
    have hzl : (zeros [Value.string ⟨#[]⟩, .int .u8 0, .bool false, .bool false, .string ⟨#[]⟩] n).length = n * 5 := by rw [zerosR_len]; rfl
    have hwn : IntKind.i64.wrap (n : Int) = n := wr_i64 (by omega)
    simp only [gappZ, hwn, Int.toNat_natCast]
    rw [if_pos (by omega)]
    simp only [gappL]
    rw [if_neg (by omega), if_pos ⟨by omega, by omega, by decide, hzl⟩]
    rfl
  have hsl : ∀ c, gslice (.sl 5) (H.add (some (.cells c 5 true))) (.slice (some ⟨H.len, 0, none⟩) n 0) none (some (.int .i64 0)) none = some (.slice (some ⟨H.len, 0, none⟩) 0 0) := fun c => by
    have hu : (H.add (some (.cells c 5 true))).unit H.len = some 5 := by
      unfold GHeap.unit; rw [obj_add, if_pos rfl]; rfl
    have hb : gbounds n n none (some (.int .i64 0)) = some (0, 0) := by
      simp only [gbounds]; rw [if_pos (by omega)]; rfl
    simp only [gslice, hu]
    rw [if_pos (.inr rfl)]
    simp [hb]
  simp only [frameOf, Nat.reduceAdd]
  have hnil : ∀ H : GHeap, gslice (.sl 5) H (.slice none 0 0) none (some (.int .i64 0)) none = some (.slice none 0 0) := fun _ => rfl
  rcases Nat.eq_zero_or_pos n with rfl | hn0
  · repeat' (first | (exfalso; omega) | refine zA ?_ | refine zB ?_ | refine zC ?_ | refine zD ?_ | refine zE ?_ | refine zF ?_ | refine zG ?_ | refine zH ?_ | refine zI ?_ | refine zJ ?_ | refine zK rfl ?_ | refine zL ?_ | refine zM ?_ | refine zN ?_ | refine zO ?_ | refine zP rfl ?_ | refine zQ ?_ | ((first | refine zR ?_ | refine zS ?_ | refine zT ?_ | skip); intro K k; simp (disch := (first | (simp only [yD2, beq_self_eq_true, Nat.reduceLT, Nat.reduceAdd]; done) | ((fail_if_success (apply Bool.eq_iff_iff.2)); first | omega | (simp only [yD2, beq_self_eq_true, Nat.reduceLT, Nat.reduceAdd] <;> omega)) | fail)) only [↓yS, yT, ↓reduceIte, Nat.reduceEqDiff, Nat.reduceAdd, Nat.reduceMul, reduceCtorEq, Int.reduceToNat, g75, Int.natCast_zero, Int.sub_zero, Int.sub_self]; refine yC (k _ _ ?_); clear k K) | ((first | refine zU ?_ | refine zV ?_ | refine zW ?_); intro A B C D a b c d; simp only [↓yG, Nat.reduceEqDiff, ↓reduceIte, g75, Int.natCast_zero, Int.sub_zero, Int.sub_self]; (first | refine zX (a ?_) | refine zY (b ?_) | refine zZ (fun hc => c ?_) (fun hc => d ?_)) <;> clear a b c d A B C D <;> try simp only [yL] at hc) | (refine yA ?_; intro A a; simp only [↓yG, Nat.reduceEqDiff, ↓reduceIte, g75, Int.natCast_zero, Int.sub_zero, Int.sub_self]; refine yB (a ?_); clear a A) | (refine yD ?_; simp only [gresults, ↓yG, Nat.reduceEqDiff, ↓reduceIte, Option.bind_some, gld_1, gld_n, g75, Int.natCast_zero, Int.sub_zero, Int.sub_self]; refine ⟨_, rfl, ?_⟩; simp only [gone]))
    exact hPost _ _ ⟨Same.refl hw, .inl ⟨rfl, rfl⟩⟩
  have hgz := hgz hn0
  repeat' (first | (exfalso; omega) | refine zA ?_ | refine zB ?_ | refine zC ?_ | refine zD ?_ | refine zE ?_ | refine zF ?_ | refine zG ?_ | refine zH ?_ | refine zI ?_ | refine zJ ?_ | refine zK rfl ?_ | refine zL ?_ | refine zM ?_ | refine zN ?_ | refine zO ?_ | refine zP rfl ?_ | refine zQ ?_ | ((first | refine zR ?_ | refine zS ?_ | refine zT ?_ | skip); intro K k; simp (disch := (first | (simp only [yD2, beq_self_eq_true, Nat.reduceLT, Nat.reduceAdd]; done) | ((fail_if_success (apply Bool.eq_iff_iff.2)); first | omega | (simp only [yD2, beq_self_eq_true, Nat.reduceLT, Nat.reduceAdd] <;> omega)) | fail)) only [↓yS, yT, ↓reduceIte, Nat.reduceEqDiff, Nat.reduceAdd, Nat.reduceMul, reduceCtorEq, Int.reduceToNat, g75, hgz, hsl, hnil, Int.natCast_zero, Int.sub_zero, Int.sub_self]; refine yC (k _ _ ?_); clear k K) | ((first | refine zU ?_ | refine zV ?_ | refine zW ?_); intro A B C D a b c d; simp only [↓yG, Nat.reduceEqDiff, ↓reduceIte, g75, hgz, hsl, hnil, Int.natCast_zero, Int.sub_zero, Int.sub_self]; (first | refine zX (a ?_) | refine zY (b ?_) | refine zZ (fun hc => c ?_) (fun hc => d ?_)) <;> clear a b c d A B C D <;> try simp only [yL] at hc) | (refine yA ?_; intro A a; simp only [↓yG, Nat.reduceEqDiff, ↓reduceIte, g75, hgz, hsl, hnil, Int.natCast_zero, Int.sub_zero, Int.sub_self]; refine yB (a ?_); clear a A) | (refine yD ?_; simp only [gresults, ↓yG, Nat.reduceEqDiff, ↓reduceIte, Option.bind_some, gld_1, gld_n, g75, hgz, hsl, hnil, Int.natCast_zero, Int.sub_zero, Int.sub_self]; refine ⟨_, rfl, ?_⟩; simp only [gone]))
  refine hPost _ _ ⟨(Same.refl hw).add _, .inr ⟨H.len, _, rfl, mine_add_eq rfl hlim, by simp, by simp [RunsC], Nat.le_refl _⟩⟩
def catR (L : List VR') : List SR := L.flatMap (·.2)
theorem catR_take {L : List VR'} {j : Nat} (h : j < L.length) : catR (L.take (j + 1)) = catR (L.take j) ++ L[j]!.2 := by
  rw [catR, List.take_succ_eq_append_getElem h, List.flatMap_append, getElem!_pos L j h]
  simp [catR]
theorem catR_le {L : List VR'} : ∀ j, (catR (L.take j)).length ≤ (catR L).length := fun j => by
  have : catR L = catR (L.take j) ++ catR (L.drop j) := by rw [catR, catR, catR, ← List.flatMap_append, List.take_append_drop]
  rw [this]; simp
theorem concatS_ok {H : GHeap} (hw : H.wf) {v : Value} {L : List VR'} (hv : TR H v L) (hl : L.length < 1000) (hcl : (catR L).length * 40 ≤ 140737488355328) :
    ∃ r H', gev G 53 [v] H = some (r, H') ∧ OWR H H' r (catR L) := by
  refine gev_GW (f := 53) rfl fun Post hPost => ?_
  have hsl := hv.isSl
  simp only [frameOf, Nat.reduceAdd]
  repeat' (first | refine zA ?_ | refine zB ?_ | refine zC ?_ | refine zD ?_ | refine zE ?_ | refine zF ?_ | refine zG ?_ | refine zH ?_ | refine zI ?_ | refine zJ ?_ | refine zK rfl ?_ | refine zL ?_ | refine zM ?_ | refine zN ?_ | refine zO ?_ | refine zP rfl ?_ | refine zQ ?_ | ((first | refine zR ?_ | refine zS ?_ | refine zT ?_ | skip); intro K k; simp (disch := (first | (simp only [yD2, beq_self_eq_true, Nat.reduceLT, Nat.reduceAdd]; done) | ((fail_if_success (apply Bool.eq_iff_iff.2)); first | omega | (simp only [yD2, beq_self_eq_true, Nat.reduceLT, Nat.reduceAdd] <;> omega)) | fail)) only [↓yS, yT, ↓reduceIte, Nat.reduceEqDiff, Nat.reduceAdd, Nat.reduceMul, reduceCtorEq, Int.reduceToNat, g53, hsl.len]; refine yC (k _ _ ?_); clear k K) | ((first | refine zU ?_ | refine zV ?_ | refine zW ?_); intro A B C D a b c d; simp only [↓yG, Nat.reduceEqDiff, ↓reduceIte, g53, hsl.len]; (first | refine zX (a ?_) | refine zY (b ?_) | refine zZ (fun hc => c ?_) (fun hc => d ?_)) <;> clear a b c d A B C D <;> try simp only [yL] at hc) | (refine yA ?_; intro A a; simp only [↓yG, Nat.reduceEqDiff, ↓reduceIte, g53, hsl.len]; refine yB (a ?_); clear a A) | (refine yD ?_; simp only [gresults, ↓yG, Nat.reduceEqDiff, ↓reduceIte, Option.bind_some, gld_1, gld_n, g53, hsl.len]; refine ⟨_, rfl, ?_⟩; simp only [gone]))
  refine GW_loop (fun k fr H1 => ∃ (j : Nat), j ≤ L.length ∧ k = L.length - j ∧ fr.get 0 = some (v) ∧ fr.get 3 = some (.int .i64 ((catR (L.take j)).length : Int)) ∧ fr.get 9 = some (v) ∧ fr.get 10 = some (.int .i64 L.length) ∧ fr.get 11 = some (.int .i64 j) ∧ H1 = H) ?_ L.length ?_
  case refine_2 =>
    refine ⟨0, by omega, by omega, ?_⟩
    simp only [↓yG, Nat.reduceEqDiff, ↓reduceIte, Int.natCast_add, Int.cast_ofNat_Int, Int.natCast_zero, true_and, and_true, Option.some.injEq, Value.int.injEq]
    simp [catR]
  rintro k fr H1 ⟨j, hj, rfl, f0, f3, f9, f10, f11, rfl⟩ J hJ
  have hle := catR_le (L := L) j
  have hle2 := catR_le (L := L) (j + 1)
  by_cases hj1 : j < L.length
  · obtain ⟨_, hr, r1⟩ := hv.row hj1
    have hrs := r1.isSl
    have hct : (catR (L.take (j + 1))).length = (catR (L.take j)).length + L[j]!.2.length := by rw [catR_take hj1, List.length_append]
    repeat' (first | (exfalso; omega) | refine zA ?_ | refine zB ?_ | refine zC ?_ | refine zD ?_ | refine zE ?_ | refine zF ?_ | refine zG ?_ | refine zH ?_ | refine zI ?_ | refine zJ ?_ | refine zK rfl ?_ | refine zL ?_ | refine zM ?_ | refine zN ?_ | refine zO ?_ | refine zP rfl ?_ | refine zQ ?_ | ((first | refine zR ?_ | refine zS ?_ | refine zT ?_ | skip); intro K k; simp (disch := (first | (simp only [yD2, beq_self_eq_true, Nat.reduceLT, Nat.reduceAdd]; done) | ((fail_if_success (apply Bool.eq_iff_iff.2)); first | omega | (simp only [yD2, beq_self_eq_true, Nat.reduceLT, Nat.reduceAdd] <;> omega)) | fail)) only [↓yS, yT, ↓reduceIte, Nat.reduceEqDiff, Nat.reduceAdd, Nat.reduceMul, reduceCtorEq, Int.reduceToNat, g53, f0, f3, f9, f10, f11, hsl.ia, hr, hrs.len]; refine yC (k _ _ ?_); clear k K) | ((first | refine zU ?_ | refine zV ?_ | refine zW ?_); intro A B C D a b c d; simp only [↓yG, Nat.reduceEqDiff, ↓reduceIte, g53, f0, f3, f9, f10, f11, hsl.ia, hr, hrs.len]; (first | refine zX (a ?_) | refine zY (b ?_) | refine zZ (fun hc => c ?_) (fun hc => d ?_)) <;> clear a b c d A B C D <;> try simp only [yL] at hc) | (refine yA ?_; intro A a; simp only [↓yG, Nat.reduceEqDiff, ↓reduceIte, g53, f0, f3, f9, f10, f11, hsl.ia, hr, hrs.len]; refine yB (a ?_); clear a A) | (refine yD ?_; simp only [gresults, ↓yG, Nat.reduceEqDiff, ↓reduceIte, Option.bind_some, gld_1, gld_n, g53, f0, f3, f9, f10, f11, hsl.ia, hr, hrs.len]; refine ⟨_, rfl, ?_⟩; simp only [gone]))
    refine hJ _ _ ⟨L.length - (j + 1), by omega, j + 1, by omega, rfl, ?_⟩
    rw [hct]
    simp only [↓yG, Nat.reduceEqDiff, ↓reduceIte, Int.natCast_add, Int.cast_ofNat_Int, Int.natCast_zero, true_and, and_true, Option.some.injEq, Value.int.injEq, f0, f9, f10]
  obtain rfl : j = L.length := by omega
  rw [List.take_length] at *
  repeat' (first | (exfalso; omega) | refine zA ?_ | refine zB ?_ | refine zC ?_ | refine zD ?_ | refine zE ?_ | refine zF ?_ | refine zG ?_ | refine zH ?_ | refine zI ?_ | refine zJ ?_ | refine zK rfl ?_ | refine zL ?_ | refine zM ?_ | refine zN ?_ | refine zO ?_ | refine zP rfl ?_ | refine zQ ?_ | ((first | refine zR ?_ | refine zS ?_ | refine zT ?_ | skip); intro K k; simp (disch := (first | (simp only [yD2, beq_self_eq_true, Nat.reduceLT, Nat.reduceAdd]; done) | ((fail_if_success (apply Bool.eq_iff_iff.2)); first | omega | (simp only [yD2, beq_self_eq_true, Nat.reduceLT, Nat.reduceAdd] <;> omega)) | fail)) only [↓yS, yT, ↓reduceIte, Nat.reduceEqDiff, Nat.reduceAdd, Nat.reduceMul, reduceCtorEq, Int.reduceToNat, g53, f0, f3, f9, f10, f11]; refine yC (k _ _ ?_); clear k K) | ((first | refine zU ?_ | refine zV ?_ | refine zW ?_); intro A B C D a b c d; simp only [↓yG, Nat.reduceEqDiff, ↓reduceIte, g53, f0, f3, f9, f10, f11]; (first | refine zX (a ?_) | refine zY (b ?_) | refine zZ (fun hc => c ?_) (fun hc => d ?_)) <;> clear a b c d A B C D <;> try simp only [yL] at hc) | (refine yA ?_; intro A a; simp only [↓yG, Nat.reduceEqDiff, ↓reduceIte, g53, f0, f3, f9, f10, f11]; refine yB (a ?_); clear a A) | (refine yD ?_; simp only [gresults, ↓yG, Nat.reduceEqDiff, ↓reduceIte, Option.bind_some, gld_1, gld_n, g53, f0, f3, f9, f10, f11]; refine ⟨_, rfl, ?_⟩; simp only [gone]))
  refine Gw_s fun K' hK' => G1_call (by simp only [gtarget, ↓GArg.ev, ↓evs, ↓Tr.get_set, Nat.reduceEqDiff, if_true, if_false, ↓reduceIte, Option.map_some, f0, f3, f9, f10, f11]; rfl) (growR_ok hw hcl) fun r2 H2 hq => hK' _ _ ?_
  repeat' (first | refine zA ?_ | refine zB ?_ | refine zC ?_ | refine zD ?_ | refine zE ?_ | refine zF ?_ | refine zG ?_ | refine zH ?_ | refine zI ?_ | refine zJ ?_ | refine zK rfl ?_ | refine zL ?_ | refine zM ?_ | refine zN ?_ | refine zO ?_ | refine zP rfl ?_ | refine zQ ?_ | ((first | refine zR ?_ | refine zS ?_ | refine zT ?_ | skip); intro K k; simp (disch := (first | (simp only [yD2, beq_self_eq_true, Nat.reduceLT, Nat.reduceAdd]; done) | ((fail_if_success (apply Bool.eq_iff_iff.2)); first | omega | (simp only [yD2, beq_self_eq_true, Nat.reduceLT, Nat.reduceAdd] <;> omega)) | fail)) only [↓yS, yT, ↓reduceIte, Nat.reduceEqDiff, Nat.reduceAdd, Nat.reduceMul, reduceCtorEq, Int.reduceToNat, g53, f0, f9, f10, hsl.len]; refine yC (k _ _ ?_); clear k K) | ((first | refine zU ?_ | refine zV ?_ | refine zW ?_); intro A B C D a b c d; simp only [↓yG, Nat.reduceEqDiff, ↓reduceIte, g53, f0, f9, f10, hsl.len]; (first | refine zX (a ?_) | refine zY (b ?_) | refine zZ (fun hc => c ?_) (fun hc => d ?_)) <;> clear a b c d A B C D <;> try simp only [yL] at hc) | (refine yA ?_; intro A a; simp only [↓yG, Nat.reduceEqDiff, ↓reduceIte, g53, f0, f9, f10, hsl.len]; refine yB (a ?_); clear a A) | (refine yD ?_; simp only [gresults, ↓yG, Nat.reduceEqDiff, ↓reduceIte, Option.bind_some, gld_1, gld_n, g53, f0, f9, f10, hsl.len]; refine ⟨_, rfl, ?_⟩; simp only [gone]))
  refine GW_loop (fun k fr H3 => ∃ (j : Nat) (w : Value), j ≤ L.length ∧ k = L.length - j ∧ fr.get 6 = some (w) ∧ fr.get 25 = some (v) ∧ fr.get 26 = some (.int .i64 L.length) ∧ fr.get 27 = some (.int .i64 j) ∧ OWR H1 H3 w (catR (L.take j))) ?_ L.length ?_
  case refine_2 =>
    refine ⟨0, r2, by omega, by omega, ?_⟩
    simp only [↓yG, Nat.reduceEqDiff, ↓reduceIte, Int.natCast_add, Int.cast_ofNat_Int, Int.natCast_zero, true_and, and_true, Option.some.injEq, Value.int.injEq, f0]
    exact hq
  rintro k fr H3 ⟨j, w, hj, rfl, f6, f25, f26, f27, hO⟩ J2 hJ2
  have hle := catR_le (L := L) j
  have hle2 := catR_le (L := L) (j + 1)
  by_cases hj1 : j < L.length
  · obtain ⟨_, hr, r1⟩ := (hv.later hw hO.1).row hj1
    have hct : (catR (L.take (j + 1))).length = (catR (L.take j)).length + L[j]!.2.length := by rw [catR_take hj1, List.length_append]
    repeat' (first | (exfalso; omega) | refine zA ?_ | refine zB ?_ | refine zC ?_ | refine zD ?_ | refine zE ?_ | refine zF ?_ | refine zG ?_ | refine zH ?_ | refine zI ?_ | refine zJ ?_ | refine zK rfl ?_ | refine zL ?_ | refine zM ?_ | refine zN ?_ | refine zO ?_ | refine zP rfl ?_ | refine zQ ?_ | ((first | refine zR ?_ | refine zS ?_ | refine zT ?_ | skip); intro K k; simp (disch := (first | (simp only [yD2, beq_self_eq_true, Nat.reduceLT, Nat.reduceAdd]; done) | ((fail_if_success (apply Bool.eq_iff_iff.2)); first | omega | (simp only [yD2, beq_self_eq_true, Nat.reduceLT, Nat.reduceAdd] <;> omega)) | fail)) only [↓yS, yT, ↓reduceIte, Nat.reduceEqDiff, Nat.reduceAdd, Nat.reduceMul, reduceCtorEq, Int.reduceToNat, g53, f6, f25, f26, f27, hsl.ia, hr]; refine yC (k _ _ ?_); clear k K) | ((first | refine zU ?_ | refine zV ?_ | refine zW ?_); intro A B C D a b c d; simp only [↓yG, Nat.reduceEqDiff, ↓reduceIte, g53, f6, f25, f26, f27, hsl.ia, hr]; (first | refine zX (a ?_) | refine zY (b ?_) | refine zZ (fun hc => c ?_) (fun hc => d ?_)) <;> clear a b c d A B C D <;> try simp only [yL] at hc) | (refine yA ?_; intro A a; simp only [↓yG, Nat.reduceEqDiff, ↓reduceIte, g53, f6, f25, f26, f27, hsl.ia, hr]; refine yB (a ?_); clear a A) | (refine yD ?_; simp only [gresults, ↓yG, Nat.reduceEqDiff, ↓reduceIte, Option.bind_some, gld_1, gld_n, g53, f6, f25, f26, f27, hsl.ia, hr]; refine ⟨_, rfl, ?_⟩; simp only [gone]))
    refine Gw_s fun K' hK' => ?_
    simp (disch := (first | (simp only [yD2, beq_self_eq_true, Nat.reduceLT, Nat.reduceAdd]; done) | ((fail_if_success (apply Bool.eq_iff_iff.2)); first | omega | (simp only [yD2, beq_self_eq_true, Nat.reduceLT, Nat.reduceAdd] <;> omega)) | fail)) only [↓yS, yT, ↓reduceIte, Nat.reduceEqDiff, Nat.reduceAdd, Nat.reduceMul, reduceCtorEq, Int.reduceToNat, f6, f25, f26, f27]
    obtain ⟨v', H', e, hO2⟩ := hO.app r1 (by omega)
    refine G1_eq e (hK' _ _ ?_)
    clear hK' K' e
    repeat' (first | refine zA ?_ | refine zB ?_ | refine zC ?_ | refine zD ?_ | refine zE ?_ | refine zF ?_ | refine zG ?_ | refine zH ?_ | refine zI ?_ | refine zJ ?_ | refine zK rfl ?_ | refine zL ?_ | refine zM ?_ | refine zN ?_ | refine zO ?_ | refine zP rfl ?_ | refine zQ ?_ | ((first | refine zR ?_ | refine zS ?_ | refine zT ?_ | skip); intro K k; simp (disch := (first | (simp only [yD2, beq_self_eq_true, Nat.reduceLT, Nat.reduceAdd]; done) | ((fail_if_success (apply Bool.eq_iff_iff.2)); first | omega | (simp only [yD2, beq_self_eq_true, Nat.reduceLT, Nat.reduceAdd] <;> omega)) | fail)) only [↓yS, yT, ↓reduceIte, Nat.reduceEqDiff, Nat.reduceAdd, Nat.reduceMul, reduceCtorEq, Int.reduceToNat, g53, f6, f25, f26, f27]; refine yC (k _ _ ?_); clear k K) | ((first | refine zU ?_ | refine zV ?_ | refine zW ?_); intro A B C D a b c d; simp only [↓yG, Nat.reduceEqDiff, ↓reduceIte, g53, f6, f25, f26, f27]; (first | refine zX (a ?_) | refine zY (b ?_) | refine zZ (fun hc => c ?_) (fun hc => d ?_)) <;> clear a b c d A B C D <;> try simp only [yL] at hc) | (refine yA ?_; intro A a; simp only [↓yG, Nat.reduceEqDiff, ↓reduceIte, g53, f6, f25, f26, f27]; refine yB (a ?_); clear a A) | (refine yD ?_; simp only [gresults, ↓yG, Nat.reduceEqDiff, ↓reduceIte, Option.bind_some, gld_1, gld_n, g53, f6, f25, f26, f27]; refine ⟨_, rfl, ?_⟩; simp only [gone]))
    refine hJ2 _ _ ⟨L.length - (j + 1), by omega, j + 1, v', by omega, rfl, ?_⟩
    simp only [↓yG, Nat.reduceEqDiff, ↓reduceIte, Int.natCast_add, Int.cast_ofNat_Int, Int.natCast_zero, true_and, and_true, Option.some.injEq, Value.int.injEq, f25, f26]
    rw [catR_take hj1]; exact hO2
  · obtain rfl : j = L.length := by omega
    rw [List.take_length] at hO
    repeat' (first | (exfalso; omega) | refine zA ?_ | refine zB ?_ | refine zC ?_ | refine zD ?_ | refine zE ?_ | refine zF ?_ | refine zG ?_ | refine zH ?_ | refine zI ?_ | refine zJ ?_ | refine zK rfl ?_ | refine zL ?_ | refine zM ?_ | refine zN ?_ | refine zO ?_ | refine zP rfl ?_ | refine zQ ?_ | ((first | refine zR ?_ | refine zS ?_ | refine zT ?_ | skip); intro K k; simp (disch := (first | (simp only [yD2, beq_self_eq_true, Nat.reduceLT, Nat.reduceAdd]; done) | ((fail_if_success (apply Bool.eq_iff_iff.2)); first | omega | (simp only [yD2, beq_self_eq_true, Nat.reduceLT, Nat.reduceAdd] <;> omega)) | fail)) only [↓yS, yT, ↓reduceIte, Nat.reduceEqDiff, Nat.reduceAdd, Nat.reduceMul, reduceCtorEq, Int.reduceToNat, g53, f6, f25, f26, f27]; refine yC (k _ _ ?_); clear k K) | ((first | refine zU ?_ | refine zV ?_ | refine zW ?_); intro A B C D a b c d; simp only [↓yG, Nat.reduceEqDiff, ↓reduceIte, g53, f6, f25, f26, f27]; (first | refine zX (a ?_) | refine zY (b ?_) | refine zZ (fun hc => c ?_) (fun hc => d ?_)) <;> clear a b c d A B C D <;> try simp only [yL] at hc) | (refine yA ?_; intro A a; simp only [↓yG, Nat.reduceEqDiff, ↓reduceIte, g53, f6, f25, f26, f27]; refine yB (a ?_); clear a A) | (refine yD ?_; simp only [gresults, ↓yG, Nat.reduceEqDiff, ↓reduceIte, Option.bind_some, gld_1, gld_n, g53, f6, f25, f26, f27]; refine ⟨_, rfl, ?_⟩; simp only [gone]))
    exact hPost _ _ hO
theorem Concat_ok {H : GHeap} (hw : H.wf) {a b : Value} {A B : List SR} (ha : RR H a A) (hb : RR H b B) (hll : A.length + B.length ≤ 16777216) (ht : tot A + tot B ≤ 70368744177664) :
    ∃ r H', gev G 20 [rowV a, rowV b] H = some (r, H') ∧ ∃ w, r = rowV w ∧ OR H H' w (normF (A ++ B)) := by
  refine gev_GW (f := 20) rfl fun Post hPost => ?_
  have hlim := hw.1
  have hfa := ha.flat
  have hfb := hb.flat
  simp only [frameOf, Nat.reduceAdd]
  have hf2 : fillL (List.replicate 2 (.slice none 0 0)) [(0, 1, a), (1, 1, b)] = some [a, b] := by
    simp [fillL, cells_flat hfa, cells_flat hfb, hfa, hfb]
  have hS1 : Same H (((H.add (some (.cells [a] 0 true))).add (some (.cells [b] 0 true))).add (some (.cells [.slice none 0 0] 0 true))) := (((Same.refl hw).add _).add _).add _
  have km : (((H.add (some (.cells [a] 0 true))).add (some (.cells [b] 0 true))).add (some (.cells [.slice none 0 0] 0 true))).mine (H.len + 1 + 1) = some ([.slice none 0 0], 0) := mine_add_eq (by rw [len_add, len_add]) (by rw [lim_add, lim_add]; omega)
  have hl1 : (((H.add (some (.cells [a] 0 true))).add (some (.cells [b] 0 true))).add (some (.cells [.slice none 0 0] 0 true))).len = H.len + 1 + 1 + 1 := by rw [len_add, len_add, len_add]
  repeat' (first | refine zA ?_ | refine zB ?_ | refine zC ?_ | refine zD ?_ | refine zE ?_ | refine zF ?_ | refine zG ?_ | refine zH ?_ | refine zI ?_ | refine zJ ?_ | refine zK rfl ?_ | refine zL ?_ | refine zM ?_ | refine zN ?_ | refine zO ?_ | refine zP rfl ?_ | refine zQ ?_ | ((first | refine zR ?_ | refine zS ?_ | refine zT ?_ | skip); intro K k; simp (disch := (first | (simp only [yD2, beq_self_eq_true, Nat.reduceLT, Nat.reduceAdd]; done) | ((fail_if_success (apply Bool.eq_iff_iff.2)); first | omega | (simp only [yD2, beq_self_eq_true, Nat.reduceLT, Nat.reduceAdd] <;> omega)) | fail)) only [↓yS, yT, ↓reduceIte, Nat.reduceEqDiff, Nat.reduceAdd, Nat.reduceMul, reduceCtorEq, Int.reduceToNat, g20, rowV_eq, agg_all, agg_list, hfa, hfb, hf2]; refine yC (k _ _ ?_); clear k K) | ((first | refine zU ?_ | refine zV ?_ | refine zW ?_); intro A B C D a b c d; simp only [↓yG, Nat.reduceEqDiff, ↓reduceIte, g20, rowV_eq, agg_all, agg_list, hfa, hfb, hf2]; (first | refine zX (a ?_) | refine zY (b ?_) | refine zZ (fun hc => c ?_) (fun hc => d ?_)) <;> clear a b c d A B C D <;> try simp only [yL] at hc) | (refine yA ?_; intro A a; simp only [↓yG, Nat.reduceEqDiff, ↓reduceIte, g20, rowV_eq, agg_all, agg_list, hfa, hfb, hf2]; refine yB (a ?_); clear a A) | (refine yD ?_; simp only [gresults, ↓yG, Nat.reduceEqDiff, ↓reduceIte, Option.bind_some, gld_1, gld_n, g20, rowV_eq, agg_all, agg_list, hfa, hfb, hf2]; refine ⟨_, rfl, ?_⟩; simp only [gone]))
  generalize ((H.add (some (.cells [a] 0 true))).add (some (.cells [b] 0 true))).add (some (.cells [.slice none 0 0] 0 true)) = H1 at *
  have T := TR.mk2 hS1.wf (ha.later hw hS1) (hb.later hw hS1)
  rw [hl1] at T
  have hS2 := hS1.add (.cells [a, b] 1 true)
  have hcat : catR [(a, A), (b, B)] = A ++ B := by simp [catR]
  refine Gw_s fun K' hK' => G1_call (by simp only [gtarget, ↓GArg.ev, ↓evs, ↓Tr.get_set, Nat.reduceEqDiff, if_true, if_false, ↓reduceIte, Option.map_some]; rfl) (concatS_ok hS2.wf T (by simp) (by rw [hcat, List.length_append]; omega)) fun r3 H3 hO3 => hK' _ _ ?_
  rw [hcat] at hO3
  have hS3 := hS2.trans hO3.1
  repeat' (first | refine zA ?_ | refine zB ?_ | refine zC ?_ | refine zD ?_ | refine zE ?_ | refine zF ?_ | refine zG ?_ | refine zH ?_ | refine zI ?_ | refine zJ ?_ | refine zK rfl ?_ | refine zL ?_ | refine zM ?_ | refine zN ?_ | refine zO ?_ | refine zP rfl ?_ | refine zQ ?_ | ((first | refine zR ?_ | refine zS ?_ | refine zT ?_ | skip); intro K k; simp (disch := (first | (simp only [yD2, beq_self_eq_true, Nat.reduceLT, Nat.reduceAdd]; done) | ((fail_if_success (apply Bool.eq_iff_iff.2)); first | omega | (simp only [yD2, beq_self_eq_true, Nat.reduceLT, Nat.reduceAdd] <;> omega)) | fail)) only [↓yS, yT, ↓reduceIte, Nat.reduceEqDiff, Nat.reduceAdd, Nat.reduceMul, reduceCtorEq, Int.reduceToNat, g20]; refine yC (k _ _ ?_); clear k K) | ((first | refine zU ?_ | refine zV ?_ | refine zW ?_); intro A B C D a b c d; simp only [↓yG, Nat.reduceEqDiff, ↓reduceIte, g20]; (first | refine zX (a ?_) | refine zY (b ?_) | refine zZ (fun hc => c ?_) (fun hc => d ?_)) <;> clear a b c d A B C D <;> try simp only [yL] at hc) | (refine yA ?_; intro A a; simp only [↓yG, Nat.reduceEqDiff, ↓reduceIte, g20]; refine yB (a ?_); clear a A) | (refine yD ?_; simp only [gresults, ↓yG, Nat.reduceEqDiff, ↓reduceIte, Option.bind_some, gld_1, gld_n, g20]; refine ⟨_, rfl, ?_⟩; simp only [gone]))
  refine Gw_s fun K' hK' => G1_call (by simp only [gtarget, ↓GArg.ev, ↓evs, ↓Tr.get_set, Nat.reduceEqDiff, if_true, if_false, ↓reduceIte, Option.map_some]; rfl) (norm_ok hS3.wf hO3.rr (by rw [List.length_append]; omega) (by rw [tot_append]; omega)) fun r4 H4 hq4 => hK' _ _ ?_
  obtain ⟨w, rfl, hO4⟩ := hq4
  have m4 : H4.mine (H.len + 1 + 1) = some ([.slice none 0 0], 0) := by
    rw [hO4.same.mine (by have := hO3.1.len; rw [len_add] at this; omega), hO3.1.mine (by rw [len_add]; omega), mine_add_ne (by omega)]; exact km
  obtain ⟨g1, g2, g3⟩ := (hO4.weaken hS3).res m4 rfl (by omega)
  repeat' (first | refine zA ?_ | refine zB ?_ | refine zC ?_ | refine zD ?_ | refine zE ?_ | refine zF ?_ | refine zG ?_ | refine zH ?_ | refine zI ?_ | refine zJ ?_ | refine zK rfl ?_ | refine zL ?_ | refine zM ?_ | refine zN ?_ | refine zO ?_ | refine zP rfl ?_ | refine zQ ?_ | ((first | refine zR ?_ | refine zS ?_ | refine zT ?_ | skip); intro K k; simp (disch := (first | (simp only [yD2, beq_self_eq_true, Nat.reduceLT, Nat.reduceAdd]; done) | ((fail_if_success (apply Bool.eq_iff_iff.2)); first | omega | (simp only [yD2, beq_self_eq_true, Nat.reduceLT, Nat.reduceAdd] <;> omega)) | fail)) only [↓yS, yT, ↓reduceIte, Nat.reduceEqDiff, Nat.reduceAdd, Nat.reduceMul, reduceCtorEq, Int.reduceToNat, g20, g1, g3]; refine yC (k _ _ ?_); clear k K) | ((first | refine zU ?_ | refine zV ?_ | refine zW ?_); intro A B C D a b c d; simp only [↓yG, Nat.reduceEqDiff, ↓reduceIte, g20, g1, g3]; (first | refine zX (a ?_) | refine zY (b ?_) | refine zZ (fun hc => c ?_) (fun hc => d ?_)) <;> clear a b c d A B C D <;> try simp only [yL] at hc) | (refine yA ?_; intro A a; simp only [↓yG, Nat.reduceEqDiff, ↓reduceIte, g20, g1, g3]; refine yB (a ?_); clear a A) | (refine yD ?_; simp only [gresults, ↓yG, Nat.reduceEqDiff, ↓reduceIte, Option.bind_some, gld_1, gld_n, g20, g1, g3]; refine ⟨_, rfl, ?_⟩; simp only [gone]))
  exact hPost _ _ ⟨w, rfl, g2⟩
theorem appM_new {H0 H : GHeap} {i : Nat} {x : Value} {A : List SR} (h : OS 5 5 H0 H (.slice (some ⟨i, 0, none⟩) 0 1) 0 []) (hx : RR H x A) (hl : A.length * 40 ≤ 140737488355328) :
    ∃ s' ro, gappM 5 40 5 H (.slice (some ⟨i, 0, none⟩) 0 1) x = some (s', ro) ∧ OS 5 5 H0 (H.add ro) s' A.length (RunsC A) ∧ Same H (H.add ro) := by
  have h1 := hx.count
  have h2 := hx.cells
  have hw := h.same.wf
  by_cases hA : A.length = 0
  · obtain rfl : A = [] := List.eq_nil_of_length_eq_zero hA
    refine ⟨_, none, ?_, h, Same.refl hw⟩
    simp only [gappM, h1, Option.bind_some, h2]
    rfl
  · have ho : gcells 5 0 H (.slice (some ⟨i, 0, none⟩) 0 1) = some [] := rfl
    refine ⟨.slice (some ⟨H.len, 0, none⟩) A.length 0, some (.cells (RunsC A) 5 true), ?_, ⟨h.same.add _, ⟨RunsC_len A, .inr ⟨H.len, 0, rfl, .inl rfl, mine_add_eq rfl hw.1⟩⟩, .inr h.same.len⟩, (Same.refl hw).add _⟩
    simp only [gappM, h1, Option.bind_some, h2]
    rw [if_neg hA, if_pos ⟨by omega, by omega, by decide, RunsC_len A⟩, if_pos ⟨by decide, by omega⟩, ho]
    simp
theorem rConcat_ok {H : GHeap} (hw : H.wf) {a b : Value} {A B : List SR} (ha : RR H a A) (hb : RR H b B) (hll : A.length + B.length ≤ 16777216) (ht : tot A + tot B ≤ 70368744177664) :
    ∃ r H', gev G 21 [rowV a, rowV b] H = some (r, H') ∧ ∃ w, r = rowV w ∧ OR H H' w (normF (A ++ B)) := by
  refine gev_GW (f := 21) rfl fun Post hPost => ?_
  have hlim := hw.1
  have hfa := ha.flat
  have hfb := hb.flat
  simp only [frameOf, Nat.reduceAdd]
  have hS1 : Same H (((H.add (some (.cells [a] 0 true))).add (some (.cells [b] 0 true))).add (some (.cells [.slice none 0 0] 0 true))) := (((Same.refl hw).add _).add _).add _
  have km : (((H.add (some (.cells [a] 0 true))).add (some (.cells [b] 0 true))).add (some (.cells [.slice none 0 0] 0 true))).mine (H.len + 1 + 1) = some ([.slice none 0 0], 0) := mine_add_eq (by rw [len_add, len_add]) (by rw [lim_add, lim_add]; omega)
  have hl1 : (((H.add (some (.cells [a] 0 true))).add (some (.cells [b] 0 true))).add (some (.cells [.slice none 0 0] 0 true))).len = H.len + 1 + 1 + 1 := by rw [len_add, len_add, len_add]
  have k1 : (((H.add (some (.cells [a] 0 true))).add (some (.cells [b] 0 true))).add (some (.cells [.slice none 0 0] 0 true))).rd (H.len + 1) 0 = some b := by
    rw [rd_add_ne (by rw [len_add, len_add]; omega), rd_add_eq (by rw [len_add])]; rfl
  repeat' (first | refine zA ?_ | refine zB ?_ | refine zC ?_ | refine zD ?_ | refine zE ?_ | refine zF ?_ | refine zG ?_ | refine zH ?_ | refine zI ?_ | refine zJ ?_ | refine zK rfl ?_ | refine zL ?_ | refine zM ?_ | refine zN ?_ | refine zO ?_ | refine zP rfl ?_ | refine zQ ?_ | ((first | refine zR ?_ | refine zS ?_ | refine zT ?_ | skip); intro K k; simp (disch := (first | (simp only [yD2, beq_self_eq_true, Nat.reduceLT, Nat.reduceAdd]; done) | ((fail_if_success (apply Bool.eq_iff_iff.2)); first | omega | (simp only [yD2, beq_self_eq_true, Nat.reduceLT, Nat.reduceAdd] <;> omega)) | fail)) only [↓yS, yT, ↓reduceIte, Nat.reduceEqDiff, Nat.reduceAdd, Nat.reduceMul, reduceCtorEq, Int.reduceToNat, g21, rowV_eq, agg_all, agg_list, hfa, hfb]; refine yC (k _ _ ?_); clear k K) | ((first | refine zU ?_ | refine zV ?_ | refine zW ?_); intro A B C D a b c d; simp only [↓yG, Nat.reduceEqDiff, ↓reduceIte, g21, rowV_eq, agg_all, agg_list, hfa, hfb]; (first | refine zX (a ?_) | refine zY (b ?_) | refine zZ (fun hc => c ?_) (fun hc => d ?_)) <;> clear a b c d A B C D <;> try simp only [yL] at hc) | (refine yA ?_; intro A a; simp only [↓yG, Nat.reduceEqDiff, ↓reduceIte, g21, rowV_eq, agg_all, agg_list, hfa, hfb]; refine yB (a ?_); clear a A) | (refine yD ?_; simp only [gresults, ↓yG, Nat.reduceEqDiff, ↓reduceIte, Option.bind_some, gld_1, gld_n, g21, rowV_eq, agg_all, agg_list, hfa, hfb]; refine ⟨_, rfl, ?_⟩; simp only [gone]))
  generalize ((H.add (some (.cells [a] 0 true))).add (some (.cells [b] 0 true))).add (some (.cells [.slice none 0 0] 0 true)) = H1 at *
  have hO0 : OS 5 5 H (H1.add (some (.cells [] 5 true))) (.slice (some ⟨H.len + 1 + 1 + 1, 0, none⟩) 0 1) 0 [] := by
    rw [← hl1]; exact OS.made' hS1 rfl
  have hS2 := hO0.same
  obtain ⟨s', ro, e1, hO1, hB1⟩ := appM_new hO0 (ha.later hw hS2) (by omega)
  have hz0 : zeros [.string ⟨#[]⟩, .int .u8 0, .bool false, .bool false, .string ⟨#[]⟩] 0 = [] := rfl
  rw [hz0]
  have m1 : ((H1.add (some (.cells [] 5 true))).add ro).mine (H.len + 1 + 1) = some ([.slice none 0 0], 0) := by
    rw [hB1.mine (by rw [len_add]; omega), mine_add_ne (by omega)]; exact km
  have kb : ((H1.add (some (.cells [] 5 true))).add ro).rd (H.len + 1) 0 = some b := by
    rw [hB1.rd (by rw [len_add]; omega), rd_add_ne (by omega)]; exact k1
  have hlb : H1.len + 1 ≤ ((H1.add (some (.cells [] 5 true))).add ro).len := by have := hB1.len; rw [len_add] at this; omega
  repeat' (first | refine zA ?_ | refine zB ?_ | refine zC ?_ | refine zD ?_ | refine zE ?_ | refine zF ?_ | refine zG ?_ | refine zH ?_ | refine zI ?_ | refine zJ ?_ | refine zK rfl ?_ | refine zL ?_ | refine zM ?_ | refine zN ?_ | refine zO ?_ | refine zP rfl ?_ | refine zQ ?_ | ((first | refine zR ?_ | refine zS ?_ | refine zT ?_ | skip); intro K k; simp (disch := (first | (simp only [yD2, beq_self_eq_true, Nat.reduceLT, Nat.reduceAdd]; done) | ((fail_if_success (apply Bool.eq_iff_iff.2)); first | omega | (simp only [yD2, beq_self_eq_true, Nat.reduceLT, Nat.reduceAdd] <;> omega)) | fail)) only [↓yS, yT, ↓reduceIte, Nat.reduceEqDiff, Nat.reduceAdd, Nat.reduceMul, reduceCtorEq, Int.reduceToNat, g21, e1, kb]; refine yC (k _ _ ?_); clear k K) | ((first | refine zU ?_ | refine zV ?_ | refine zW ?_); intro A B C D a b c d; simp only [↓yG, Nat.reduceEqDiff, ↓reduceIte, g21, e1, kb]; (first | refine zX (a ?_) | refine zY (b ?_) | refine zZ (fun hc => c ?_) (fun hc => d ?_)) <;> clear a b c d A B C D <;> try simp only [yL] at hc) | (refine yA ?_; intro A a; simp only [↓yG, Nat.reduceEqDiff, ↓reduceIte, g21, e1, kb]; refine yB (a ?_); clear a A) | (refine yD ?_; simp only [gresults, ↓yG, Nat.reduceEqDiff, ↓reduceIte, Option.bind_some, gld_1, gld_n, g21, e1, kb]; refine ⟨_, rfl, ?_⟩; simp only [gone]))
  generalize (H1.add (some (.cells [] 5 true))).add ro = H2 at *
  refine Gw_s fun K' hK' => ?_
  simp (disch := (first | (simp only [yD2, beq_self_eq_true, Nat.reduceLT, Nat.reduceAdd]; done) | ((fail_if_success (apply Bool.eq_iff_iff.2)); first | omega | (simp only [yD2, beq_self_eq_true, Nat.reduceLT, Nat.reduceAdd] <;> omega)) | fail)) only [↓yS, yT, ↓reduceIte, Nat.reduceEqDiff, Nat.reduceAdd, Nat.reduceMul, reduceCtorEq, Int.reduceToNat]
  obtain ⟨v', H3, e, hO3, hB3⟩ := hO1.appN (by decide) (by decide) (hb.later hw hO1.same) (b := 40) (by omega) (by omega)
  refine G1_eq e (hK' _ _ ?_)
  clear hK' K' e
  have hO3' : OR H H3 v' (A ++ B) := by
    have e1 : RunsC (A ++ B) = RunsC A ++ RunsC B := by simp [RunsC]
    unfold OR
    rw [e1, List.length_append]; exact hO3
  have m3 : H3.mine (H.len + 1 + 1) = some ([.slice none 0 0], 0) := by
    rw [hB3.mine (by omega) (fun ha => by
      have := (hO1.ids ha).2.2
      rw [m1] at this
      simp at this)]; exact m1
  have hb1 : fillL [.slice none 0 0] [(0, 1, v')] = some [v'] := fillL_1 rfl hO3'.flat
  have hrv : ∀ w, Value.agg [w].toArray = rowV w := fun _ => rfl
  repeat' (first | refine zA ?_ | refine zB ?_ | refine zC ?_ | refine zD ?_ | refine zE ?_ | refine zF ?_ | refine zG ?_ | refine zH ?_ | refine zI ?_ | refine zJ ?_ | refine zK rfl ?_ | refine zL ?_ | refine zM ?_ | refine zN ?_ | refine zO ?_ | refine zP rfl ?_ | refine zQ ?_ | ((first | refine zR ?_ | refine zS ?_ | refine zT ?_ | skip); intro K k; simp (disch := (first | (simp only [yD2, beq_self_eq_true, Nat.reduceLT, Nat.reduceAdd]; done) | ((fail_if_success (apply Bool.eq_iff_iff.2)); first | omega | (simp only [yD2, beq_self_eq_true, Nat.reduceLT, Nat.reduceAdd] <;> omega)) | fail)) only [↓yS, yT, ↓reduceIte, Nat.reduceEqDiff, Nat.reduceAdd, Nat.reduceMul, reduceCtorEq, Int.reduceToNat, g21, hb1, hrv]; refine yC (k _ _ ?_); clear k K) | ((first | refine zU ?_ | refine zV ?_ | refine zW ?_); intro A B C D a b c d; simp only [↓yG, Nat.reduceEqDiff, ↓reduceIte, g21, hb1, hrv]; (first | refine zX (a ?_) | refine zY (b ?_) | refine zZ (fun hc => c ?_) (fun hc => d ?_)) <;> clear a b c d A B C D <;> try simp only [yL] at hc) | (refine yA ?_; intro A a; simp only [↓yG, Nat.reduceEqDiff, ↓reduceIte, g21, hb1, hrv]; refine yB (a ?_); clear a A) | (refine yD ?_; simp only [gresults, ↓yG, Nat.reduceEqDiff, ↓reduceIte, Option.bind_some, gld_1, gld_n, g21, hb1, hrv]; refine ⟨_, rfl, ?_⟩; simp only [gone]))
  refine Gw_s fun K' hK' => G1_call (by simp only [gtarget, ↓GArg.ev, ↓evs, ↓Tr.get_set, Nat.reduceEqDiff, if_true, if_false, ↓reduceIte, Option.map_some]; rfl) (rnorm_ok hO3'.same.wf hO3'.rr (by rw [List.length_append]; omega) (by rw [tot_append]; omega)) fun r4 H4 hq4 => hK' _ _ ?_
  obtain ⟨w, rfl, hO4⟩ := hq4
  have m4 : H4.mine (H.len + 1 + 1) = some ([.slice none 0 0], 0) := by
    rw [hO4.same.mine (mine_lt hO3'.same.wf m3)]; exact m3
  obtain ⟨g1, g2, g3⟩ := (hO4.weaken hO3'.same).res m4 rfl (by omega)
  repeat' (first | refine zA ?_ | refine zB ?_ | refine zC ?_ | refine zD ?_ | refine zE ?_ | refine zF ?_ | refine zG ?_ | refine zH ?_ | refine zI ?_ | refine zJ ?_ | refine zK rfl ?_ | refine zL ?_ | refine zM ?_ | refine zN ?_ | refine zO ?_ | refine zP rfl ?_ | refine zQ ?_ | ((first | refine zR ?_ | refine zS ?_ | refine zT ?_ | skip); intro K k; simp (disch := (first | (simp only [yD2, beq_self_eq_true, Nat.reduceLT, Nat.reduceAdd]; done) | ((fail_if_success (apply Bool.eq_iff_iff.2)); first | omega | (simp only [yD2, beq_self_eq_true, Nat.reduceLT, Nat.reduceAdd] <;> omega)) | fail)) only [↓yS, yT, ↓reduceIte, Nat.reduceEqDiff, Nat.reduceAdd, Nat.reduceMul, reduceCtorEq, Int.reduceToNat, g21, g1, g3]; refine yC (k _ _ ?_); clear k K) | ((first | refine zU ?_ | refine zV ?_ | refine zW ?_); intro A B C D a b c d; simp only [↓yG, Nat.reduceEqDiff, ↓reduceIte, g21, g1, g3]; (first | refine zX (a ?_) | refine zY (b ?_) | refine zZ (fun hc => c ?_) (fun hc => d ?_)) <;> clear a b c d A B C D <;> try simp only [yL] at hc) | (refine yA ?_; intro A a; simp only [↓yG, Nat.reduceEqDiff, ↓reduceIte, g21, g1, g3]; refine yB (a ?_); clear a A) | (refine yD ?_; simp only [gresults, ↓yG, Nat.reduceEqDiff, ↓reduceIte, Option.bind_some, gld_1, gld_n, g21, g1, g3]; refine ⟨_, rfl, ?_⟩; simp only [gone]))
  exact hPost _ _ ⟨w, rfl, g2⟩
end Go.Gh
