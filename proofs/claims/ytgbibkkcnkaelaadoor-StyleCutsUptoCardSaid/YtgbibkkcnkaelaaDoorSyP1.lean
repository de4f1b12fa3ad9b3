/-
  style and its reference, walked: At.
-/
import Derived.Test.YtgbibkkcnkaelaaDoorSyA2
namespace Go.Gh
set_option linter.unusedSimpArgs false
set_option linter.unusedVariables false
open Go.RowKit
set_option maxRecDepth 4000

/-- the characters of a row, with their styles -/
def runCh (x : SR) : List (Nat × Sy) := (rns (strB x.t)).map fun c => (c, x.s)
def charsR (l : List SR) : List (Nat × Sy) := l.flatMap runCh
theorem runCh_len (x : SR) : (runCh x).length = cntR x := by simp [runCh, cntR]
theorem charsR_len (l : List SR) : (charsR l).length = cntL l := by
  induction l with
  | nil => rfl
  | cons x l ih =>
    simp only [charsR, List.flatMap_cons, List.length_append, cntL, List.map_cons, List.sum_cons] at ih ⊢
    rw [ih, runCh_len]
theorem charsR_at {l : List SR} {j i : Nat} (hj : j < l.length) (h1 : cntL (l.take j) ≤ i) (h2 : i - cntL (l.take j) < cntR l[j]!) : (charsR l)[i]? = some ((rns (strB l[j]!.t))[i - cntL (l.take j)]!, l[j]!.s) := by
  have e : l = l.take j ++ l[j]! :: l.drop (j + 1) := by
    rw [← drop_bangR hj, List.take_append_drop]
  have e2 : charsR l = charsR (l.take j) ++ (runCh l[j]! ++ charsR (l.drop (j + 1))) := by
    conv => lhs; rw [e]
    simp [charsR]
  rw [e2, List.getElem?_append_right (by rw [charsR_len]; exact h1), charsR_len, List.getElem?_append_left (by rw [runCh_len]; exact h2), runCh, List.getElem?_map, gget (by rw [← cntR]; exact h2)]
  rfl
def syZ : Sy := ⟨0, false, false⟩
def atF (l : List SR) (i : Int) : Option (Nat × Sy) := if 0 ≤ i ∧ i < lenF l then (charsR l)[i.toNat]? else none
def atV : Option (Nat × Sy) → Value
  | some (c, s) => .tuple #[.int .i32 (c : Int), syV s, .bool true]
  | none => .tuple #[.int .i32 0, syV syZ, .bool false]
theorem lenF_all {l : List SR} (h : 0 ≤ lenF l) : l.all vR = true ∧ lenF l = (cntL l : Nat) := by
  unfold lenF at h ⊢
  split
  · rename_i h2; exact ⟨h2, rfl⟩
  · rename_i h2; rw [if_neg h2] at h; omega
theorem fill_syz : fillL [.int .u8 0, .bool false, .bool false] [] = some (syC syZ) := rfl
theorem at_ok {H : GHeap} (hw : H.wf) {v : Value} {l : List SR} (hv : RR H v l) (hll : l.length ≤ 16777216) (ht : tot l ≤ 4398046511104) {i : Int} (hi : -9223372036854775808 ≤ i ∧ i ≤ 9223372036854775807) :
    ∃ r H', gev G 11 [rowV v, .int .i64 i] H = some (r, H') ∧ (r = atV (atF l i) ∧ Same H H') := by
  refine gev_GW (f := 11) rfl fun Post hPost => ?_
  have hlim := hw.1
  have hf := hv.flat
  have hsl := hv.isSl
  simp only [frameOf, Nat.reduceAdd]
  have hS0 : Same H ((H.add (some (.cells [v] 0 true))).add (some (.cells (syC syZ) 0 true))) := ((Same.refl hw).add _).add _
  have hzc : [Value.int .u8 0, .bool false, .bool false] = syC syZ := rfl
  have hpn : ∀ H', Same H H' → atF l i = none → Post (.tuple #[.int .i32 0, syV syZ, .bool false]) H' := fun H' h1 h2 => hPost _ _ ⟨by rw [h2]; rfl, h1⟩
  have hpy : ∀ H' c s, Same H H' → atF l i = some (c, s) → Post (.tuple #[.int .i32 ((c : Nat) : Int), syV s, .bool true]) H' := fun H' c s h1 h2 => hPost _ _ ⟨by rw [h2]; rfl, h1⟩
  clear hPost
  have kr : ((H.add (some (.cells [v] 0 true))).add (some (.cells (syC syZ) 0 true))).rdn H.len 0 1 = some (rowV v) := by
    rw [rdn_add_ne (by rw [len_add]; omega)]; exact rdn_add_all (n := 1) rfl rfl
  have k0 : ((H.add (some (.cells [v] 0 true))).add (some (.cells (syC syZ) 0 true))).rd H.len 0 = some v := by
    rw [rd_add_ne (by rw [len_add]; omega), rd_add_eq rfl]; rfl
  have km : ((H.add (some (.cells [v] 0 true))).add (some (.cells (syC syZ) 0 true))).mine (H.len + 1) = some (syC syZ, 0) := mine_add_eq (by rw [len_add]) (by rw [lim_add]; omega)
  have hl0 : ((H.add (some (.cells [v] 0 true))).add (some (.cells (syC syZ) 0 true))).len = H.len + 2 := by rw [len_add, len_add]
  have hagg : ∀ s : Sy, Value.agg (syC s).toArray = syV s := fun _ => rfl
  -- a style, written into the result's place
  have res : ∀ {H1 : GHeap} (s : Sy), Same H H1 → H1.mine (H.len + 1) = some (syC syZ, 0) → gst (some 3) H1 (.pointer (some ⟨H.len + 1, 0, none⟩)) (syV s) = some (H1.put (H.len + 1) (.cells (syC s) 0 true)) ∧ Same H (H1.put (H.len + 1) (.cells (syC s) 0 true)) ∧ (H1.put (H.len + 1) (.cells (syC s) 0 true)).rdn (H.len + 1) 0 3 = some (syV s) := fun {H1} s hs hm => by
    refine ⟨?_, hs.put (by omega) (mine_lt hs.wf hm) _, rdn_syp⟩
    rw [gst_n, hm, Option.bind_some, gsetn_sy rfl]; rfl
  by_cases h0 : i < 0
  · obtain ⟨g1, g2, g3⟩ := res syZ hS0 km
    repeat' (first | (exfalso; omega) | refine zA ?_ | refine zB ?_ | refine zC ?_ | refine zD ?_ | refine zE ?_ | refine zF ?_ | refine zG ?_ | refine zH ?_ | refine zI ?_ | refine zJ ?_ | refine zK rfl ?_ | refine zL ?_ | refine zM ?_ | refine zN ?_ | refine zO ?_ | refine zP rfl ?_ | refine zQ ?_ | ((first | refine zR ?_ | refine zS ?_ | refine zT ?_ | skip); intro K k; simp (disch := (first | (simp only [yD2, beq_self_eq_true, Nat.reduceLT, Nat.reduceAdd]; done) | ((fail_if_success (apply Bool.eq_iff_iff.2)); first | omega | (simp only [yD2, beq_self_eq_true, Nat.reduceLT, Nat.reduceAdd] <;> omega)) | fail)) only [↓yS, yT, ↓reduceIte, Nat.reduceEqDiff, Nat.reduceAdd, Nat.reduceMul, reduceCtorEq, Int.reduceToNat, g11, rowV_eq, agg_all, agg_list, hf, hzc, hagg, g1, g3]; refine yC (k _ _ ?_); clear k K) | ((first | refine zU ?_ | refine zV ?_ | refine zW ?_); intro A B C D a b c d; simp only [↓yG, Nat.reduceEqDiff, ↓reduceIte, g11, rowV_eq, agg_all, agg_list, hf, hzc, hagg, g1, g3]; (first | refine zX (a ?_) | refine zY (b ?_) | refine zZ (fun hc => c ?_) (fun hc => d ?_)) <;> clear a b c d A B C D <;> try simp only [yL] at hc) | (refine yA ?_; intro A a; simp only [↓yG, Nat.reduceEqDiff, ↓reduceIte, g11, rowV_eq, agg_all, agg_list, hf, hzc, hagg, g1, g3]; refine yB (a ?_); clear a A) | (refine yD ?_; simp only [gresults, ↓yG, Nat.reduceEqDiff, ↓reduceIte, Option.bind_some, gld_1, gld_n, g11, rowV_eq, agg_all, agg_list, hf, hzc, hagg, g1, g3]; refine ⟨_, rfl, ?_⟩; simp only [gone]))
    exact hpn _ g2 (by unfold atF; rw [if_neg (by omega)])
  · repeat' (first | (exfalso; omega) | refine zA ?_ | refine zB ?_ | refine zC ?_ | refine zD ?_ | refine zE ?_ | refine zF ?_ | refine zG ?_ | refine zH ?_ | refine zI ?_ | refine zJ ?_ | refine zK rfl ?_ | refine zL ?_ | refine zM ?_ | refine zN ?_ | refine zO ?_ | refine zP rfl ?_ | refine zQ ?_ | ((first | refine zR ?_ | refine zS ?_ | refine zT ?_ | skip); intro K k; simp (disch := (first | (simp only [yD2, beq_self_eq_true, Nat.reduceLT, Nat.reduceAdd]; done) | ((fail_if_success (apply Bool.eq_iff_iff.2)); first | omega | (simp only [yD2, beq_self_eq_true, Nat.reduceLT, Nat.reduceAdd] <;> omega)) | fail)) only [↓yS, yT, ↓reduceIte, Nat.reduceEqDiff, Nat.reduceAdd, Nat.reduceMul, reduceCtorEq, Int.reduceToNat, g11, rowV_eq, agg_all, agg_list, hf, hzc]; refine yC (k _ _ ?_); clear k K) | ((first | refine zU ?_ | refine zV ?_ | refine zW ?_); intro A B C D a b c d; simp only [↓yG, Nat.reduceEqDiff, ↓reduceIte, g11, rowV_eq, agg_all, agg_list, hf, hzc]; (first | refine zX (a ?_) | refine zY (b ?_) | refine zZ (fun hc => c ?_) (fun hc => d ?_)) <;> clear a b c d A B C D <;> try simp only [yL] at hc) | (refine yA ?_; intro A a; simp only [↓yG, Nat.reduceEqDiff, ↓reduceIte, g11, rowV_eq, agg_all, agg_list, hf, hzc]; refine yB (a ?_); clear a A) | (refine yD ?_; simp only [gresults, ↓yG, Nat.reduceEqDiff, ↓reduceIte, Option.bind_some, gld_1, gld_n, g11, rowV_eq, agg_all, agg_list, hf, hzc]; refine ⟨_, rfl, ?_⟩; simp only [gone]))
    rw [← rowV_eq] at *
    generalize (H.add (some (.cells [v] 0 true))).add (some (.cells (syC syZ) 0 true)) = Hb at *
    repeat' (first | (exfalso; omega) | refine zA ?_ | refine zB ?_ | refine zC ?_ | refine zD ?_ | refine zE ?_ | refine zF ?_ | refine zG ?_ | refine zH ?_ | refine zI ?_ | refine zJ ?_ | refine zK rfl ?_ | refine zL ?_ | refine zM ?_ | refine zN ?_ | refine zO ?_ | refine zP rfl ?_ | refine zQ ?_ | ((first | refine zR ?_ | refine zS ?_ | refine zT ?_ | skip); intro K k; simp (disch := (first | (simp only [yD2, beq_self_eq_true, Nat.reduceLT, Nat.reduceAdd]; done) | ((fail_if_success (apply Bool.eq_iff_iff.2)); first | omega | (simp only [yD2, beq_self_eq_true, Nat.reduceLT, Nat.reduceAdd] <;> omega)) | fail)) only [↓yS, yT, ↓reduceIte, Nat.reduceEqDiff, Nat.reduceAdd, Nat.reduceMul, reduceCtorEq, Int.reduceToNat, g11, kr]; refine yC (k _ _ ?_); clear k K) | ((first | refine zU ?_ | refine zV ?_ | refine zW ?_); intro A B C D a b c d; simp only [↓yG, Nat.reduceEqDiff, ↓reduceIte, g11, kr]; (first | refine zX (a ?_) | refine zY (b ?_) | refine zZ (fun hc => c ?_) (fun hc => d ?_)) <;> clear a b c d A B C D <;> try simp only [yL] at hc) | (refine yA ?_; intro A a; simp only [↓yG, Nat.reduceEqDiff, ↓reduceIte, g11, kr]; refine yB (a ?_); clear a A) | (refine yD ?_; simp only [gresults, ↓yG, Nat.reduceEqDiff, ↓reduceIte, Option.bind_some, gld_1, gld_n, g11, kr]; refine ⟨_, rfl, ?_⟩; simp only [gone]))
    intro K' hK'; refine G1_call (by simp only [gtarget, ↓GArg.ev, ↓evs, ↓Tr.get_set, Nat.reduceEqDiff, if_true, if_false, ↓reduceIte, Option.map_some]; rfl) (Len_ok hS0.wf (hv.later hw hS0) hll ht) fun r1 H1 hq => hK' _ _ ?_
    obtain ⟨rfl, hS⟩ := hq
    have hS1 := hS0.trans hS
    have km1 : H1.mine (H.len + 1) = some (syC syZ, 0) := by rw [hS.mine (by omega)]; exact km
    have k01 : H1.rd H.len 0 = some v := by rw [hS.rd (by omega)]; exact k0
    have hlr := cntL_le l
    have hl1 : lenF l ≤ 4398046511104 := by
      unfold lenF; split <;> omega
    by_cases hin : i < lenF l
    rotate_left
    · obtain ⟨g1, g2, g3⟩ := res syZ hS1 km1
      repeat' (first | (exfalso; omega) | refine zA ?_ | refine zB ?_ | refine zC ?_ | refine zD ?_ | refine zE ?_ | refine zF ?_ | refine zG ?_ | refine zH ?_ | refine zI ?_ | refine zJ ?_ | refine zK rfl ?_ | refine zL ?_ | refine zM ?_ | refine zN ?_ | refine zO ?_ | refine zP rfl ?_ | refine zQ ?_ | ((first | refine zR ?_ | refine zS ?_ | refine zT ?_ | skip); intro K k; simp (disch := (first | (simp only [yD2, beq_self_eq_true, Nat.reduceLT, Nat.reduceAdd]; done) | ((fail_if_success (apply Bool.eq_iff_iff.2)); first | omega | (simp only [yD2, beq_self_eq_true, Nat.reduceLT, Nat.reduceAdd] <;> omega)) | fail)) only [↓yS, yT, ↓reduceIte, Nat.reduceEqDiff, Nat.reduceAdd, Nat.reduceMul, reduceCtorEq, Int.reduceToNat, g11, hzc, hagg, g1, g3]; refine yC (k _ _ ?_); clear k K) | ((first | refine zU ?_ | refine zV ?_ | refine zW ?_); intro A B C D a b c d; simp only [↓yG, Nat.reduceEqDiff, ↓reduceIte, g11, hzc, hagg, g1, g3]; (first | refine zX (a ?_) | refine zY (b ?_) | refine zZ (fun hc => c ?_) (fun hc => d ?_)) <;> clear a b c d A B C D <;> try simp only [yL] at hc) | (refine yA ?_; intro A a; simp only [↓yG, Nat.reduceEqDiff, ↓reduceIte, g11, hzc, hagg, g1, g3]; refine yB (a ?_); clear a A) | (refine yD ?_; simp only [gresults, ↓yG, Nat.reduceEqDiff, ↓reduceIte, Option.bind_some, gld_1, gld_n, g11, hzc, hagg, g1, g3]; refine ⟨_, rfl, ?_⟩; simp only [gone]))
      exact hpn _ g2 (by unfold atF; rw [if_neg (by omega)])
    obtain ⟨hall, hlc⟩ := lenF_all (l := l) (by omega)
    have hat : atF l i = (charsR l)[i.toNat]? := by unfold atF; rw [if_pos ⟨by omega, hin⟩]
    repeat' (first | (exfalso; omega) | refine zA ?_ | refine zB ?_ | refine zC ?_ | refine zD ?_ | refine zE ?_ | refine zF ?_ | refine zG ?_ | refine zH ?_ | refine zI ?_ | refine zJ ?_ | refine zK rfl ?_ | refine zL ?_ | refine zM ?_ | refine zN ?_ | refine zO ?_ | refine zP rfl ?_ | refine zQ ?_ | ((first | refine zR ?_ | refine zS ?_ | refine zT ?_ | skip); intro K k; simp (disch := (first | (simp only [yD2, beq_self_eq_true, Nat.reduceLT, Nat.reduceAdd]; done) | ((fail_if_success (apply Bool.eq_iff_iff.2)); first | omega | (simp only [yD2, beq_self_eq_true, Nat.reduceLT, Nat.reduceAdd] <;> omega)) | fail)) only [↓yS, yT, ↓reduceIte, Nat.reduceEqDiff, Nat.reduceAdd, Nat.reduceMul, reduceCtorEq, Int.reduceToNat, g11, k01, hsl.len]; refine yC (k _ _ ?_); clear k K) | ((first | refine zU ?_ | refine zV ?_ | refine zW ?_); intro A B C D a b c d; simp only [↓yG, Nat.reduceEqDiff, ↓reduceIte, g11, k01, hsl.len]; (first | refine zX (a ?_) | refine zY (b ?_) | refine zZ (fun hc => c ?_) (fun hc => d ?_)) <;> clear a b c d A B C D <;> try simp only [yL] at hc) | (refine yA ?_; intro A a; simp only [↓yG, Nat.reduceEqDiff, ↓reduceIte, g11, k01, hsl.len]; refine yB (a ?_); clear a A) | (refine yD ?_; simp only [gresults, ↓yG, Nat.reduceEqDiff, ↓reduceIte, Option.bind_some, gld_1, gld_n, g11, k01, hsl.len]; refine ⟨_, rfl, ?_⟩; simp only [gone]))
    refine GW_loop (fun k fr Hk => ∃ (j : Nat), k = l.length - j ∧ j ≤ l.length ∧ fr.get 1 = some (.int .i64 (i - cntL (l.take j))) ∧ fr.get 5 = some (.pointer (some ⟨H.len + 1, 0, none⟩)) ∧ fr.get 20 = some (v) ∧ fr.get 21 = some (.int .i64 l.length) ∧ fr.get 22 = some (.int .i64 j) ∧ Same H1 Hk ∧ cntL (l.take j) ≤ i) ?_ l.length ?_
    rotate_left
    · refine ⟨0, by omega, by omega, ?_⟩
      simp only [↓yG, Nat.reduceEqDiff, ↓reduceIte, Int.natCast_add, Int.cast_ofNat_Int, Int.natCast_zero, true_and, and_true, Option.some.injEq, Value.int.injEq]
      have hz : cntL (l.take 0) = 0 := rfl
      refine ⟨by rw [hz]; simp, Same.refl hS1.wf, by rw [hz]; omega⟩
    rintro k fr H2 ⟨j, rfl, hj, f1, f5, f20, f21, f22, hS2, hji⟩ J hJ
    have hw2 := hS2.wf
    have hlim2 := hw2.1
    by_cases hj1 : j < l.length
    · have e1 := ((hv.later hw hS1).later hS1.wf hS2).rowN hj1
      have hmem : l[j]! ∈ l := by rw [getElem!_pos l j hj1]; exact List.getElem_mem _
      have hmt := mem_tot hmem
      have hvx := List.all_eq_true.1 hall _ hmem
      have hstep := cntL_take hj1
      have hca := charsR_at (l := l) (j := j) (i := i.toNat) hj1 (by omega)
      generalize hx : l[j]! = x at *
      have hch : charL (strB x.t) = rns (strB x.t) := charL_yes hvx
      obtain ⟨H3, hH3⟩ : ∃ H3, H3 = (H2.add (some (.cells [.string ⟨#[]⟩, .int .u8 0, .bool false, .bool false, .string ⟨#[]⟩] 0 true))).put H2.len (.cells (runC x) 0 true) := ⟨_, rfl⟩
      have hS23 : Same H2 H3 := hH3 ▸ (Same.refl hw2).new _ _
      have hl3 : H2.len < H3.len := by rw [hH3, len_put, len_add]; omega
      have x3 : H3.rdn H2.len 1 3 = some (syV x.s) := by rw [hH3, rdn_run3p]
      repeat' (first | (exfalso; omega) | refine zA ?_ | refine zB ?_ | refine zC ?_ | refine zD ?_ | refine zE ?_ | refine zF ?_ | refine zG ?_ | refine zH ?_ | refine zI ?_ | refine zJ ?_ | refine zK rfl ?_ | refine zL ?_ | refine zM ?_ | refine zN ?_ | refine zO ?_ | refine zP rfl ?_ | refine zQ ?_ | ((first | refine zR ?_ | refine zS ?_ | refine zT ?_ | skip); intro K k; simp (disch := (first | (simp only [yD2, beq_self_eq_true, Nat.reduceLT, Nat.reduceAdd]; done) | ((fail_if_success (apply Bool.eq_iff_iff.2)); first | omega | (simp only [yD2, beq_self_eq_true, Nat.reduceLT, Nat.reduceAdd] <;> omega)) | fail)) only [↓yS, yT, ↓reduceIte, Nat.reduceEqDiff, Nat.reduceAdd, Nat.reduceMul, reduceCtorEq, Int.reduceToNat, g11, f1, f5, f20, f21, f22, RN, hsl.ia, e1]; refine yC (k _ _ ?_); clear k K) | ((first | refine zU ?_ | refine zV ?_ | refine zW ?_); intro A B C D a b c d; simp only [↓yG, Nat.reduceEqDiff, ↓reduceIte, g11, f1, f5, f20, f21, f22, RN, hsl.ia, e1]; (first | refine zX (a ?_) | refine zY (b ?_) | refine zZ (fun hc => c ?_) (fun hc => d ?_)) <;> clear a b c d A B C D <;> try simp only [yL] at hc) | (refine yA ?_; intro A a; simp only [↓yG, Nat.reduceEqDiff, ↓reduceIte, g11, f1, f5, f20, f21, f22, RN, hsl.ia, e1]; refine yB (a ?_); clear a A) | (refine yD ?_; simp only [gresults, ↓yG, Nat.reduceEqDiff, ↓reduceIte, Option.bind_some, gld_1, gld_n, g11, f1, f5, f20, f21, f22, RN, hsl.ia, e1]; refine ⟨_, rfl, ?_⟩; simp only [gone]))
      rw [← hH3]
      refine Gw_s fun K' hK' => G1_call (by simp only [gtarget, ↓GArg.ev, ↓evs, ↓Tr.get_set, Nat.reduceEqDiff, if_true, if_false, ↓reduceIte, Option.map_some, f1, f5, f20, f21, f22]; rfl) (chars_ok (s := strB x.t) (by rw [strB_size]; omega) hS23.wf) fun cv H4 hO => hK' _ _ ?_
      rw [hch] at hO
      have hcl : (rns (strB x.t)).length = cntR x := rfl
      have hsc := hO.rd.isSl
      rw [hcl] at hO hsc
      have hS14 := hS2.trans (hS23.trans hO.same)
      have km4 : H4.mine (H.len + 1) = some (syC syZ, 0) := by rw [hS14.mine (mine_lt hS1.wf km1)]; exact km1
      have x34 : H4.rdn H2.len 1 3 = some (syV x.s) := by rw [hO.same.rdn hl3]; exact x3
      by_cases hlt : i - cntL (l.take j) < cntR x
      · have hit : (i - cntL (l.take j)).toNat = i.toNat - cntL (l.take j) := by omega
        have hrd : H4.rd (blk cv) (ofs cv + (i.toNat - cntL (l.take j))) = some (.int .i32 ((rns (strB x.t))[i.toNat - cntL (l.take j)]! : Nat)) := by
          rw [hO.rd.rd (by rw [RL_len]; omega), RL_at (by omega)]
        obtain ⟨g1, g2, g3⟩ := res x.s (hS1.trans hS14) km4
        repeat' (first | (exfalso; omega) | refine zA ?_ | refine zB ?_ | refine zC ?_ | refine zD ?_ | refine zE ?_ | refine zF ?_ | refine zG ?_ | refine zH ?_ | refine zI ?_ | refine zJ ?_ | refine zK rfl ?_ | refine zL ?_ | refine zM ?_ | refine zN ?_ | refine zO ?_ | refine zP rfl ?_ | refine zQ ?_ | ((first | refine zR ?_ | refine zS ?_ | refine zT ?_ | skip); intro K k; simp (disch := (first | (simp only [yD2, beq_self_eq_true, Nat.reduceLT, Nat.reduceAdd]; done) | ((fail_if_success (apply Bool.eq_iff_iff.2)); first | omega | (simp only [yD2, beq_self_eq_true, Nat.reduceLT, Nat.reduceAdd] <;> omega)) | fail)) only [↓yS, yT, ↓reduceIte, Nat.reduceEqDiff, Nat.reduceAdd, Nat.reduceMul, reduceCtorEq, Int.reduceToNat, g11, f1, f5, f20, f21, f22, hsc.len, hsc.ia, hit, hrd, x34, g1, g3]; refine yC (k _ _ ?_); clear k K) | ((first | refine zU ?_ | refine zV ?_ | refine zW ?_); intro A B C D a b c d; simp only [↓yG, Nat.reduceEqDiff, ↓reduceIte, g11, f1, f5, f20, f21, f22, hsc.len, hsc.ia, hit, hrd, x34, g1, g3]; (first | refine zX (a ?_) | refine zY (b ?_) | refine zZ (fun hc => c ?_) (fun hc => d ?_)) <;> clear a b c d A B C D <;> try simp only [yL] at hc) | (refine yA ?_; intro A a; simp only [↓yG, Nat.reduceEqDiff, ↓reduceIte, g11, f1, f5, f20, f21, f22, hsc.len, hsc.ia, hit, hrd, x34, g1, g3]; refine yB (a ?_); clear a A) | (refine yD ?_; simp only [gresults, ↓yG, Nat.reduceEqDiff, ↓reduceIte, Option.bind_some, gld_1, gld_n, g11, f1, f5, f20, f21, f22, hsc.len, hsc.ia, hit, hrd, x34, g1, g3]; refine ⟨_, rfl, ?_⟩; simp only [gone]))
        exact hpy _ _ _ g2 (by rw [hat, hca (by omega)])
      · repeat' (first | (exfalso; omega) | refine zA ?_ | refine zB ?_ | refine zC ?_ | refine zD ?_ | refine zE ?_ | refine zF ?_ | refine zG ?_ | refine zH ?_ | refine zI ?_ | refine zJ ?_ | refine zK rfl ?_ | refine zL ?_ | refine zM ?_ | refine zN ?_ | refine zO ?_ | refine zP rfl ?_ | refine zQ ?_ | ((first | refine zR ?_ | refine zS ?_ | refine zT ?_ | skip); intro K k; simp (disch := (first | (simp only [yD2, beq_self_eq_true, Nat.reduceLT, Nat.reduceAdd]; done) | ((fail_if_success (apply Bool.eq_iff_iff.2)); first | omega | (simp only [yD2, beq_self_eq_true, Nat.reduceLT, Nat.reduceAdd] <;> omega)) | fail)) only [↓yS, yT, ↓reduceIte, Nat.reduceEqDiff, Nat.reduceAdd, Nat.reduceMul, reduceCtorEq, Int.reduceToNat, g11, f1, f5, f20, f21, f22, hsc.len]; refine yC (k _ _ ?_); clear k K) | ((first | refine zU ?_ | refine zV ?_ | refine zW ?_); intro A B C D a b c d; simp only [↓yG, Nat.reduceEqDiff, ↓reduceIte, g11, f1, f5, f20, f21, f22, hsc.len]; (first | refine zX (a ?_) | refine zY (b ?_) | refine zZ (fun hc => c ?_) (fun hc => d ?_)) <;> clear a b c d A B C D <;> try simp only [yL] at hc) | (refine yA ?_; intro A a; simp only [↓yG, Nat.reduceEqDiff, ↓reduceIte, g11, f1, f5, f20, f21, f22, hsc.len]; refine yB (a ?_); clear a A) | (refine yD ?_; simp only [gresults, ↓yG, Nat.reduceEqDiff, ↓reduceIte, Option.bind_some, gld_1, gld_n, g11, f1, f5, f20, f21, f22, hsc.len]; refine ⟨_, rfl, ?_⟩; simp only [gone]))
        refine hJ _ _ ⟨l.length - (j + 1), by omega, j + 1, rfl, by omega, ?_⟩
        simp only [↓yG, Nat.reduceEqDiff, ↓reduceIte, Int.natCast_add, Int.cast_ofNat_Int, Int.natCast_zero, true_and, and_true, Option.some.injEq, Value.int.injEq, f5, f20, f21]
        rw [hstep]
        refine ⟨?_, hS14, by omega⟩
        omega
    · obtain rfl : j = l.length := by omega
      rw [List.take_length] at hji
      exfalso; omega
theorem rat_ok {H : GHeap} (hw : H.wf) {v : Value} {l : List SR} (hv : RR H v l) (hll : l.length ≤ 16777216) (ht : tot l ≤ 4398046511104) {i : Int} (hi : -9223372036854775808 ≤ i ∧ i ≤ 9223372036854775807) :
    ∃ r H', gev G 12 [rowV v, .int .i64 i] H = some (r, H') ∧ (r = atV (atF l i) ∧ Same H H') := by
  refine gev_GW (f := 12) rfl fun Post hPost => ?_
  have hlim := hw.1
  have hf := hv.flat
  have hsl := hv.isSl
  simp only [frameOf, Nat.reduceAdd]
  have hS0 : Same H ((H.add (some (.cells [v] 0 true))).add (some (.cells (syC syZ) 0 true))) := ((Same.refl hw).add _).add _
  have hzc : [Value.int .u8 0, .bool false, .bool false] = syC syZ := rfl
  have hpn : ∀ H', Same H H' → atF l i = none → Post (.tuple #[.int .i32 0, syV syZ, .bool false]) H' := fun H' h1 h2 => hPost _ _ ⟨by rw [h2]; rfl, h1⟩
  have hpy : ∀ H' c s, Same H H' → atF l i = some (c, s) → Post (.tuple #[.int .i32 ((c : Nat) : Int), syV s, .bool true]) H' := fun H' c s h1 h2 => hPost _ _ ⟨by rw [h2]; rfl, h1⟩
  clear hPost
  have kr : ((H.add (some (.cells [v] 0 true))).add (some (.cells (syC syZ) 0 true))).rdn H.len 0 1 = some (rowV v) := by
    rw [rdn_add_ne (by rw [len_add]; omega)]; exact rdn_add_all (n := 1) rfl rfl
  have k0 : ((H.add (some (.cells [v] 0 true))).add (some (.cells (syC syZ) 0 true))).rd H.len 0 = some v := by
    rw [rd_add_ne (by rw [len_add]; omega), rd_add_eq rfl]; rfl
  have km : ((H.add (some (.cells [v] 0 true))).add (some (.cells (syC syZ) 0 true))).mine (H.len + 1) = some (syC syZ, 0) := mine_add_eq (by rw [len_add]) (by rw [lim_add]; omega)
  have hl0 : ((H.add (some (.cells [v] 0 true))).add (some (.cells (syC syZ) 0 true))).len = H.len + 2 := by rw [len_add, len_add]
  have hagg : ∀ s : Sy, Value.agg (syC s).toArray = syV s := fun _ => rfl
  -- a style, written into the result's place
  have res : ∀ {H1 : GHeap} (s : Sy), Same H H1 → H1.mine (H.len + 1) = some (syC syZ, 0) → gst (some 3) H1 (.pointer (some ⟨H.len + 1, 0, none⟩)) (syV s) = some (H1.put (H.len + 1) (.cells (syC s) 0 true)) ∧ Same H (H1.put (H.len + 1) (.cells (syC s) 0 true)) ∧ (H1.put (H.len + 1) (.cells (syC s) 0 true)).rdn (H.len + 1) 0 3 = some (syV s) := fun {H1} s hs hm => by
    refine ⟨?_, hs.put (by omega) (mine_lt hs.wf hm) _, rdn_syp⟩
    rw [gst_n, hm, Option.bind_some, gsetn_sy rfl]; rfl
  by_cases h0 : i < 0
  · obtain ⟨g1, g2, g3⟩ := res syZ hS0 km
    repeat' (first | (exfalso; omega) | refine zA ?_ | refine zB ?_ | refine zC ?_ | refine zD ?_ | refine zE ?_ | refine zF ?_ | refine zG ?_ | refine zH ?_ | refine zI ?_ | refine zJ ?_ | refine zK rfl ?_ | refine zL ?_ | refine zM ?_ | refine zN ?_ | refine zO ?_ | refine zP rfl ?_ | refine zQ ?_ | ((first | refine zR ?_ | refine zS ?_ | refine zT ?_ | skip); intro K k; simp (disch := (first | (simp only [yD2, beq_self_eq_true, Nat.reduceLT, Nat.reduceAdd]; done) | ((fail_if_success (apply Bool.eq_iff_iff.2)); first | omega | (simp only [yD2, beq_self_eq_true, Nat.reduceLT, Nat.reduceAdd] <;> omega)) | fail)) only [↓yS, yT, ↓reduceIte, Nat.reduceEqDiff, Nat.reduceAdd, Nat.reduceMul, reduceCtorEq, Int.reduceToNat, g12, rowV_eq, agg_all, agg_list, hf, hzc, hagg, g1, g3]; refine yC (k _ _ ?_); clear k K) | ((first | refine zU ?_ | refine zV ?_ | refine zW ?_); intro A B C D a b c d; simp only [↓yG, Nat.reduceEqDiff, ↓reduceIte, g12, rowV_eq, agg_all, agg_list, hf, hzc, hagg, g1, g3]; (first | refine zX (a ?_) | refine zY (b ?_) | refine zZ (fun hc => c ?_) (fun hc => d ?_)) <;> clear a b c d A B C D <;> try simp only [yL] at hc) | (refine yA ?_; intro A a; simp only [↓yG, Nat.reduceEqDiff, ↓reduceIte, g12, rowV_eq, agg_all, agg_list, hf, hzc, hagg, g1, g3]; refine yB (a ?_); clear a A) | (refine yD ?_; simp only [gresults, ↓yG, Nat.reduceEqDiff, ↓reduceIte, Option.bind_some, gld_1, gld_n, g12, rowV_eq, agg_all, agg_list, hf, hzc, hagg, g1, g3]; refine ⟨_, rfl, ?_⟩; simp only [gone]))
    exact hpn _ g2 (by unfold atF; rw [if_neg (by omega)])
  · repeat' (first | (exfalso; omega) | refine zA ?_ | refine zB ?_ | refine zC ?_ | refine zD ?_ | refine zE ?_ | refine zF ?_ | refine zG ?_ | refine zH ?_ | refine zI ?_ | refine zJ ?_ | refine zK rfl ?_ | refine zL ?_ | refine zM ?_ | refine zN ?_ | refine zO ?_ | refine zP rfl ?_ | refine zQ ?_ | ((first | refine zR ?_ | refine zS ?_ | refine zT ?_ | skip); intro K k; simp (disch := (first | (simp only [yD2, beq_self_eq_true, Nat.reduceLT, Nat.reduceAdd]; done) | ((fail_if_success (apply Bool.eq_iff_iff.2)); first | omega | (simp only [yD2, beq_self_eq_true, Nat.reduceLT, Nat.reduceAdd] <;> omega)) | fail)) only [↓yS, yT, ↓reduceIte, Nat.reduceEqDiff, Nat.reduceAdd, Nat.reduceMul, reduceCtorEq, Int.reduceToNat, g12, rowV_eq, agg_all, agg_list, hf, hzc]; refine yC (k _ _ ?_); clear k K) | ((first | refine zU ?_ | refine zV ?_ | refine zW ?_); intro A B C D a b c d; simp only [↓yG, Nat.reduceEqDiff, ↓reduceIte, g12, rowV_eq, agg_all, agg_list, hf, hzc]; (first | refine zX (a ?_) | refine zY (b ?_) | refine zZ (fun hc => c ?_) (fun hc => d ?_)) <;> clear a b c d A B C D <;> try simp only [yL] at hc) | (refine yA ?_; intro A a; simp only [↓yG, Nat.reduceEqDiff, ↓reduceIte, g12, rowV_eq, agg_all, agg_list, hf, hzc]; refine yB (a ?_); clear a A) | (refine yD ?_; simp only [gresults, ↓yG, Nat.reduceEqDiff, ↓reduceIte, Option.bind_some, gld_1, gld_n, g12, rowV_eq, agg_all, agg_list, hf, hzc]; refine ⟨_, rfl, ?_⟩; simp only [gone]))
    rw [← rowV_eq] at *
    generalize (H.add (some (.cells [v] 0 true))).add (some (.cells (syC syZ) 0 true)) = Hb at *
    repeat' (first | (exfalso; omega) | refine zA ?_ | refine zB ?_ | refine zC ?_ | refine zD ?_ | refine zE ?_ | refine zF ?_ | refine zG ?_ | refine zH ?_ | refine zI ?_ | refine zJ ?_ | refine zK rfl ?_ | refine zL ?_ | refine zM ?_ | refine zN ?_ | refine zO ?_ | refine zP rfl ?_ | refine zQ ?_ | ((first | refine zR ?_ | refine zS ?_ | refine zT ?_ | skip); intro K k; simp (disch := (first | (simp only [yD2, beq_self_eq_true, Nat.reduceLT, Nat.reduceAdd]; done) | ((fail_if_success (apply Bool.eq_iff_iff.2)); first | omega | (simp only [yD2, beq_self_eq_true, Nat.reduceLT, Nat.reduceAdd] <;> omega)) | fail)) only [↓yS, yT, ↓reduceIte, Nat.reduceEqDiff, Nat.reduceAdd, Nat.reduceMul, reduceCtorEq, Int.reduceToNat, g12, kr]; refine yC (k _ _ ?_); clear k K) | ((first | refine zU ?_ | refine zV ?_ | refine zW ?_); intro A B C D a b c d; simp only [↓yG, Nat.reduceEqDiff, ↓reduceIte, g12, kr]; (first | refine zX (a ?_) | refine zY (b ?_) | refine zZ (fun hc => c ?_) (fun hc => d ?_)) <;> clear a b c d A B C D <;> try simp only [yL] at hc) | (refine yA ?_; intro A a; simp only [↓yG, Nat.reduceEqDiff, ↓reduceIte, g12, kr]; refine yB (a ?_); clear a A) | (refine yD ?_; simp only [gresults, ↓yG, Nat.reduceEqDiff, ↓reduceIte, Option.bind_some, gld_1, gld_n, g12, kr]; refine ⟨_, rfl, ?_⟩; simp only [gone]))
    intro K' hK'; refine G1_call (by simp only [gtarget, ↓GArg.ev, ↓evs, ↓Tr.get_set, Nat.reduceEqDiff, if_true, if_false, ↓reduceIte, Option.map_some]; rfl) (rLen_ok hS0.wf (hv.later hw hS0) hll ht) fun r1 H1 hq => hK' _ _ ?_
    obtain ⟨rfl, hS⟩ := hq
    have hS1 := hS0.trans hS
    have km1 : H1.mine (H.len + 1) = some (syC syZ, 0) := by rw [hS.mine (by omega)]; exact km
    have k01 : H1.rd H.len 0 = some v := by rw [hS.rd (by omega)]; exact k0
    have hlr := cntL_le l
    have hl1 : lenF l ≤ 4398046511104 := by
      unfold lenF; split <;> omega
    by_cases hin : i < lenF l
    rotate_left
    · obtain ⟨g1, g2, g3⟩ := res syZ hS1 km1
      repeat' (first | (exfalso; omega) | refine zA ?_ | refine zB ?_ | refine zC ?_ | refine zD ?_ | refine zE ?_ | refine zF ?_ | refine zG ?_ | refine zH ?_ | refine zI ?_ | refine zJ ?_ | refine zK rfl ?_ | refine zL ?_ | refine zM ?_ | refine zN ?_ | refine zO ?_ | refine zP rfl ?_ | refine zQ ?_ | ((first | refine zR ?_ | refine zS ?_ | refine zT ?_ | skip); intro K k; simp (disch := (first | (simp only [yD2, beq_self_eq_true, Nat.reduceLT, Nat.reduceAdd]; done) | ((fail_if_success (apply Bool.eq_iff_iff.2)); first | omega | (simp only [yD2, beq_self_eq_true, Nat.reduceLT, Nat.reduceAdd] <;> omega)) | fail)) only [↓yS, yT, ↓reduceIte, Nat.reduceEqDiff, Nat.reduceAdd, Nat.reduceMul, reduceCtorEq, Int.reduceToNat, g12, hzc, hagg, g1, g3]; refine yC (k _ _ ?_); clear k K) | ((first | refine zU ?_ | refine zV ?_ | refine zW ?_); intro A B C D a b c d; simp only [↓yG, Nat.reduceEqDiff, ↓reduceIte, g12, hzc, hagg, g1, g3]; (first | refine zX (a ?_) | refine zY (b ?_) | refine zZ (fun hc => c ?_) (fun hc => d ?_)) <;> clear a b c d A B C D <;> try simp only [yL] at hc) | (refine yA ?_; intro A a; simp only [↓yG, Nat.reduceEqDiff, ↓reduceIte, g12, hzc, hagg, g1, g3]; refine yB (a ?_); clear a A) | (refine yD ?_; simp only [gresults, ↓yG, Nat.reduceEqDiff, ↓reduceIte, Option.bind_some, gld_1, gld_n, g12, hzc, hagg, g1, g3]; refine ⟨_, rfl, ?_⟩; simp only [gone]))
      exact hpn _ g2 (by unfold atF; rw [if_neg (by omega)])
    obtain ⟨hall, hlc⟩ := lenF_all (l := l) (by omega)
    have hat : atF l i = (charsR l)[i.toNat]? := by unfold atF; rw [if_pos ⟨by omega, hin⟩]
    repeat' (first | (exfalso; omega) | refine zA ?_ | refine zB ?_ | refine zC ?_ | refine zD ?_ | refine zE ?_ | refine zF ?_ | refine zG ?_ | refine zH ?_ | refine zI ?_ | refine zJ ?_ | refine zK rfl ?_ | refine zL ?_ | refine zM ?_ | refine zN ?_ | refine zO ?_ | refine zP rfl ?_ | refine zQ ?_ | ((first | refine zR ?_ | refine zS ?_ | refine zT ?_ | skip); intro K k; simp (disch := (first | (simp only [yD2, beq_self_eq_true, Nat.reduceLT, Nat.reduceAdd]; done) | ((fail_if_success (apply Bool.eq_iff_iff.2)); first | omega | (simp only [yD2, beq_self_eq_true, Nat.reduceLT, Nat.reduceAdd] <;> omega)) | fail)) only [↓yS, yT, ↓reduceIte, Nat.reduceEqDiff, Nat.reduceAdd, Nat.reduceMul, reduceCtorEq, Int.reduceToNat, g12, k01, hsl.len]; refine yC (k _ _ ?_); clear k K) | ((first | refine zU ?_ | refine zV ?_ | refine zW ?_); intro A B C D a b c d; simp only [↓yG, Nat.reduceEqDiff, ↓reduceIte, g12, k01, hsl.len]; (first | refine zX (a ?_) | refine zY (b ?_) | refine zZ (fun hc => c ?_) (fun hc => d ?_)) <;> clear a b c d A B C D <;> try simp only [yL] at hc) | (refine yA ?_; intro A a; simp only [↓yG, Nat.reduceEqDiff, ↓reduceIte, g12, k01, hsl.len]; refine yB (a ?_); clear a A) | (refine yD ?_; simp only [gresults, ↓yG, Nat.reduceEqDiff, ↓reduceIte, Option.bind_some, gld_1, gld_n, g12, k01, hsl.len]; refine ⟨_, rfl, ?_⟩; simp only [gone]))
    refine GW_loop (fun k fr Hk => ∃ (j : Nat), k = l.length - j ∧ j ≤ l.length ∧ fr.get 1 = some (.int .i64 (i - cntL (l.take j))) ∧ fr.get 5 = some (.pointer (some ⟨H.len + 1, 0, none⟩)) ∧ fr.get 20 = some (v) ∧ fr.get 21 = some (.int .i64 l.length) ∧ fr.get 22 = some (.int .i64 j) ∧ Same H1 Hk ∧ cntL (l.take j) ≤ i) ?_ l.length ?_
    rotate_left
    · refine ⟨0, by omega, by omega, ?_⟩
      simp only [↓yG, Nat.reduceEqDiff, ↓reduceIte, Int.natCast_add, Int.cast_ofNat_Int, Int.natCast_zero, true_and, and_true, Option.some.injEq, Value.int.injEq]
      have hz : cntL (l.take 0) = 0 := rfl
      refine ⟨by rw [hz]; simp, Same.refl hS1.wf, by rw [hz]; omega⟩
    rintro k fr H2 ⟨j, rfl, hj, f1, f5, f20, f21, f22, hS2, hji⟩ J hJ
    have hw2 := hS2.wf
    have hlim2 := hw2.1
    by_cases hj1 : j < l.length
    · have e1 := ((hv.later hw hS1).later hS1.wf hS2).rowN hj1
      have hmem : l[j]! ∈ l := by rw [getElem!_pos l j hj1]; exact List.getElem_mem _
      have hmt := mem_tot hmem
      have hvx := List.all_eq_true.1 hall _ hmem
      have hstep := cntL_take hj1
      have hca := charsR_at (l := l) (j := j) (i := i.toNat) hj1 (by omega)
      generalize hx : l[j]! = x at *
      have hch : charL (strB x.t) = rns (strB x.t) := charL_yes hvx
      obtain ⟨H3, hH3⟩ : ∃ H3, H3 = (H2.add (some (.cells [.string ⟨#[]⟩, .int .u8 0, .bool false, .bool false, .string ⟨#[]⟩] 0 true))).put H2.len (.cells (runC x) 0 true) := ⟨_, rfl⟩
      have hS23 : Same H2 H3 := hH3 ▸ (Same.refl hw2).new _ _
      have hl3 : H2.len < H3.len := by rw [hH3, len_put, len_add]; omega
      have x3 : H3.rdn H2.len 1 3 = some (syV x.s) := by rw [hH3, rdn_run3p]
      repeat' (first | (exfalso; omega) | refine zA ?_ | refine zB ?_ | refine zC ?_ | refine zD ?_ | refine zE ?_ | refine zF ?_ | refine zG ?_ | refine zH ?_ | refine zI ?_ | refine zJ ?_ | refine zK rfl ?_ | refine zL ?_ | refine zM ?_ | refine zN ?_ | refine zO ?_ | refine zP rfl ?_ | refine zQ ?_ | ((first | refine zR ?_ | refine zS ?_ | refine zT ?_ | skip); intro K k; simp (disch := (first | (simp only [yD2, beq_self_eq_true, Nat.reduceLT, Nat.reduceAdd]; done) | ((fail_if_success (apply Bool.eq_iff_iff.2)); first | omega | (simp only [yD2, beq_self_eq_true, Nat.reduceLT, Nat.reduceAdd] <;> omega)) | fail)) only [↓yS, yT, ↓reduceIte, Nat.reduceEqDiff, Nat.reduceAdd, Nat.reduceMul, reduceCtorEq, Int.reduceToNat, g12, f1, f5, f20, f21, f22, RN, hsl.ia, e1]; refine yC (k _ _ ?_); clear k K) | ((first | refine zU ?_ | refine zV ?_ | refine zW ?_); intro A B C D a b c d; simp only [↓yG, Nat.reduceEqDiff, ↓reduceIte, g12, f1, f5, f20, f21, f22, RN, hsl.ia, e1]; (first | refine zX (a ?_) | refine zY (b ?_) | refine zZ (fun hc => c ?_) (fun hc => d ?_)) <;> clear a b c d A B C D <;> try simp only [yL] at hc) | (refine yA ?_; intro A a; simp only [↓yG, Nat.reduceEqDiff, ↓reduceIte, g12, f1, f5, f20, f21, f22, RN, hsl.ia, e1]; refine yB (a ?_); clear a A) | (refine yD ?_; simp only [gresults, ↓yG, Nat.reduceEqDiff, ↓reduceIte, Option.bind_some, gld_1, gld_n, g12, f1, f5, f20, f21, f22, RN, hsl.ia, e1]; refine ⟨_, rfl, ?_⟩; simp only [gone]))
      rw [← hH3]
      refine Gw_s fun K' hK' => G1_call (by simp only [gtarget, ↓GArg.ev, ↓evs, ↓Tr.get_set, Nat.reduceEqDiff, if_true, if_false, ↓reduceIte, Option.map_some, f1, f5, f20, f21, f22]; rfl) (rchars_ok (s := strB x.t) (by rw [strB_size]; omega) hS23.wf) fun cv H4 hO => hK' _ _ ?_
      rw [hch] at hO
      have hcl : (rns (strB x.t)).length = cntR x := rfl
      have hsc := hO.rd.isSl
      rw [hcl] at hO hsc
      have hS14 := hS2.trans (hS23.trans hO.same)
      have km4 : H4.mine (H.len + 1) = some (syC syZ, 0) := by rw [hS14.mine (mine_lt hS1.wf km1)]; exact km1
      have x34 : H4.rdn H2.len 1 3 = some (syV x.s) := by rw [hO.same.rdn hl3]; exact x3
      by_cases hlt : i - cntL (l.take j) < cntR x
      · have hit : (i - cntL (l.take j)).toNat = i.toNat - cntL (l.take j) := by omega
        have hrd : H4.rd (blk cv) (ofs cv + (i.toNat - cntL (l.take j))) = some (.int .i32 ((rns (strB x.t))[i.toNat - cntL (l.take j)]! : Nat)) := by
          rw [hO.rd.rd (by rw [RL_len]; omega), RL_at (by omega)]
        obtain ⟨g1, g2, g3⟩ := res x.s (hS1.trans hS14) km4
        repeat' (first | (exfalso; omega) | refine zA ?_ | refine zB ?_ | refine zC ?_ | refine zD ?_ | refine zE ?_ | refine zF ?_ | refine zG ?_ | refine zH ?_ | refine zI ?_ | refine zJ ?_ | refine zK rfl ?_ | refine zL ?_ | refine zM ?_ | refine zN ?_ | refine zO ?_ | refine zP rfl ?_ | refine zQ ?_ | ((first | refine zR ?_ | refine zS ?_ | refine zT ?_ | skip); intro K k; simp (disch := (first | (simp only [yD2, beq_self_eq_true, Nat.reduceLT, Nat.reduceAdd]; done) | ((fail_if_success (apply Bool.eq_iff_iff.2)); first | omega | (simp only [yD2, beq_self_eq_true, Nat.reduceLT, Nat.reduceAdd] <;> omega)) | fail)) only [↓yS, yT, ↓reduceIte, Nat.reduceEqDiff, Nat.reduceAdd, Nat.reduceMul, reduceCtorEq, Int.reduceToNat, g12, f1, f5, f20, f21, f22, hsc.len, hsc.ia, hit, hrd, x34, g1, g3]; refine yC (k _ _ ?_); clear k K) | ((first | refine zU ?_ | refine zV ?_ | refine zW ?_); intro A B C D a b c d; simp only [↓yG, Nat.reduceEqDiff, ↓reduceIte, g12, f1, f5, f20, f21, f22, hsc.len, hsc.ia, hit, hrd, x34, g1, g3]; (first | refine zX (a ?_) | refine zY (b ?_) | refine zZ (fun hc => c ?_) (fun hc => d ?_)) <;> clear a b c d A B C D <;> try simp only [yL] at hc) | (refine yA ?_; intro A a; simp only [↓yG, Nat.reduceEqDiff, ↓reduceIte, g12, f1, f5, f20, f21, f22, hsc.len, hsc.ia, hit, hrd, x34, g1, g3]; refine yB (a ?_); clear a A) | (refine yD ?_; simp only [gresults, ↓yG, Nat.reduceEqDiff, ↓reduceIte, Option.bind_some, gld_1, gld_n, g12, f1, f5, f20, f21, f22, hsc.len, hsc.ia, hit, hrd, x34, g1, g3]; refine ⟨_, rfl, ?_⟩; simp only [gone]))
        exact hpy _ _ _ g2 (by rw [hat, hca (by omega)])
      · repeat' (first | (exfalso; omega) | refine zA ?_ | refine zB ?_ | refine zC ?_ | refine zD ?_ | refine zE ?_ | refine zF ?_ | refine zG ?_ | refine zH ?_ | refine zI ?_ | refine zJ ?_ | refine zK rfl ?_ | refine zL ?_ | refine zM ?_ | refine zN ?_ | refine zO ?_ | refine zP rfl ?_ | refine zQ ?_ | ((first | refine zR ?_ | refine zS ?_ | refine zT ?_ | skip); intro K k; simp (disch := (first | (simp only [yD2, beq_self_eq_true, Nat.reduceLT, Nat.reduceAdd]; done) | ((fail_if_success (apply Bool.eq_iff_iff.2)); first | omega | (simp only [yD2, beq_self_eq_true, Nat.reduceLT, Nat.reduceAdd] <;> omega)) | fail)) only [↓yS, yT, ↓reduceIte, Nat.reduceEqDiff, Nat.reduceAdd, Nat.reduceMul, reduceCtorEq, Int.reduceToNat, g12, f1, f5, f20, f21, f22, hsc.len]; refine yC (k _ _ ?_); clear k K) | ((first | refine zU ?_ | refine zV ?_ | refine zW ?_); intro A B C D a b c d; simp only [↓yG, Nat.reduceEqDiff, ↓reduceIte, g12, f1, f5, f20, f21, f22, hsc.len]; (first | refine zX (a ?_) | refine zY (b ?_) | refine zZ (fun hc => c ?_) (fun hc => d ?_)) <;> clear a b c d A B C D <;> try simp only [yL] at hc) | (refine yA ?_; intro A a; simp only [↓yG, Nat.reduceEqDiff, ↓reduceIte, g12, f1, f5, f20, f21, f22, hsc.len]; refine yB (a ?_); clear a A) | (refine yD ?_; simp only [gresults, ↓yG, Nat.reduceEqDiff, ↓reduceIte, Option.bind_some, gld_1, gld_n, g12, f1, f5, f20, f21, f22, hsc.len]; refine ⟨_, rfl, ?_⟩; simp only [gone]))
        refine hJ _ _ ⟨l.length - (j + 1), by omega, j + 1, rfl, by omega, ?_⟩
        simp only [↓yG, Nat.reduceEqDiff, ↓reduceIte, Int.natCast_add, Int.cast_ofNat_Int, Int.natCast_zero, true_and, and_true, Option.some.injEq, Value.int.injEq, f5, f20, f21]
        rw [hstep]
        refine ⟨?_, hS14, by omega⟩
        omega
    · obtain rfl : j = l.length := by omega
      rw [List.take_length] at hji
      exfalso; omega
end Go.Gh
