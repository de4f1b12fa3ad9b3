/-
  rowbreak: the laws Least, Proves, Sound, walked.
-/
import Derived.Test.YtbhgpiakeimmlaaDoorRbW10
import Derived.Test.YtbhgpiakeimmlaaDoorRbWD
namespace Go.Gh
set_option linter.unusedSimpArgs false
set_option linter.unusedVariables false
open Go.RowKit
set_option maxRecDepth 4000

theorem potL_at {p : Par} {k i : Nat} (hk : k ≤ p.r.toNat) (hi : i ≤ p.l.length) : (potL p)[k * (p.l.length + 1) + i]! = p.D.P (p.r.toNat - k) i := by
  have hlt := idx_lt hk hi
  have hD : p.D.n = p.l.length := rfl
  have h1 : (k * (p.l.length + 1) + i) / (p.l.length + 1) = k := by
    rw [Nat.mul_comm, Nat.mul_add_div (by omega), Nat.div_eq_of_lt (by omega), Nat.add_zero]
  have h2 : (k * (p.l.length + 1) + i) % (p.l.length + 1) = i := by
    rw [Nat.mul_comm, Nat.mul_add_mod, Nat.mod_eq_of_lt (by omega)]
  unfold potL
  rw [getElem!_pos _ _ (by rw [potU_len]; exact hlt)]
  simp only [potU, List.getElem_map, List.getElem_range, hD, h1, h2]
theorem potL_mem {p : Par} (h0 : parF p = 0) : ∀ x ∈ potL p, -1 ≤ x ∧ x ≤ 200000000 := by
  intro x hx
  have hr := (parF_ok h0).2.2.2.2.2.1
  unfold potL potU at hx
  obtain ⟨y, _, rfl⟩ := List.mem_map.1 hx
  have hG := Par.good h0
  have h1 := P_ge hG (p.r.toNat - y / (p.D.n + 1)) (y % (p.D.n + 1))
  have h2 := P_ub hG (p.r.toNat - y / (p.D.n + 1)) (y % (p.D.n + 1))
  generalize y / (p.D.n + 1) = z at *
  have h3 : ((p.r.toNat - z : Nat) : Int) * 40000000 ≤ 4 * 40000000 := by
    have : ((p.r.toNat - z : Nat) : Int) ≤ 4 := by omega
    omega
  omega
theorem brk_cost {p : Par} {l : List Nat} {c : Int} (h : BrkOut p l c 0) : parF p = 0 ∧ c = p.D.P p.r.toNat 0 ∧ Brk p.D p.r.toNat l c ∧ costF p (natsI l) = (c, 0) ∧ totF p.D p.r (natsI l) = (c, 0) := by
  rcases h with ⟨h1, h2, _⟩ | ⟨_, _, h2, _⟩ | ⟨h0, _, h1, hb⟩
  · exact absurd h2.symm h1
  · cases h2
  · have ht := hb.pth.tot (R := p.r) (Par.pos h0) (by have := hb.len; have := (parF_ok h0).2.2.2.2.1; omega)
    exact ⟨h0, h1, hb, by unfold costF; rw [if_neg (by omega)]; exact ht, ht⟩
theorem brk_acc {p : Par} {l : List Nat} {c : Int} (h : BrkOut p l c 0) : AccOk p (natsI l) c (potL p) := by
  obtain ⟨h0, h1, hb, _, ht⟩ := brk_cost h
  have hG := Par.good h0
  refine ⟨h0, ht, by unfold potL; rw [potU_len], fun x hx => (potL_mem h0 x hx).1, fun k hk => ?_, fun k i j hk hok hne => ?_, ?_⟩
  · rw [potL_at hk (Nat.le_refl _)]; exact P_n _
  · have hD : p.D.n = p.l.length := rfl
    have hj := hok.2.1
    have hi := hok.1
    rw [hD] at hj
    rw [potL_at (by omega) hj] at hne ⊢
    rw [potL_at (by omega) (by omega)]
    exact cert_P hG hk hok hne
  · have := potL_at (p := p) (k := 0) (i := 0) (by omega) (by omega)
    simp only [Nat.zero_mul, Nat.add_zero, Nat.sub_zero] at this
    rw [this, ← h1]; exact Int.le_refl _
theorem AccOk.sound {p : Par} {E E2 : List Int} {c c2 : Int} {pot : List Int} (h : AccOk p E c pot) (h2 : costF p E2 = (c2, 0)) : c ≤ c2 := by
  obtain ⟨h0, k, rfl, hp, hl⟩ := costF_pth h2
  have := (cert (h := fun k i => pot[k * (p.l.length + 1) + i]!) (fun k hk => h.last k hk) (fun k i j hk hok hne => h.step k i j hk hok hne) hp 0 (by omega)).2
  simp only [Nat.zero_mul, Nat.add_zero] at this
  exact Int.le_trans h.le this
theorem brk_err {p : Par} {l : List Nat} {c e : Int} (h : BrkOut p l c e) (he : e ≠ 0) : l = [] ∧ c = 0 := by
  rcases h with ⟨_, _, h1, h2⟩ | ⟨_, _, _, h1, h2⟩ | ⟨_, h1, _⟩
  · exact ⟨h1, h2⟩
  · exact ⟨h1, h2⟩
  · exact absurd h1 he
theorem brk_least {p : Par} {l : List Nat} {c e : Int} (h : BrkOut p l c e) {E : List Int} {c2 : Int} (h2 : costF p E = (c2, 0)) : e = 0 ∧ c ≤ c2 ∧ (c2 = c → l.length < E.length ∨ (l.length = E.length ∧ 0 ≤ cmpF E (natsI l))) := by
  obtain ⟨h0, k, rfl, hp, hl⟩ := costF_pth h2
  have hG := Par.good h0
  have h3 := (P_spec hG p.r.toNat 0).le ⟨k, hl, hp⟩
  rcases h with ⟨k1, _⟩ | ⟨_, k1, _⟩ | ⟨_, rfl, k1, hb⟩
  · exact absurd h0 k1
  · omega
  · obtain ⟨h4, h5⟩ := hb.least k c2 hp hl
    refine ⟨rfl, h4, fun e => ?_⟩
    have hn : (natsI k).length = k.length := by simp [natsI]
    rw [hn]
    rcases h5 e with h6 | ⟨h6, h7⟩
    · exact .inl h6
    · exact .inr ⟨h6, lexle_cmp h6 h7⟩
/-! ### Least -/
theorem least_ok {H : GHeap} (hw : H.wf) {p : Par} (hp : PR H p) {ev0 : Value} {E : List Int} (hE : IR H ev0 E) (hEl : E.length ≤ 4611686018427387904) : ∃ r H', gev G 7 [parV p, ev0] H = some (r, H') ∧ r = .bool true := by
  refine gev_GW (f := 7) rfl fun Post hPost => ?_
  have hP : ∀ H', Post (.bool true) H' := fun H' => hPost _ _ rfl
  have hf := hp.kr.flat
  have hlim := hw.1
  have hb := par_cflat hf
  have hl := par_cells p
  have hS1 := (Same.refl hw).add (.cells (parC p) 0 true)
  have e0 := rdn_par (p := p) (Same.refl hS1.wf)
  have hm0 : (H.add (some (.cells (parC p) 0 true))).mine H.len = some (parC p, 0) := mine_add_eq rfl hlim
  simp only [frameOf, Nat.reduceAdd]
  repeat' (first | refine zA ?_ | refine zB ?_ | refine zC ?_ | refine zD ?_ | refine zE ?_ | refine zF ?_ | refine zG ?_ | refine zH ?_ | refine zI ?_ | refine zJ ?_ | refine zK rfl ?_ | refine zL ?_ | refine zM ?_ | refine zN ?_ | refine zO ?_ | refine zP rfl ?_ | refine zQ ?_ | ((first | refine zR ?_ | refine zS ?_ | refine zT ?_ | skip); intro K k; simp (disch := (first | (simp only [yD2, beq_self_eq_true, Nat.reduceLT, Nat.reduceAdd]; done) | ((fail_if_success (apply Bool.eq_iff_iff.2)); first | omega | (simp only [yD2, beq_self_eq_true, Nat.reduceLT, Nat.reduceAdd] <;> omega)) | fail)) only [↓yS, yT, ↓reduceIte, Nat.reduceEqDiff, Nat.reduceAdd, Nat.reduceMul, reduceCtorEq, Int.reduceToNat, g7, hb, hl]; refine yC (k _ _ ?_); clear k K) | ((first | refine zU ?_ | refine zV ?_ | refine zW ?_); intro A B C D a b c d; simp only [↓yG, Nat.reduceEqDiff, ↓reduceIte, g7, hb, hl]; (first | refine zX (a ?_) | refine zY (b ?_) | refine zZ (fun hc => c ?_) (fun hc => d ?_)) <;> clear a b c d A B C D <;> try simp only [yL] at hc) | (refine yA ?_; intro A a; simp only [↓yG, Nat.reduceEqDiff, ↓reduceIte, g7, hb, hl]; refine yB (a ?_); clear a A) | (refine yD ?_; simp only [gresults, ↓yG, Nat.reduceEqDiff, ↓reduceIte, Option.bind_some, gld_1, gld_n, g7, hb, hl]; refine ⟨_, rfl, ?_⟩; simp only [gone]))
  refine Gw_s fun K' hK' => G1_call (by simp only [gtarget, ↓GArg.ev, ↓evs, ↓Tr.get_set, Nat.reduceEqDiff, if_true, if_false, ↓reduceIte, Option.map_some]; rfl) (awake_ok _) fun r1 H1 hq => hK' _ _ ?_
  obtain ⟨rfl, rfl⟩ := hq
  repeat' (first | refine zA ?_ | refine zB ?_ | refine zC ?_ | refine zD ?_ | refine zE ?_ | refine zF ?_ | refine zG ?_ | refine zH ?_ | refine zI ?_ | refine zJ ?_ | refine zK rfl ?_ | refine zL ?_ | refine zM ?_ | refine zN ?_ | refine zO ?_ | refine zP rfl ?_ | refine zQ ?_ | ((first | refine zR ?_ | refine zS ?_ | refine zT ?_ | skip); intro K k; simp (disch := (first | (simp only [yD2, beq_self_eq_true, Nat.reduceLT, Nat.reduceAdd]; done) | ((fail_if_success (apply Bool.eq_iff_iff.2)); first | omega | (simp only [yD2, beq_self_eq_true, Nat.reduceLT, Nat.reduceAdd] <;> omega)) | fail)) only [↓yS, yT, ↓reduceIte, Nat.reduceEqDiff, Nat.reduceAdd, Nat.reduceMul, reduceCtorEq, Int.reduceToNat, g7, e0]; refine yC (k _ _ ?_); clear k K) | ((first | refine zU ?_ | refine zV ?_ | refine zW ?_); intro A B C D a b c d; simp only [↓yG, Nat.reduceEqDiff, ↓reduceIte, g7, e0]; (first | refine zX (a ?_) | refine zY (b ?_) | refine zZ (fun hc => c ?_) (fun hc => d ?_)) <;> clear a b c d A B C D <;> try simp only [yL] at hc) | (refine yA ?_; intro A a; simp only [↓yG, Nat.reduceEqDiff, ↓reduceIte, g7, e0]; refine yB (a ?_); clear a A) | (refine yD ?_; simp only [gresults, ↓yG, Nat.reduceEqDiff, ↓reduceIte, Option.bind_some, gld_1, gld_n, g7, e0]; refine ⟨_, rfl, ?_⟩; simp only [gone]))
  refine Gw_s fun K' hK' => G1_call (by simp only [gtarget, ↓GArg.ev, ↓evs, ↓Tr.get_set, Nat.reduceEqDiff, if_true, if_false, ↓reduceIte, Option.map_some]; rfl) (few_ok hw hS1.wf hS1 hp) fun r1 H1 hq => hK' _ _ ?_
  obtain ⟨q, rfl, hq1, hq16, hS2⟩ := hq
  have hin : H.len < (H.add (some (.cells (parC p) 0 true))).len := by rw [len_add]; omega
  have hm1 : H1.mine H.len = some (parC p, 0) := by rw [hS2.mine hin]; exact hm0
  have hfq := hq1.kr.flat
  have hst := gsetn_par (p := q) (parC_len p) hfq
  have hw1 := hS2.wf
  have hlim1 := hw1.1
  have hlt0 : H.len < H1.len := Nat.lt_of_lt_of_le hin hS2.len
  have hS3 : Same H (H1.put H.len (.cells (parC q) 0 true)) := (hS1.trans hS2).put (Nat.le_refl _) hlt0 _
  have hrd1 : (H1.put H.len (.cells (parC q) 0 true)).rdn H.len 0 15 = some (parV q) := rdnP
  repeat' (first | refine zA ?_ | refine zB ?_ | refine zC ?_ | refine zD ?_ | refine zE ?_ | refine zF ?_ | refine zG ?_ | refine zH ?_ | refine zI ?_ | refine zJ ?_ | refine zK rfl ?_ | refine zL ?_ | refine zM ?_ | refine zN ?_ | refine zO ?_ | refine zP rfl ?_ | refine zQ ?_ | ((first | refine zR ?_ | refine zS ?_ | refine zT ?_ | skip); intro K k; simp (disch := (first | (simp only [yD2, beq_self_eq_true, Nat.reduceLT, Nat.reduceAdd]; done) | ((fail_if_success (apply Bool.eq_iff_iff.2)); first | omega | (simp only [yD2, beq_self_eq_true, Nat.reduceLT, Nat.reduceAdd] <;> omega)) | fail)) only [↓yS, yT, ↓reduceIte, Nat.reduceEqDiff, Nat.reduceAdd, Nat.reduceMul, reduceCtorEq, Int.reduceToNat, g7, hm1, hst, rdnP]; refine yC (k _ _ ?_); clear k K) | ((first | refine zU ?_ | refine zV ?_ | refine zW ?_); intro A B C D a b c d; simp only [↓yG, Nat.reduceEqDiff, ↓reduceIte, g7, hm1, hst, rdnP]; (first | refine zX (a ?_) | refine zY (b ?_) | refine zZ (fun hc => c ?_) (fun hc => d ?_)) <;> clear a b c d A B C D <;> try simp only [yL] at hc) | (refine yA ?_; intro A a; simp only [↓yG, Nat.reduceEqDiff, ↓reduceIte, g7, hm1, hst, rdnP]; refine yB (a ?_); clear a A) | (refine yD ?_; simp only [gresults, ↓yG, Nat.reduceEqDiff, ↓reduceIte, Option.bind_some, gld_1, gld_n, g7, hm1, hst, rdnP]; refine ⟨_, rfl, ?_⟩; simp only [gone]))
  have hl2 : H.len < (H1.put H.len (.cells (parC q) 0 true)).len := by rw [len_put]; omega
  generalize H1.put H.len (.cells (parC q) 0 true) = H2 at *
  refine Gw_s fun K' hK' => G1_call (by simp only [gtarget, ↓GArg.ev, ↓evs, ↓Tr.get_set, Nat.reduceEqDiff, if_true, if_false, ↓reduceIte, Option.map_some]; rfl) (Break_ok hS3.wf (hq1.later hw hS3)) fun r3 H3 hq => hK' _ _ ?_
  obtain ⟨⟨ev, pv, l, c, e, rfl, he1, he2, he3⟩, hS5⟩ := hq
  have hgb := gsetn_bz (c := c) (BrkR.flat he1) (BrkR.flat he2)
  have hlim3 := hS5.wf.1
  have hrd3 : H3.rdn H.len 0 15 = some (parV q) := by rw [hS5.rdn hl2]; exact hrd1
  have hlt3 : H.len < H3.len := Nat.lt_of_lt_of_le hl2 hS5.len
  repeat' (first | refine zA ?_ | refine zB ?_ | refine zC ?_ | refine zD ?_ | refine zE ?_ | refine zF ?_ | refine zG ?_ | refine zH ?_ | refine zI ?_ | refine zJ ?_ | refine zK rfl ?_ | refine zL ?_ | refine zM ?_ | refine zN ?_ | refine zO ?_ | refine zP rfl ?_ | refine zQ ?_ | ((first | refine zR ?_ | refine zS ?_ | refine zT ?_ | skip); intro K k; simp (disch := (first | (simp only [yD2, beq_self_eq_true, Nat.reduceLT, Nat.reduceAdd]; done) | ((fail_if_success (apply Bool.eq_iff_iff.2)); first | omega | (simp only [yD2, beq_self_eq_true, Nat.reduceLT, Nat.reduceAdd] <;> omega)) | fail)) only [↓yS, yT, ↓reduceIte, Nat.reduceEqDiff, Nat.reduceAdd, Nat.reduceMul, reduceCtorEq, Int.reduceToNat, g7, brk_0, z3E, hgb, hrd3]; refine yC (k _ _ ?_); clear k K) | ((first | refine zU ?_ | refine zV ?_ | refine zW ?_); intro A B C D a b c d; simp only [↓yG, Nat.reduceEqDiff, ↓reduceIte, g7, brk_0, z3E, hgb, hrd3]; (first | refine zX (a ?_) | refine zY (b ?_) | refine zZ (fun hc => c ?_) (fun hc => d ?_)) <;> clear a b c d A B C D <;> try simp only [yL] at hc) | (refine yA ?_; intro A a; simp only [↓yG, Nat.reduceEqDiff, ↓reduceIte, g7, brk_0, z3E, hgb, hrd3]; refine yB (a ?_); clear a A) | (refine yD ?_; simp only [gresults, ↓yG, Nat.reduceEqDiff, ↓reduceIte, Option.bind_some, gld_1, gld_n, g7, brk_0, z3E, hgb, hrd3]; refine ⟨_, rfl, ?_⟩; simp only [gone]))
  have hS6a := (hS5.add (.cells (bkC (.slice none 0 0) 0 (.slice none 0 0)) 0 true)).put (i := H3.len) hS5.len (by rw [len_add]; omega) (.cells (bkC ev c pv) 0 true)
  have hS6b : Same H3 ((H3.add (some (.cells (bkC (.slice none 0 0) 0 (.slice none 0 0)) 0 true))).put H3.len (.cells (bkC ev c pv) 0 true)) := (Same.refl hS5.wf).new _ _
  have hS6 := hS3.trans hS6a
  have hm6 : ((H3.add (some (.cells (bkC (.slice none 0 0) 0 (.slice none 0 0)) 0 true))).put H3.len (.cells (bkC ev c pv) 0 true)).mine H3.len = some (bkC ev c pv, 0) := mine_put_same hlim3
  have hl6 : H3.len < ((H3.add (some (.cells (bkC (.slice none 0 0) 0 (.slice none 0 0)) 0 true))).put H3.len (.cells (bkC ev c pv) 0 true)).len := by simp only [len_add, len_put]; omega
  have he1' := GArg1.same he1 hS5.wf hS6b
  generalize (H3.add (some (.cells (bkC (.slice none 0 0) 0 (.slice none 0 0)) 0 true))).put H3.len (.cells (bkC ev c pv) 0 true) = H4 at *
  refine Gw_s fun K' hK' => G1_call (by simp only [gtarget, ↓GArg.ev, ↓evs, ↓Tr.get_set, Nat.reduceEqDiff, if_true, if_false, ↓reduceIte, Option.map_some]; rfl) (Cost_ok hS6.wf (hq1.later hw hS6) (GArg1.same hE hw hS6) hEl) fun r5 H5 hq => hK' _ _ ?_
  obtain ⟨rfl, hS7⟩ := hq
  have hr1 : ∀ o, H5.rd H3.len o = (bkC ev c pv)[o]? := fun o => by rw [hS7.rd hl6]; exact mine_rd hm6
  have htt : tv2 (costF q E) = .tuple #[.int .i64 (costF q E).1, .int .i64 (costF q E).2] := rfl
  have hcst : costF q E = ((costF q E).1, (costF q E).2) := rfl
  generalize (costF q E).1 = c2 at *
  generalize (costF q E).2 = e2 at *
  by_cases h2 : e2 = 0
  case neg =>
    have h2' := eq_false h2
    repeat' (first | (exfalso; omega) | refine zA ?_ | refine zB ?_ | refine zC ?_ | refine zD ?_ | refine zE ?_ | refine zF ?_ | refine zG ?_ | refine zH ?_ | refine zI ?_ | refine zJ ?_ | refine zK rfl ?_ | refine zL ?_ | refine zM ?_ | refine zN ?_ | refine zO ?_ | refine zP rfl ?_ | refine zQ ?_ | ((first | refine zR ?_ | refine zS ?_ | refine zT ?_ | skip); intro K k; simp (disch := (first | (simp only [yD2, beq_self_eq_true, Nat.reduceLT, Nat.reduceAdd]; done) | ((fail_if_success (apply Bool.eq_iff_iff.2)); first | omega | (simp only [yD2, beq_self_eq_true, Nat.reduceLT, Nat.reduceAdd] <;> omega)) | fail)) only [↓yS, yT, ↓reduceIte, Nat.reduceEqDiff, Nat.reduceAdd, Nat.reduceMul, reduceCtorEq, Int.reduceToNat, g7, htt, h2']; refine yC (k _ _ ?_); clear k K) | ((first | refine zU ?_ | refine zV ?_ | refine zW ?_); intro A B C D a b c d; simp only [↓yG, Nat.reduceEqDiff, ↓reduceIte, g7, htt, h2']; (first | refine zX (a ?_) | refine zY (b ?_) | refine zZ (fun hc => c ?_) (fun hc => d ?_)) <;> clear a b c d A B C D <;> try simp only [yL] at hc) | (refine yA ?_; intro A a; simp only [↓yG, Nat.reduceEqDiff, ↓reduceIte, g7, htt, h2']; refine yB (a ?_); clear a A) | (refine yD ?_; simp only [gresults, ↓yG, Nat.reduceEqDiff, ↓reduceIte, Option.bind_some, gld_1, gld_n, g7, htt, h2']; refine ⟨_, rfl, ?_⟩; simp only [gone]))
    exact hP _
  subst h2
  obtain ⟨rfl, k1, k2⟩ := brk_least he3 hcst
  by_cases hcc : c2 = c
  case neg =>
    have hcc' := eq_false hcc
    have hlt : c < c2 := by omega
    have hd : decide (c < c2) = true := decide_eq_true hlt
    repeat' (first | (exfalso; omega) | refine zA ?_ | refine zB ?_ | refine zC ?_ | refine zD ?_ | refine zE ?_ | refine zF ?_ | refine zG ?_ | refine zH ?_ | refine zI ?_ | refine zJ ?_ | refine zK rfl ?_ | refine zL ?_ | refine zM ?_ | refine zN ?_ | refine zO ?_ | refine zP rfl ?_ | refine zQ ?_ | ((first | refine zR ?_ | refine zS ?_ | refine zT ?_ | skip); intro K k; simp (disch := (first | (simp only [yD2, beq_self_eq_true, Nat.reduceLT, Nat.reduceAdd]; done) | ((fail_if_success (apply Bool.eq_iff_iff.2)); first | omega | (simp only [yD2, beq_self_eq_true, Nat.reduceLT, Nat.reduceAdd] <;> omega)) | fail)) only [↓yS, yT, ↓reduceIte, Nat.reduceEqDiff, Nat.reduceAdd, Nat.reduceMul, reduceCtorEq, Int.reduceToNat, g7, htt, hr1, bkC_1, hcc']; refine yC (k _ _ ?_); clear k K) | ((first | refine zU ?_ | refine zV ?_ | refine zW ?_); intro A B C D a b c d; simp only [↓yG, Nat.reduceEqDiff, ↓reduceIte, g7, htt, hr1, bkC_1, hcc']; (first | refine zX (a ?_) | refine zY (b ?_) | refine zZ (fun hc => c ?_) (fun hc => d ?_)) <;> clear a b c d A B C D <;> try simp only [yL] at hc) | (refine yA ?_; intro A a; simp only [↓yG, Nat.reduceEqDiff, ↓reduceIte, g7, htt, hr1, bkC_1, hcc']; refine yB (a ?_); clear a A) | (refine yD ?_; simp only [gresults, ↓yG, Nat.reduceEqDiff, ↓reduceIte, Option.bind_some, gld_1, gld_n, g7, htt, hr1, bkC_1, hcc']; refine ⟨_, rfl, ?_⟩; simp only [gone]))
    rw [hd]; exact hP _
  subst hcc
  have hsl := hE.isSl
  have hsl2 := he1.isSl
  have hln : (natsI l).length = l.length := by simp [natsI]
  have hEl' := hE
  by_cases hlt : l.length < E.length
  · repeat' (first | (exfalso; omega) | refine zA ?_ | refine zB ?_ | refine zC ?_ | refine zD ?_ | refine zE ?_ | refine zF ?_ | refine zG ?_ | refine zH ?_ | refine zI ?_ | refine zJ ?_ | refine zK rfl ?_ | refine zL ?_ | refine zM ?_ | refine zN ?_ | refine zO ?_ | refine zP rfl ?_ | refine zQ ?_ | ((first | refine zR ?_ | refine zS ?_ | refine zT ?_ | skip); intro K k; simp (disch := (first | (simp only [yD2, beq_self_eq_true, Nat.reduceLT, Nat.reduceAdd]; done) | ((fail_if_success (apply Bool.eq_iff_iff.2)); first | omega | (simp only [yD2, beq_self_eq_true, Nat.reduceLT, Nat.reduceAdd] <;> omega)) | fail)) only [↓yS, yT, ↓reduceIte, Nat.reduceEqDiff, Nat.reduceAdd, Nat.reduceMul, reduceCtorEq, Int.reduceToNat, g7, htt, hr1, bkC_1, bkC_0, hsl.len, hsl2.len, hln]; refine yC (k _ _ ?_); clear k K) | ((first | refine zU ?_ | refine zV ?_ | refine zW ?_); intro A B C D a b c d; simp only [↓yG, Nat.reduceEqDiff, ↓reduceIte, g7, htt, hr1, bkC_1, bkC_0, hsl.len, hsl2.len, hln]; (first | refine zX (a ?_) | refine zY (b ?_) | refine zZ (fun hc => c ?_) (fun hc => d ?_)) <;> clear a b c d A B C D <;> try simp only [yL] at hc) | (refine yA ?_; intro A a; simp only [↓yG, Nat.reduceEqDiff, ↓reduceIte, g7, htt, hr1, bkC_1, bkC_0, hsl.len, hsl2.len, hln]; refine yB (a ?_); clear a A) | (refine yD ?_; simp only [gresults, ↓yG, Nat.reduceEqDiff, ↓reduceIte, Option.bind_some, gld_1, gld_n, g7, htt, hr1, bkC_1, bkC_0, hsl.len, hsl2.len, hln]; refine ⟨_, rfl, ?_⟩; simp only [gone]))
    exact hP _
  · have hk := (k2 rfl).resolve_left hlt
    obtain ⟨hk1, hk2⟩ := hk
    repeat' (first | (exfalso; omega) | refine zA ?_ | refine zB ?_ | refine zC ?_ | refine zD ?_ | refine zE ?_ | refine zF ?_ | refine zG ?_ | refine zH ?_ | refine zI ?_ | refine zJ ?_ | refine zK rfl ?_ | refine zL ?_ | refine zM ?_ | refine zN ?_ | refine zO ?_ | refine zP rfl ?_ | refine zQ ?_ | ((first | refine zR ?_ | refine zS ?_ | refine zT ?_ | skip); intro K k; simp (disch := (first | (simp only [yD2, beq_self_eq_true, Nat.reduceLT, Nat.reduceAdd]; done) | ((fail_if_success (apply Bool.eq_iff_iff.2)); first | omega | (simp only [yD2, beq_self_eq_true, Nat.reduceLT, Nat.reduceAdd] <;> omega)) | fail)) only [↓yS, yT, ↓reduceIte, Nat.reduceEqDiff, Nat.reduceAdd, Nat.reduceMul, reduceCtorEq, Int.reduceToNat, g7, htt, hr1, bkC_1, bkC_0, hsl.len, hsl2.len, hln]; refine yC (k _ _ ?_); clear k K) | ((first | refine zU ?_ | refine zV ?_ | refine zW ?_); intro A B C D a b c d; simp only [↓yG, Nat.reduceEqDiff, ↓reduceIte, g7, htt, hr1, bkC_1, bkC_0, hsl.len, hsl2.len, hln]; (first | refine zX (a ?_) | refine zY (b ?_) | refine zZ (fun hc => c ?_) (fun hc => d ?_)) <;> clear a b c d A B C D <;> try simp only [yL] at hc) | (refine yA ?_; intro A a; simp only [↓yG, Nat.reduceEqDiff, ↓reduceIte, g7, htt, hr1, bkC_1, bkC_0, hsl.len, hsl2.len, hln]; refine yB (a ?_); clear a A) | (refine yD ?_; simp only [gresults, ↓yG, Nat.reduceEqDiff, ↓reduceIte, Option.bind_some, gld_1, gld_n, g7, htt, hr1, bkC_1, bkC_0, hsl.len, hsl2.len, hln]; refine ⟨_, rfl, ?_⟩; simp only [gone]))
    intro K' hK'; refine G1_call (by simp only [gtarget, ↓GArg.ev, ↓evs, ↓Tr.get_set, Nat.reduceEqDiff, if_true, if_false, ↓reduceIte, Option.map_some]; rfl) (compare_ok hS7.wf (GArg1.same hE hw (hS6.trans hS7)) (GArg1.same he1' hS6.wf hS7) hEl (by rw [hln]; omega)) fun r9 H9 hq => hK' _ _ ?_
    obtain ⟨rfl, rfl⟩ := hq
    have hd : decide (0 ≤ cmpF E (natsI l)) = true := decide_eq_true hk2
    repeat' (first | (exfalso; omega) | refine zA ?_ | refine zB ?_ | refine zC ?_ | refine zD ?_ | refine zE ?_ | refine zF ?_ | refine zG ?_ | refine zH ?_ | refine zI ?_ | refine zJ ?_ | refine zK rfl ?_ | refine zL ?_ | refine zM ?_ | refine zN ?_ | refine zO ?_ | refine zP rfl ?_ | refine zQ ?_ | ((first | refine zR ?_ | refine zS ?_ | refine zT ?_ | skip); intro K k; simp (disch := (first | (simp only [yD2, beq_self_eq_true, Nat.reduceLT, Nat.reduceAdd]; done) | ((fail_if_success (apply Bool.eq_iff_iff.2)); first | omega | (simp only [yD2, beq_self_eq_true, Nat.reduceLT, Nat.reduceAdd] <;> omega)) | fail)) only [↓yS, yT, ↓reduceIte, Nat.reduceEqDiff, Nat.reduceAdd, Nat.reduceMul, reduceCtorEq, Int.reduceToNat, g7]; refine yC (k _ _ ?_); clear k K) | ((first | refine zU ?_ | refine zV ?_ | refine zW ?_); intro A B C D a b c d; simp only [↓yG, Nat.reduceEqDiff, ↓reduceIte, g7]; (first | refine zX (a ?_) | refine zY (b ?_) | refine zZ (fun hc => c ?_) (fun hc => d ?_)) <;> clear a b c d A B C D <;> try simp only [yL] at hc) | (refine yA ?_; intro A a; simp only [↓yG, Nat.reduceEqDiff, ↓reduceIte, g7]; refine yB (a ?_); clear a A) | (refine yD ?_; simp only [gresults, ↓yG, Nat.reduceEqDiff, ↓reduceIte, Option.bind_some, gld_1, gld_n, g7]; refine ⟨_, rfl, ?_⟩; simp only [gone]))
    all_goals first | exact hP _ | (rw [hd]; exact hP _)
theorem RdA.ints {Q : Nat → Prop} {H : GHeap} {gv : Value} (h : RdAQ Q H (.sl (.int .i64)) gv) : ∃ E : List Int, IR H gv E ∧ E.length ≤ 4611686018427387904 ∧ ∀ x ∈ E, -9223372036854775808 ≤ x ∧ x ≤ 9223372036854775807 := by
  obtain ⟨E, h1, h2, h3⟩ := h.ints_
  refine ⟨E, h1, ?_, fun x hx => wf_i64 (h3 x hx)⟩
  have := h2.2
  have hb : IntKind.i64.bits / 8 = 8 := rfl
  rw [hb] at this
  simp only [reachBytes] at this
  omega
theorem least_law {H : GHeap} (hw : H.wf) {gvs : List Value} (h : RdAs H [parShp, .sl (.int .i64)] gvs) : ∃ v H2, gev G 7 gvs H = some (v, H2) ∧ v = .bool true := by
  obtain ⟨gv, _, rfl, h1, gv2, _, rfl, h2, rfl⟩ := h
  obtain ⟨p, rfl, hp, _⟩ := RdA.par h1
  obtain ⟨E, hE, hEl, _⟩ := RdA.ints h2
  exact least_ok hw hp hE hEl
/-! ### Proves -/
theorem proves_ok {H : GHeap} (hw : H.wf) {p : Par} (hp : PR H p) : ∃ r H', gev G 8 [parV p] H = some (r, H') ∧ r = .bool true := by
  refine gev_GW (f := 8) rfl fun Post hPost => ?_
  have hP : ∀ H', Post (.bool true) H' := fun H' => hPost _ _ rfl
  have hf := hp.kr.flat
  have hlim := hw.1
  have hb := par_cflat hf
  have hl := par_cells p
  have hS1 := (Same.refl hw).add (.cells (parC p) 0 true)
  have e0 := rdn_par (p := p) (Same.refl hS1.wf)
  have hm0 : (H.add (some (.cells (parC p) 0 true))).mine H.len = some (parC p, 0) := mine_add_eq rfl hlim
  simp only [frameOf, Nat.reduceAdd]
  repeat' (first | refine zA ?_ | refine zB ?_ | refine zC ?_ | refine zD ?_ | refine zE ?_ | refine zF ?_ | refine zG ?_ | refine zH ?_ | refine zI ?_ | refine zJ ?_ | refine zK rfl ?_ | refine zL ?_ | refine zM ?_ | refine zN ?_ | refine zO ?_ | refine zP rfl ?_ | refine zQ ?_ | ((first | refine zR ?_ | refine zS ?_ | refine zT ?_ | skip); intro K k; simp (disch := (first | (simp only [yD2, beq_self_eq_true, Nat.reduceLT, Nat.reduceAdd]; done) | ((fail_if_success (apply Bool.eq_iff_iff.2)); first | omega | (simp only [yD2, beq_self_eq_true, Nat.reduceLT, Nat.reduceAdd] <;> omega)) | fail)) only [↓yS, yT, ↓reduceIte, Nat.reduceEqDiff, Nat.reduceAdd, Nat.reduceMul, reduceCtorEq, Int.reduceToNat, g8, hb, hl]; refine yC (k _ _ ?_); clear k K) | ((first | refine zU ?_ | refine zV ?_ | refine zW ?_); intro A B C D a b c d; simp only [↓yG, Nat.reduceEqDiff, ↓reduceIte, g8, hb, hl]; (first | refine zX (a ?_) | refine zY (b ?_) | refine zZ (fun hc => c ?_) (fun hc => d ?_)) <;> clear a b c d A B C D <;> try simp only [yL] at hc) | (refine yA ?_; intro A a; simp only [↓yG, Nat.reduceEqDiff, ↓reduceIte, g8, hb, hl]; refine yB (a ?_); clear a A) | (refine yD ?_; simp only [gresults, ↓yG, Nat.reduceEqDiff, ↓reduceIte, Option.bind_some, gld_1, gld_n, g8, hb, hl]; refine ⟨_, rfl, ?_⟩; simp only [gone]))
  refine Gw_s fun K' hK' => G1_call (by simp only [gtarget, ↓GArg.ev, ↓evs, ↓Tr.get_set, Nat.reduceEqDiff, if_true, if_false, ↓reduceIte, Option.map_some]; rfl) (awake_ok _) fun r1 H1 hq => hK' _ _ ?_
  obtain ⟨rfl, rfl⟩ := hq
  repeat' (first | refine zA ?_ | refine zB ?_ | refine zC ?_ | refine zD ?_ | refine zE ?_ | refine zF ?_ | refine zG ?_ | refine zH ?_ | refine zI ?_ | refine zJ ?_ | refine zK rfl ?_ | refine zL ?_ | refine zM ?_ | refine zN ?_ | refine zO ?_ | refine zP rfl ?_ | refine zQ ?_ | ((first | refine zR ?_ | refine zS ?_ | refine zT ?_ | skip); intro K k; simp (disch := (first | (simp only [yD2, beq_self_eq_true, Nat.reduceLT, Nat.reduceAdd]; done) | ((fail_if_success (apply Bool.eq_iff_iff.2)); first | omega | (simp only [yD2, beq_self_eq_true, Nat.reduceLT, Nat.reduceAdd] <;> omega)) | fail)) only [↓yS, yT, ↓reduceIte, Nat.reduceEqDiff, Nat.reduceAdd, Nat.reduceMul, reduceCtorEq, Int.reduceToNat, g8, e0]; refine yC (k _ _ ?_); clear k K) | ((first | refine zU ?_ | refine zV ?_ | refine zW ?_); intro A B C D a b c d; simp only [↓yG, Nat.reduceEqDiff, ↓reduceIte, g8, e0]; (first | refine zX (a ?_) | refine zY (b ?_) | refine zZ (fun hc => c ?_) (fun hc => d ?_)) <;> clear a b c d A B C D <;> try simp only [yL] at hc) | (refine yA ?_; intro A a; simp only [↓yG, Nat.reduceEqDiff, ↓reduceIte, g8, e0]; refine yB (a ?_); clear a A) | (refine yD ?_; simp only [gresults, ↓yG, Nat.reduceEqDiff, ↓reduceIte, Option.bind_some, gld_1, gld_n, g8, e0]; refine ⟨_, rfl, ?_⟩; simp only [gone]))
  refine Gw_s fun K' hK' => G1_call (by simp only [gtarget, ↓GArg.ev, ↓evs, ↓Tr.get_set, Nat.reduceEqDiff, if_true, if_false, ↓reduceIte, Option.map_some]; rfl) (few_ok hw hS1.wf hS1 hp) fun r1 H1 hq => hK' _ _ ?_
  obtain ⟨q, rfl, hq1, hq16, hS2⟩ := hq
  have hin : H.len < (H.add (some (.cells (parC p) 0 true))).len := by rw [len_add]; omega
  have hm1 : H1.mine H.len = some (parC p, 0) := by rw [hS2.mine hin]; exact hm0
  have hst := gsetn_par (p := q) (parC_len p) hq1.kr.flat
  have hlim1 := hS2.wf.1
  have hlt0 : H.len < H1.len := Nat.lt_of_lt_of_le hin hS2.len
  have hS3 : Same H (H1.put H.len (.cells (parC q) 0 true)) := (hS1.trans hS2).put (Nat.le_refl _) hlt0 _
  have hrd1 : (H1.put H.len (.cells (parC q) 0 true)).rdn H.len 0 15 = some (parV q) := rdnP
  repeat' (first | refine zA ?_ | refine zB ?_ | refine zC ?_ | refine zD ?_ | refine zE ?_ | refine zF ?_ | refine zG ?_ | refine zH ?_ | refine zI ?_ | refine zJ ?_ | refine zK rfl ?_ | refine zL ?_ | refine zM ?_ | refine zN ?_ | refine zO ?_ | refine zP rfl ?_ | refine zQ ?_ | ((first | refine zR ?_ | refine zS ?_ | refine zT ?_ | skip); intro K k; simp (disch := (first | (simp only [yD2, beq_self_eq_true, Nat.reduceLT, Nat.reduceAdd]; done) | ((fail_if_success (apply Bool.eq_iff_iff.2)); first | omega | (simp only [yD2, beq_self_eq_true, Nat.reduceLT, Nat.reduceAdd] <;> omega)) | fail)) only [↓yS, yT, ↓reduceIte, Nat.reduceEqDiff, Nat.reduceAdd, Nat.reduceMul, reduceCtorEq, Int.reduceToNat, g8, hm1, hst, rdnP]; refine yC (k _ _ ?_); clear k K) | ((first | refine zU ?_ | refine zV ?_ | refine zW ?_); intro A B C D a b c d; simp only [↓yG, Nat.reduceEqDiff, ↓reduceIte, g8, hm1, hst, rdnP]; (first | refine zX (a ?_) | refine zY (b ?_) | refine zZ (fun hc => c ?_) (fun hc => d ?_)) <;> clear a b c d A B C D <;> try simp only [yL] at hc) | (refine yA ?_; intro A a; simp only [↓yG, Nat.reduceEqDiff, ↓reduceIte, g8, hm1, hst, rdnP]; refine yB (a ?_); clear a A) | (refine yD ?_; simp only [gresults, ↓yG, Nat.reduceEqDiff, ↓reduceIte, Option.bind_some, gld_1, gld_n, g8, hm1, hst, rdnP]; refine ⟨_, rfl, ?_⟩; simp only [gone]))
  have hl2 : H.len < (H1.put H.len (.cells (parC q) 0 true)).len := by rw [len_put]; omega
  generalize H1.put H.len (.cells (parC q) 0 true) = H2 at *
  refine Gw_s fun K' hK' => G1_call (by simp only [gtarget, ↓GArg.ev, ↓evs, ↓Tr.get_set, Nat.reduceEqDiff, if_true, if_false, ↓reduceIte, Option.map_some]; rfl) (Break_ok hS3.wf (hq1.later hw hS3)) fun r3 H3 hq => hK' _ _ ?_
  obtain ⟨⟨ev, pv, l, c, e, rfl, he1, he2, he3⟩, hS5⟩ := hq
  have hgb := gsetn_bz (c := c) (BrkR.flat he1) (BrkR.flat he2)
  have hlim3 := hS5.wf.1
  have hrd3 : H3.rdn H.len 0 15 = some (parV q) := by rw [hS5.rdn hl2]; exact hrd1
  have hlt3 : H.len < H3.len := Nat.lt_of_lt_of_le hl2 hS5.len
  have hsl := he1.isSl
  have hsl2 := he2.isSl
  by_cases h0 : e = 0
  case neg =>
    obtain ⟨rfl, rfl⟩ := brk_err he3 h0
    rw [if_neg h0] at hsl2
    have z1 := hsl.len
    have z2 := hsl2.len
    rw [show ((natsI []).length : Int) = 0 from rfl] at z1
    rw [show (([] : List Int).length : Int) = 0 from rfl] at z2
    have h0' := eq_false h0
    repeat' (first | (exfalso; omega) | refine zA ?_ | refine zB ?_ | refine zC ?_ | refine zD ?_ | refine zE ?_ | refine zF ?_ | refine zG ?_ | refine zH ?_ | refine zI ?_ | refine zJ ?_ | refine zK rfl ?_ | refine zL ?_ | refine zM ?_ | refine zN ?_ | refine zO ?_ | refine zP rfl ?_ | refine zQ ?_ | ((first | refine zR ?_ | refine zS ?_ | refine zT ?_ | skip); intro K k; simp (disch := (first | (simp only [yD2, beq_self_eq_true, Nat.reduceLT, Nat.reduceAdd]; done) | ((fail_if_success (apply Bool.eq_iff_iff.2)); first | omega | (simp only [yD2, beq_self_eq_true, Nat.reduceLT, Nat.reduceAdd] <;> omega)) | fail)) only [↓yS, yT, ↓reduceIte, Nat.reduceEqDiff, Nat.reduceAdd, Nat.reduceMul, reduceCtorEq, Int.reduceToNat, g8, brk_0, z3E, hgb, bkC_0, bkC_1, bkC_2, h0', z1, z2]; refine yC (k _ _ ?_); clear k K) | ((first | refine zU ?_ | refine zV ?_ | refine zW ?_); intro A B C D a b c d; simp only [↓yG, Nat.reduceEqDiff, ↓reduceIte, g8, brk_0, z3E, hgb, bkC_0, bkC_1, bkC_2, h0', z1, z2]; (first | refine zX (a ?_) | refine zY (b ?_) | refine zZ (fun hc => c ?_) (fun hc => d ?_)) <;> clear a b c d A B C D <;> try simp only [yL] at hc) | (refine yA ?_; intro A a; simp only [↓yG, Nat.reduceEqDiff, ↓reduceIte, g8, brk_0, z3E, hgb, bkC_0, bkC_1, bkC_2, h0', z1, z2]; refine yB (a ?_); clear a A) | (refine yD ?_; simp only [gresults, ↓yG, Nat.reduceEqDiff, ↓reduceIte, Option.bind_some, gld_1, gld_n, g8, brk_0, z3E, hgb, bkC_0, bkC_1, bkC_2, h0', z1, z2]; refine ⟨_, rfl, ?_⟩; simp only [gone]))
    exact hP _
  subst h0
  rw [if_pos rfl] at he2 hsl2
  have hS6a := (hS5.add (.cells (bkC (.slice none 0 0) 0 (.slice none 0 0)) 0 true)).put (i := H3.len) hS5.len (by rw [len_add]; omega) (.cells (bkC ev c pv) 0 true)
  have hS6b : Same H3 ((H3.add (some (.cells (bkC (.slice none 0 0) 0 (.slice none 0 0)) 0 true))).put H3.len (.cells (bkC ev c pv) 0 true)) := (Same.refl hS5.wf).new _ _
  have hrb : ((H3.add (some (.cells (bkC (.slice none 0 0) 0 (.slice none 0 0)) 0 true))).put H3.len (.cells (bkC ev c pv) 0 true)).rdn H3.len 0 3 = some (bkV ev c pv) := rdn_put_all rfl
  repeat' (first | (exfalso; omega) | refine zA ?_ | refine zB ?_ | refine zC ?_ | refine zD ?_ | refine zE ?_ | refine zF ?_ | refine zG ?_ | refine zH ?_ | refine zI ?_ | refine zJ ?_ | refine zK rfl ?_ | refine zL ?_ | refine zM ?_ | refine zN ?_ | refine zO ?_ | refine zP rfl ?_ | refine zQ ?_ | ((first | refine zR ?_ | refine zS ?_ | refine zT ?_ | skip); intro K k; simp (disch := (first | (simp only [yD2, beq_self_eq_true, Nat.reduceLT, Nat.reduceAdd]; done) | ((fail_if_success (apply Bool.eq_iff_iff.2)); first | omega | (simp only [yD2, beq_self_eq_true, Nat.reduceLT, Nat.reduceAdd] <;> omega)) | fail)) only [↓yS, yT, ↓reduceIte, Nat.reduceEqDiff, Nat.reduceAdd, Nat.reduceMul, reduceCtorEq, Int.reduceToNat, g8, brk_0, z3E, hgb, bkC_0, hrd3]; refine yC (k _ _ ?_); clear k K) | ((first | refine zU ?_ | refine zV ?_ | refine zW ?_); intro A B C D a b c d; simp only [↓yG, Nat.reduceEqDiff, ↓reduceIte, g8, brk_0, z3E, hgb, bkC_0, hrd3]; (first | refine zX (a ?_) | refine zY (b ?_) | refine zZ (fun hc => c ?_) (fun hc => d ?_)) <;> clear a b c d A B C D <;> try simp only [yL] at hc) | (refine yA ?_; intro A a; simp only [↓yG, Nat.reduceEqDiff, ↓reduceIte, g8, brk_0, z3E, hgb, bkC_0, hrd3]; refine yB (a ?_); clear a A) | (refine yD ?_; simp only [gresults, ↓yG, Nat.reduceEqDiff, ↓reduceIte, Option.bind_some, gld_1, gld_n, g8, brk_0, z3E, hgb, bkC_0, hrd3]; refine ⟨_, rfl, ?_⟩; simp only [gone]))
  have hS6 := hS3.trans hS6a
  have hm6 : ((H3.add (some (.cells (bkC (.slice none 0 0) 0 (.slice none 0 0)) 0 true))).put H3.len (.cells (bkC ev c pv) 0 true)).mine H3.len = some (bkC ev c pv, 0) := mine_put_same hlim3
  have hl6 : H3.len < ((H3.add (some (.cells (bkC (.slice none 0 0) 0 (.slice none 0 0)) 0 true))).put H3.len (.cells (bkC ev c pv) 0 true)).len := by simp only [len_add, len_put]; omega
  have he1' := GArg1.same he1 hS5.wf hS6b
  have he2' := GArg1.same he2 hS5.wf hS6b
  have hrd6 : ((H3.add (some (.cells (bkC (.slice none 0 0) 0 (.slice none 0 0)) 0 true))).put H3.len (.cells (bkC ev c pv) 0 true)).rdn H.len 0 15 = some (parV q) := by rw [hS6b.rdn hlt3]; exact hrd3
  generalize (H3.add (some (.cells (bkC (.slice none 0 0) 0 (.slice none 0 0)) 0 true))).put H3.len (.cells (bkC ev c pv) 0 true) = H4 at *
  obtain ⟨h0, _, hbk, hcs, _⟩ := brk_cost he3
  have hln : (natsI l).length = l.length := by simp [natsI]
  have hl4 : l.length ≤ 4 := by have := hbk.len; have := (parF_ok h0).2.2.2.2.2.1; omega
  refine Gw_s fun K' hK' => G1_call (by simp only [gtarget, ↓GArg.ev, ↓evs, ↓Tr.get_set, Nat.reduceEqDiff, if_true, if_false, ↓reduceIte, Option.map_some]; rfl) (Cost_ok hS6.wf (hq1.later hw hS6) he1' (by rw [hln]; omega)) fun r5 H5 hq => hK' _ _ ?_
  obtain ⟨rfl, hS7⟩ := hq
  rw [hcs]
  have hr1 : ∀ o, H5.rd H3.len o = (bkC ev c pv)[o]? := fun o => by rw [hS7.rd hl6]; exact mine_rd hm6
  have hrb5 : H5.rdn H3.len 0 3 = some (bkV ev c pv) := by rw [hS7.rdn hl6]; exact hrb
  have hrd5 : H5.rdn H.len 0 15 = some (parV q) := by rw [hS7.rdn (by omega)]; exact hrd6
  unfold tv2
  repeat' (first | (exfalso; omega) | refine zA ?_ | refine zB ?_ | refine zC ?_ | refine zD ?_ | refine zE ?_ | refine zF ?_ | refine zG ?_ | refine zH ?_ | refine zI ?_ | refine zJ ?_ | refine zK rfl ?_ | refine zL ?_ | refine zM ?_ | refine zN ?_ | refine zO ?_ | refine zP rfl ?_ | refine zQ ?_ | ((first | refine zR ?_ | refine zS ?_ | refine zT ?_ | skip); intro K k; simp (disch := (first | (simp only [yD2, beq_self_eq_true, Nat.reduceLT, Nat.reduceAdd]; done) | ((fail_if_success (apply Bool.eq_iff_iff.2)); first | omega | (simp only [yD2, beq_self_eq_true, Nat.reduceLT, Nat.reduceAdd] <;> omega)) | fail)) only [↓yS, yT, ↓reduceIte, Nat.reduceEqDiff, Nat.reduceAdd, Nat.reduceMul, reduceCtorEq, Int.reduceToNat, g8, hr1, hrb5, hrd5]; refine yC (k _ _ ?_); clear k K) | ((first | refine zU ?_ | refine zV ?_ | refine zW ?_); intro A B C D a b c d; simp only [↓yG, Nat.reduceEqDiff, ↓reduceIte, g8, hr1, hrb5, hrd5]; (first | refine zX (a ?_) | refine zY (b ?_) | refine zZ (fun hc => c ?_) (fun hc => d ?_)) <;> clear a b c d A B C D <;> try simp only [yL] at hc) | (refine yA ?_; intro A a; simp only [↓yG, Nat.reduceEqDiff, ↓reduceIte, g8, hr1, hrb5, hrd5]; refine yB (a ?_); clear a A) | (refine yD ?_; simp only [gresults, ↓yG, Nat.reduceEqDiff, ↓reduceIte, Option.bind_some, gld_1, gld_n, g8, hr1, hrb5, hrd5]; refine ⟨_, rfl, ?_⟩; simp only [gone]))
  have hplen : (potL q).length ≤ 4611686018427387904 := by
    unfold potL
    rw [potU_len]
    have hr4 := (parF_ok h0).2.2.2.2.2.1
    have : (q.r.toNat + 1) * (q.l.length + 1) ≤ 5 * (q.l.length + 1) := Nat.mul_le_mul_right _ (by omega)
    omega
  refine Gw_s fun K' hK' => G1_call (by simp only [gtarget, ↓GArg.ev, ↓evs, ↓Tr.get_set, Nat.reduceEqDiff, if_true, if_false, ↓reduceIte, Option.map_some]; rfl) (Accept_ok hS7.wf (hq1.later hw (hS6.trans hS7)) (GArg1.same he1' hS6.wf hS7) (by rw [hln]; omega) (GArg1.same he2' hS6.wf hS7) hplen (fun x hx => by have := potL_mem h0 x hx; omega)) fun r9 H9 hq => hK' _ _ ?_
  obtain ⟨ea, rfl, hea, hS9⟩ := hq
  obtain rfl : ea = 0 := hea.2 (brk_acc he3)
  have hr9 : ∀ o, H9.rd H3.len o = (bkC ev c pv)[o]? := fun o => by rw [(hS7.trans hS9).rd hl6]; exact mine_rd hm6
  repeat' (first | (exfalso; omega) | refine zA ?_ | refine zB ?_ | refine zC ?_ | refine zD ?_ | refine zE ?_ | refine zF ?_ | refine zG ?_ | refine zH ?_ | refine zI ?_ | refine zJ ?_ | refine zK rfl ?_ | refine zL ?_ | refine zM ?_ | refine zN ?_ | refine zO ?_ | refine zP rfl ?_ | refine zQ ?_ | ((first | refine zR ?_ | refine zS ?_ | refine zT ?_ | skip); intro K k; simp (disch := (first | (simp only [yD2, beq_self_eq_true, Nat.reduceLT, Nat.reduceAdd]; done) | ((fail_if_success (apply Bool.eq_iff_iff.2)); first | omega | (simp only [yD2, beq_self_eq_true, Nat.reduceLT, Nat.reduceAdd] <;> omega)) | fail)) only [↓yS, yT, ↓reduceIte, Nat.reduceEqDiff, Nat.reduceAdd, Nat.reduceMul, reduceCtorEq, Int.reduceToNat, g8, hr9, bkC_1]; refine yC (k _ _ ?_); clear k K) | ((first | refine zU ?_ | refine zV ?_ | refine zW ?_); intro A B C D a b c d; simp only [↓yG, Nat.reduceEqDiff, ↓reduceIte, g8, hr9, bkC_1]; (first | refine zX (a ?_) | refine zY (b ?_) | refine zZ (fun hc => c ?_) (fun hc => d ?_)) <;> clear a b c d A B C D <;> try simp only [yL] at hc) | (refine yA ?_; intro A a; simp only [↓yG, Nat.reduceEqDiff, ↓reduceIte, g8, hr9, bkC_1]; refine yB (a ?_); clear a A) | (refine yD ?_; simp only [gresults, ↓yG, Nat.reduceEqDiff, ↓reduceIte, Option.bind_some, gld_1, gld_n, g8, hr9, bkC_1]; refine ⟨_, rfl, ?_⟩; simp only [gone]))
  all_goals first | exact hP _ | (rw [decide_eq_true rfl]; exact hP _)
theorem proves_law {H : GHeap} (hw : H.wf) {gvs : List Value} (h : RdAs H [parShp] gvs) : ∃ v H2, gev G 8 gvs H = some (v, H2) ∧ v = .bool true := by
  obtain ⟨gv, _, rfl, h1, rfl⟩ := h
  obtain ⟨p, rfl, hp, _⟩ := RdA.par h1
  exact proves_ok hw hp
/-! ### Sound -/
theorem sound_ok {H : GHeap} (hw : H.wf) {p : Par} (hp : PR H p) {ev pv ev2 : Value} {E pot E2 : List Int} {c : Int} (hE : IR H ev E) (hEl : E.length ≤ 4611686018427387904) (hV : IR H pv pot) (hVl : pot.length ≤ 4611686018427387904)
    (hVw : ∀ x ∈ pot, -9223372036854775808 ≤ x ∧ x ≤ 9223372036854775807) (hE2 : IR H ev2 E2) (hEl2 : E2.length ≤ 4611686018427387904) : ∃ r H', gev G 9 [parV p, bkV ev c pv, ev2] H = some (r, H') ∧ r = .bool true := by
  refine gev_GW (f := 9) rfl fun Post hPost => ?_
  have hP : ∀ H', Post (.bool true) H' := fun H' => hPost _ _ rfl
  have hf := hp.kr.flat
  have hlim := hw.1
  have hb := par_cflat hf
  have hl := par_cells p
  have hfb := bkC_flat (c := c) (BrkR.flat hE) (BrkR.flat hV)
  have hbv : bkV ev c pv = .agg (bkC ev c pv).toArray := rfl
  have hS0 := (Same.refl hw).add (.cells (parC p) 0 true)
  have hS1 := hS0.add (.cells (bkC ev c pv) 0 true)
  have hSa : Same (H.add (some (.cells (parC p) 0 true))) ((H.add (some (.cells (parC p) 0 true))).add (some (.cells (bkC ev c pv) 0 true))) := (Same.refl hS0.wf).add _
  have e0 := rdn_par (p := p) hSa
  have hm0 : ((H.add (some (.cells (parC p) 0 true))).add (some (.cells (bkC ev c pv) 0 true))).mine H.len = some (parC p, 0) := by rw [mine_add_ne (by rw [len_add]; omega)]; exact mine_add_eq rfl hlim
  have hm9 : ((H.add (some (.cells (parC p) 0 true))).add (some (.cells (bkC ev c pv) 0 true))).mine (H.len + 1) = some (bkC ev c pv, 0) := mine_add_eq (by rw [len_add]) (by rw [lim_add]; omega)
  have hin : H.len + 1 < ((H.add (some (.cells (parC p) 0 true))).add (some (.cells (bkC ev c pv) 0 true))).len := by simp only [len_add]; omega
  simp only [frameOf, Nat.reduceAdd]
  repeat' (first | refine zA ?_ | refine zB ?_ | refine zC ?_ | refine zD ?_ | refine zE ?_ | refine zF ?_ | refine zG ?_ | refine zH ?_ | refine zI ?_ | refine zJ ?_ | refine zK rfl ?_ | refine zL ?_ | refine zM ?_ | refine zN ?_ | refine zO ?_ | refine zP rfl ?_ | refine zQ ?_ | ((first | refine zR ?_ | refine zS ?_ | refine zT ?_ | skip); intro K k; simp (disch := (first | (simp only [yD2, beq_self_eq_true, Nat.reduceLT, Nat.reduceAdd]; done) | ((fail_if_success (apply Bool.eq_iff_iff.2)); first | omega | (simp only [yD2, beq_self_eq_true, Nat.reduceLT, Nat.reduceAdd] <;> omega)) | fail)) only [↓yS, yT, ↓reduceIte, Nat.reduceEqDiff, Nat.reduceAdd, Nat.reduceMul, reduceCtorEq, Int.reduceToNat, g9, hb, hl, hbv, agg_all, agg_list, hfb]; refine yC (k _ _ ?_); clear k K) | ((first | refine zU ?_ | refine zV ?_ | refine zW ?_); intro A B C D a b c d; simp only [↓yG, Nat.reduceEqDiff, ↓reduceIte, g9, hb, hl, hbv, agg_all, agg_list, hfb]; (first | refine zX (a ?_) | refine zY (b ?_) | refine zZ (fun hc => c ?_) (fun hc => d ?_)) <;> clear a b c d A B C D <;> try simp only [yL] at hc) | (refine yA ?_; intro A a; simp only [↓yG, Nat.reduceEqDiff, ↓reduceIte, g9, hb, hl, hbv, agg_all, agg_list, hfb]; refine yB (a ?_); clear a A) | (refine yD ?_; simp only [gresults, ↓yG, Nat.reduceEqDiff, ↓reduceIte, Option.bind_some, gld_1, gld_n, g9, hb, hl, hbv, agg_all, agg_list, hfb]; refine ⟨_, rfl, ?_⟩; simp only [gone]))
  generalize (H.add (some (.cells (parC p) 0 true))).add (some (.cells (bkC ev c pv) 0 true)) = Ha at *
  refine Gw_s fun K' hK' => G1_call (by simp only [gtarget, ↓GArg.ev, ↓evs, ↓Tr.get_set, Nat.reduceEqDiff, if_true, if_false, ↓reduceIte, Option.map_some]; rfl) (awake_ok _) fun r1 H1 hq => hK' _ _ ?_
  obtain ⟨rfl, rfl⟩ := hq
  repeat' (first | refine zA ?_ | refine zB ?_ | refine zC ?_ | refine zD ?_ | refine zE ?_ | refine zF ?_ | refine zG ?_ | refine zH ?_ | refine zI ?_ | refine zJ ?_ | refine zK rfl ?_ | refine zL ?_ | refine zM ?_ | refine zN ?_ | refine zO ?_ | refine zP rfl ?_ | refine zQ ?_ | ((first | refine zR ?_ | refine zS ?_ | refine zT ?_ | skip); intro K k; simp (disch := (first | (simp only [yD2, beq_self_eq_true, Nat.reduceLT, Nat.reduceAdd]; done) | ((fail_if_success (apply Bool.eq_iff_iff.2)); first | omega | (simp only [yD2, beq_self_eq_true, Nat.reduceLT, Nat.reduceAdd] <;> omega)) | fail)) only [↓yS, yT, ↓reduceIte, Nat.reduceEqDiff, Nat.reduceAdd, Nat.reduceMul, reduceCtorEq, Int.reduceToNat, g9, e0]; refine yC (k _ _ ?_); clear k K) | ((first | refine zU ?_ | refine zV ?_ | refine zW ?_); intro A B C D a b c d; simp only [↓yG, Nat.reduceEqDiff, ↓reduceIte, g9, e0]; (first | refine zX (a ?_) | refine zY (b ?_) | refine zZ (fun hc => c ?_) (fun hc => d ?_)) <;> clear a b c d A B C D <;> try simp only [yL] at hc) | (refine yA ?_; intro A a; simp only [↓yG, Nat.reduceEqDiff, ↓reduceIte, g9, e0]; refine yB (a ?_); clear a A) | (refine yD ?_; simp only [gresults, ↓yG, Nat.reduceEqDiff, ↓reduceIte, Option.bind_some, gld_1, gld_n, g9, e0]; refine ⟨_, rfl, ?_⟩; simp only [gone]))
  refine Gw_s fun K' hK' => G1_call (by simp only [gtarget, ↓GArg.ev, ↓evs, ↓Tr.get_set, Nat.reduceEqDiff, if_true, if_false, ↓reduceIte, Option.map_some]; rfl) (few_ok hw hS1.wf hS1 hp) fun r1 H1 hq => hK' _ _ ?_
  obtain ⟨q, rfl, hq1, hq16, hS2⟩ := hq
  have hm1 : H1.mine H.len = some (parC p, 0) := by rw [hS2.mine (by omega)]; exact hm0
  have hm91 : H1.mine (H.len + 1) = some (bkC ev c pv, 0) := by rw [hS2.mine hin]; exact hm9
  have hst := gsetn_par (p := q) (parC_len p) hq1.kr.flat
  have hlim1 := hS2.wf.1
  have hlt0 : H.len + 1 < H1.len := Nat.lt_of_lt_of_le hin hS2.len
  have hS3 : Same H (H1.put H.len (.cells (parC q) 0 true)) := (hS1.trans hS2).put (Nat.le_refl _) (by omega) _
  have hrd1 : (H1.put H.len (.cells (parC q) 0 true)).rdn H.len 0 15 = some (parV q) := rdnP
  have hm92 : (H1.put H.len (.cells (parC q) 0 true)).mine (H.len + 1) = some (bkC ev c pv, 0) := by rw [mine_put_ne (by omega)]; exact hm91
  repeat' (first | refine zA ?_ | refine zB ?_ | refine zC ?_ | refine zD ?_ | refine zE ?_ | refine zF ?_ | refine zG ?_ | refine zH ?_ | refine zI ?_ | refine zJ ?_ | refine zK rfl ?_ | refine zL ?_ | refine zM ?_ | refine zN ?_ | refine zO ?_ | refine zP rfl ?_ | refine zQ ?_ | ((first | refine zR ?_ | refine zS ?_ | refine zT ?_ | skip); intro K k; simp (disch := (first | (simp only [yD2, beq_self_eq_true, Nat.reduceLT, Nat.reduceAdd]; done) | ((fail_if_success (apply Bool.eq_iff_iff.2)); first | omega | (simp only [yD2, beq_self_eq_true, Nat.reduceLT, Nat.reduceAdd] <;> omega)) | fail)) only [↓yS, yT, ↓reduceIte, Nat.reduceEqDiff, Nat.reduceAdd, Nat.reduceMul, reduceCtorEq, Int.reduceToNat, g9, hm1, hst, rdnP]; refine yC (k _ _ ?_); clear k K) | ((first | refine zU ?_ | refine zV ?_ | refine zW ?_); intro A B C D a b c d; simp only [↓yG, Nat.reduceEqDiff, ↓reduceIte, g9, hm1, hst, rdnP]; (first | refine zX (a ?_) | refine zY (b ?_) | refine zZ (fun hc => c ?_) (fun hc => d ?_)) <;> clear a b c d A B C D <;> try simp only [yL] at hc) | (refine yA ?_; intro A a; simp only [↓yG, Nat.reduceEqDiff, ↓reduceIte, g9, hm1, hst, rdnP]; refine yB (a ?_); clear a A) | (refine yD ?_; simp only [gresults, ↓yG, Nat.reduceEqDiff, ↓reduceIte, Option.bind_some, gld_1, gld_n, g9, hm1, hst, rdnP]; refine ⟨_, rfl, ?_⟩; simp only [gone]))
  have hl2 : H.len + 1 < (H1.put H.len (.cells (parC q) 0 true)).len := by rw [len_put]; omega
  generalize H1.put H.len (.cells (parC q) 0 true) = H2 at *
  refine Gw_s fun K' hK' => G1_call (by simp only [gtarget, ↓GArg.ev, ↓evs, ↓Tr.get_set, Nat.reduceEqDiff, if_true, if_false, ↓reduceIte, Option.map_some]; rfl) (Cost_ok hS3.wf (hq1.later hw hS3) (GArg1.same hE2 hw hS3) hEl2) fun r3 H3 hq => hK' _ _ ?_
  obtain ⟨rfl, hS5⟩ := hq
  have hrd3 : H3.rdn H.len 0 15 = some (parV q) := by rw [hS5.rdn (by omega)]; exact hrd1
  have hrb3 : H3.rdn (H.len + 1) 0 3 = some (bkV ev c pv) := by
    rw [hS5.rdn hl2]
    simp only [GHeap.rdn, mine_cs hm92, Option.bind_some]; rfl
  have htt : tv2 (costF q E2) = .tuple #[.int .i64 (costF q E2).1, .int .i64 (costF q E2).2] := rfl
  have hcst : costF q E2 = ((costF q E2).1, (costF q E2).2) := rfl
  generalize (costF q E2).1 = c2 at *
  generalize (costF q E2).2 = e2 at *
  by_cases h2 : e2 = 0
  case neg =>
    have h2' := eq_false h2
    repeat' (first | (exfalso; omega) | refine zA ?_ | refine zB ?_ | refine zC ?_ | refine zD ?_ | refine zE ?_ | refine zF ?_ | refine zG ?_ | refine zH ?_ | refine zI ?_ | refine zJ ?_ | refine zK rfl ?_ | refine zL ?_ | refine zM ?_ | refine zN ?_ | refine zO ?_ | refine zP rfl ?_ | refine zQ ?_ | ((first | refine zR ?_ | refine zS ?_ | refine zT ?_ | skip); intro K k; simp (disch := (first | (simp only [yD2, beq_self_eq_true, Nat.reduceLT, Nat.reduceAdd]; done) | ((fail_if_success (apply Bool.eq_iff_iff.2)); first | omega | (simp only [yD2, beq_self_eq_true, Nat.reduceLT, Nat.reduceAdd] <;> omega)) | fail)) only [↓yS, yT, ↓reduceIte, Nat.reduceEqDiff, Nat.reduceAdd, Nat.reduceMul, reduceCtorEq, Int.reduceToNat, g9, htt, h2']; refine yC (k _ _ ?_); clear k K) | ((first | refine zU ?_ | refine zV ?_ | refine zW ?_); intro A B C D a b c d; simp only [↓yG, Nat.reduceEqDiff, ↓reduceIte, g9, htt, h2']; (first | refine zX (a ?_) | refine zY (b ?_) | refine zZ (fun hc => c ?_) (fun hc => d ?_)) <;> clear a b c d A B C D <;> try simp only [yL] at hc) | (refine yA ?_; intro A a; simp only [↓yG, Nat.reduceEqDiff, ↓reduceIte, g9, htt, h2']; refine yB (a ?_); clear a A) | (refine yD ?_; simp only [gresults, ↓yG, Nat.reduceEqDiff, ↓reduceIte, Option.bind_some, gld_1, gld_n, g9, htt, h2']; refine ⟨_, rfl, ?_⟩; simp only [gone]))
    exact hP _
  subst h2
  repeat' (first | (exfalso; omega) | refine zA ?_ | refine zB ?_ | refine zC ?_ | refine zD ?_ | refine zE ?_ | refine zF ?_ | refine zG ?_ | refine zH ?_ | refine zI ?_ | refine zJ ?_ | refine zK rfl ?_ | refine zL ?_ | refine zM ?_ | refine zN ?_ | refine zO ?_ | refine zP rfl ?_ | refine zQ ?_ | ((first | refine zR ?_ | refine zS ?_ | refine zT ?_ | skip); intro K k; simp (disch := (first | (simp only [yD2, beq_self_eq_true, Nat.reduceLT, Nat.reduceAdd]; done) | ((fail_if_success (apply Bool.eq_iff_iff.2)); first | omega | (simp only [yD2, beq_self_eq_true, Nat.reduceLT, Nat.reduceAdd] <;> omega)) | fail)) only [↓yS, yT, ↓reduceIte, Nat.reduceEqDiff, Nat.reduceAdd, Nat.reduceMul, reduceCtorEq, Int.reduceToNat, g9, htt, hrd3, hrb3]; refine yC (k _ _ ?_); clear k K) | ((first | refine zU ?_ | refine zV ?_ | refine zW ?_); intro A B C D a b c d; simp only [↓yG, Nat.reduceEqDiff, ↓reduceIte, g9, htt, hrd3, hrb3]; (first | refine zX (a ?_) | refine zY (b ?_) | refine zZ (fun hc => c ?_) (fun hc => d ?_)) <;> clear a b c d A B C D <;> try simp only [yL] at hc) | (refine yA ?_; intro A a; simp only [↓yG, Nat.reduceEqDiff, ↓reduceIte, g9, htt, hrd3, hrb3]; refine yB (a ?_); clear a A) | (refine yD ?_; simp only [gresults, ↓yG, Nat.reduceEqDiff, ↓reduceIte, Option.bind_some, gld_1, gld_n, g9, htt, hrd3, hrb3]; refine ⟨_, rfl, ?_⟩; simp only [gone]))
  have hS6 := hS3.trans hS5
  intro K' hK'; refine G1_call (by simp only [gtarget, ↓GArg.ev, ↓evs, ↓Tr.get_set, Nat.reduceEqDiff, if_true, if_false, ↓reduceIte, Option.map_some]; rfl) (Accept_ok hS6.wf (hq1.later hw hS6) (GArg1.same hE hw hS6) hEl (GArg1.same hV hw hS6) hVl hVw) fun r9 H9 hq => hK' _ _ ?_
  obtain ⟨ea, rfl, hea, hS9⟩ := hq
  have hr9 : ∀ o, H9.rd (H.len + 1) o = (bkC ev c pv)[o]? := fun o => by rw [(hS5.trans hS9).rd hl2]; exact mine_rd hm92
  by_cases h3 : ea = 0
  case neg =>
    have h3' := eq_false h3
    repeat' (first | (exfalso; omega) | refine zA ?_ | refine zB ?_ | refine zC ?_ | refine zD ?_ | refine zE ?_ | refine zF ?_ | refine zG ?_ | refine zH ?_ | refine zI ?_ | refine zJ ?_ | refine zK rfl ?_ | refine zL ?_ | refine zM ?_ | refine zN ?_ | refine zO ?_ | refine zP rfl ?_ | refine zQ ?_ | ((first | refine zR ?_ | refine zS ?_ | refine zT ?_ | skip); intro K k; simp (disch := (first | (simp only [yD2, beq_self_eq_true, Nat.reduceLT, Nat.reduceAdd]; done) | ((fail_if_success (apply Bool.eq_iff_iff.2)); first | omega | (simp only [yD2, beq_self_eq_true, Nat.reduceLT, Nat.reduceAdd] <;> omega)) | fail)) only [↓yS, yT, ↓reduceIte, Nat.reduceEqDiff, Nat.reduceAdd, Nat.reduceMul, reduceCtorEq, Int.reduceToNat, g9, h3']; refine yC (k _ _ ?_); clear k K) | ((first | refine zU ?_ | refine zV ?_ | refine zW ?_); intro A B C D a b c d; simp only [↓yG, Nat.reduceEqDiff, ↓reduceIte, g9, h3']; (first | refine zX (a ?_) | refine zY (b ?_) | refine zZ (fun hc => c ?_) (fun hc => d ?_)) <;> clear a b c d A B C D <;> try simp only [yL] at hc) | (refine yA ?_; intro A a; simp only [↓yG, Nat.reduceEqDiff, ↓reduceIte, g9, h3']; refine yB (a ?_); clear a A) | (refine yD ?_; simp only [gresults, ↓yG, Nat.reduceEqDiff, ↓reduceIte, Option.bind_some, gld_1, gld_n, g9, h3']; refine ⟨_, rfl, ?_⟩; simp only [gone]))
    exact hP _
  have hle := (hea.1 h3).sound hcst
  subst h3
  have hd : decide (c ≤ c2) = true := decide_eq_true hle
  repeat' (first | (exfalso; omega) | refine zA ?_ | refine zB ?_ | refine zC ?_ | refine zD ?_ | refine zE ?_ | refine zF ?_ | refine zG ?_ | refine zH ?_ | refine zI ?_ | refine zJ ?_ | refine zK rfl ?_ | refine zL ?_ | refine zM ?_ | refine zN ?_ | refine zO ?_ | refine zP rfl ?_ | refine zQ ?_ | ((first | refine zR ?_ | refine zS ?_ | refine zT ?_ | skip); intro K k; simp (disch := (first | (simp only [yD2, beq_self_eq_true, Nat.reduceLT, Nat.reduceAdd]; done) | ((fail_if_success (apply Bool.eq_iff_iff.2)); first | omega | (simp only [yD2, beq_self_eq_true, Nat.reduceLT, Nat.reduceAdd] <;> omega)) | fail)) only [↓yS, yT, ↓reduceIte, Nat.reduceEqDiff, Nat.reduceAdd, Nat.reduceMul, reduceCtorEq, Int.reduceToNat, g9, hr9, bkC_1]; refine yC (k _ _ ?_); clear k K) | ((first | refine zU ?_ | refine zV ?_ | refine zW ?_); intro A B C D a b c d; simp only [↓yG, Nat.reduceEqDiff, ↓reduceIte, g9, hr9, bkC_1]; (first | refine zX (a ?_) | refine zY (b ?_) | refine zZ (fun hc => c ?_) (fun hc => d ?_)) <;> clear a b c d A B C D <;> try simp only [yL] at hc) | (refine yA ?_; intro A a; simp only [↓yG, Nat.reduceEqDiff, ↓reduceIte, g9, hr9, bkC_1]; refine yB (a ?_); clear a A) | (refine yD ?_; simp only [gresults, ↓yG, Nat.reduceEqDiff, ↓reduceIte, Option.bind_some, gld_1, gld_n, g9, hr9, bkC_1]; refine ⟨_, rfl, ?_⟩; simp only [gone]))
  all_goals first | exact hP _ | (rw [hd]; exact hP _)
def brkShp : Shp := .st [.sl (.int .i64), .int .i64, .sl (.int .i64)]
theorem RdA.brk {Q : Nat → Prop} {H : GHeap} {gv : Value} (h : RdAQ Q H brkShp gv) : ∃ ev c pv, gv = bkV ev c pv ∧ RdAQ Q H (.sl (.int .i64)) ev ∧ RdAQ Q H (.sl (.int .i64)) pv := by
  obtain ⟨gs, rfl, h⟩ := h
  simp only [brkShp, RdSsQ] at h
  obtain ⟨a, _, rfl, h1, _, _, rfl, ⟨c, rfl, _⟩, b, _, rfl, h2, rfl⟩ := h
  have key : ∀ {a : List Value}, RdSQ Q H (.sl (.int .i64)) a → ∃ v, a = [v] ∧ RdAQ Q H (.sl (.int .i64)) v := fun {a} h => by
    simp only [RdSQ] at h
    obtain ⟨v, rows, rfl, k⟩ := h
    refine ⟨v, rfl, ?_⟩
    simp only [RdAQ, RdSQ]
    exact ⟨v, rows, rfl, k⟩
  obtain ⟨v, rfl, k1⟩ := key h1
  obtain ⟨w, rfl, k2⟩ := key h2
  exact ⟨v, c, w, rfl, k1, k2⟩
theorem sound_law {H : GHeap} (hw : H.wf) {gvs : List Value} (h : RdAs H [parShp, brkShp, .sl (.int .i64)] gvs) : ∃ v H2, gev G 9 gvs H = some (v, H2) ∧ v = .bool true := by
  obtain ⟨gv, _, rfl, h1, gv2, _, rfl, h2, gv3, _, rfl, h3, rfl⟩ := h
  obtain ⟨p, rfl, hp, _⟩ := RdA.par h1
  obtain ⟨ev, c, pv, rfl, k1, k2⟩ := RdA.brk h2
  obtain ⟨E, hE, hEl, _⟩ := RdA.ints k1
  obtain ⟨V, hV, hVl, hVw⟩ := RdA.ints k2
  obtain ⟨E2, hE2, hEl2, _⟩ := RdA.ints h3
  exact sound_ok hw hp hE hEl hV hVl hVw hE2 hEl2
end Go.Gh
