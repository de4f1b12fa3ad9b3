/-
  rowbreak's reference, walked: Break.
-/
import Derived.Test.YtbhgpiakeimmlaaDoorRbWF
import Derived.Test.YtbhgpiakeimmlaaDoorRbW8
namespace Go.Gh
set_option linter.unusedSimpArgs false
set_option linter.unusedVariables false
open Go.RowKit
set_option maxRecDepth 4000

theorem potU'_at {D : DD} {R k i : Nat} (hk : k ≤ R) (hi : i ≤ D.n) : (potU' D R ((R + 1) * (D.n + 1)))[k * (D.n + 1) + i]! = D.P (R - k) i := by
  have hlt := idx_lt' hk hi
  have h1 : (k * (D.n + 1) + i) / (D.n + 1) = k := by
    rw [Nat.mul_comm, Nat.mul_add_div (by omega), Nat.div_eq_of_lt (by omega), Nat.add_zero]
  have h2 : (k * (D.n + 1) + i) % (D.n + 1) = i := by
    rw [Nat.mul_comm, Nat.mul_add_mod, Nat.mod_eq_of_lt (by omega)]
  have hl : (potU' D R ((R + 1) * (D.n + 1))).length = (R + 1) * (D.n + 1) := by simp [potU']
  rw [getElem!_pos _ _ (by rw [hl]; exact hlt)]
  simp only [potU', List.getElem_map, List.getElem_range, h1, h2]
theorem parF_rm {p : Par} {m : Int} (h : parF p = 0) (h1 : 1 ≤ m) (h4 : m ≤ 4) : parF {p with r := m} = 0 := by
  obtain ⟨k1, k2, k3, k4, k5, k6, k7⟩ := parF_ok h
  unfold parF
  simp only
  rw [if_neg (by omega), if_neg k2, if_neg (by omega)]
  exact k7
theorem PQ.rm {H : GHeap} {p : Par} {m : Int} (h : PQ H p) (h1 : 1 ≤ m) (h4 : m ≤ 4) : PQ H {p with r := m} :=
  ⟨⟨⟨h.pk.pr.kr, h.pk.pr.sh, h.pk.pr.le, h.pk.pr.ww, by show -9223372036854775808 ≤ m ∧ m ≤ 9223372036854775807; omega⟩, parF_rm h.pk.ok h1 h4⟩, h.sq⟩
theorem IR.down {H H' : GHeap} {v : Value} {E : List Int} (hw : H.wf) (hS : Same H.up H') (h : IR H' v E) : IR (H'.down H.lim) v E := ⟨h.rd, h.sl⟩
theorem IR.fl {H : GHeap} {ev : Value} {l : List Int} (h : IR H ev l) : flatV ev = true := by
  obtain ⟨a, gc, e, _⟩ := h.sl
  rw [e]; exact flatV_sl
theorem rdnP' {H : GHeap} {i u : Nat} {b : Bool} {p : Par} : (H.put i (.cells (parC p) u b)).rdn i 0 15 = some (parV p) := rdnP
set_option maxHeartbeats 4000000 in
theorem rBreak_ok {H : GHeap} (hw : H.wf) {p : Par} (hp : PR H p) (hsq : ShQ p.l) :
    ∃ r H', gev G 20 [parV p] H = some (r, H') ∧ (BrkR H' p r ∧ Same H H') := by
  refine gev_GW (f := 20) rfl fun Post hPost => ?_
  have hf := hp.kr.flat
  have hlim := hw.1
  have hb := par_cflat hf
  have hl := par_cells p
  have hS1 := ((Same.refl hw).add (.cells (parC p) 0 true)).add (.cells [.slice none 0 0, .int .i64 0, .slice none 0 0] 0 true)
  have hSa : Same (H.add (some (.cells (parC p) 0 true))) ((H.add (some (.cells (parC p) 0 true))).add (some (.cells [.slice none 0 0, .int .i64 0, .slice none 0 0] 0 true))) := (Same.refl ((Same.refl hw).add (.cells (parC p) 0 true)).wf).add _
  have e0 := rdn_par (p := p) hSa
  have hm2 : ((H.add (some (.cells (parC p) 0 true))).add (some (.cells [.slice none 0 0, .int .i64 0, .slice none 0 0] 0 true))).mine (H.len + 1) = some ([.slice none 0 0, .int .i64 0, .slice none 0 0], 0) := mine_add_eq (by rw [len_add]) (by rw [lim_add]; omega)
  have hin : H.len + 1 < ((H.add (some (.cells (parC p) 0 true))).add (some (.cells [.slice none 0 0, .int .i64 0, .slice none 0 0] 0 true))).len := by simp only [len_add]; omega
  simp only [frameOf, Nat.reduceAdd]
  repeat' (first | refine zA ?_ | refine zB ?_ | refine zC ?_ | refine zD ?_ | refine zE ?_ | refine zF ?_ | refine zG ?_ | refine zH ?_ | refine zI ?_ | refine zJ ?_ | refine zK rfl ?_ | refine zL ?_ | refine zM ?_ | refine zN ?_ | refine zO ?_ | refine zP rfl ?_ | refine zQ ?_ | ((first | refine zR ?_ | refine zS ?_ | refine zT ?_ | skip); intro K k; simp (disch := (first | (simp only [yD2, beq_self_eq_true, Nat.reduceLT, Nat.reduceAdd]; done) | ((fail_if_success (apply Bool.eq_iff_iff.2)); first | omega | (simp only [yD2, beq_self_eq_true, Nat.reduceLT, Nat.reduceAdd] <;> omega)) | fail)) only [↓yS, yT, ↓reduceIte, Nat.reduceEqDiff, Nat.reduceAdd, Nat.reduceMul, reduceCtorEq, Int.reduceToNat, g20, hb, hl, e0]; refine yC (k _ _ ?_); clear k K) | ((first | refine zU ?_ | refine zV ?_ | refine zW ?_); intro A B C D a b c d; simp only [↓yG, Nat.reduceEqDiff, ↓reduceIte, g20, hb, hl, e0]; (first | refine zX (a ?_) | refine zY (b ?_) | refine zZ (fun hc => c ?_) (fun hc => d ?_)) <;> clear a b c d A B C D <;> try simp only [yL] at hc) | (refine yA ?_; intro A a; simp only [↓yG, Nat.reduceEqDiff, ↓reduceIte, g20, hb, hl, e0]; refine yB (a ?_); clear a A) | (refine yD ?_; simp only [gresults, ↓yG, Nat.reduceEqDiff, ↓reduceIte, Option.bind_some, gld_1, gld_n, g20, hb, hl, e0]; refine ⟨_, rfl, ?_⟩; simp only [gone]))
  refine Gw_s fun K' hK' => G1_call (by simp only [gtarget, ↓GArg.ev, ↓evs, ↓Tr.get_set, Nat.reduceEqDiff, if_true, if_false, ↓reduceIte, Option.map_some]; rfl) (rcheck_ok hS1.wf (hp.later hw hS1)) fun r1 H1 hq => hK' _ _ ?_
  obtain ⟨rfl, hS2⟩ := hq
  have hS := hS1.trans hS2
  have hSa2 := hSa.trans hS2
  have e1 := rdn_par hSa2
  have e1r := fun o => rd_par hSa2 o
  have epn := fun {H'} (h : Same H1 H') => rdn_par (p := p) (hSa2.trans h)
  have hm3 : H1.mine (H.len + 1) = some ([.slice none 0 0, .int .i64 0, .slice none 0 0], 0) := by rw [hS2.mine hin]; exact hm2
  have hin1 : H.len + 1 < H1.len := Nat.lt_of_lt_of_le hin hS2.len
  have hsz : gsetn [.slice none 0 0, .int .i64 0, .slice none 0 0] 0 3 (.agg #[.slice none 0 0, .int .i64 0, .slice none 0 0]) = some [.slice none 0 0, .int .i64 0, .slice none 0 0] := gsetn_bk (ev := .slice none 0 0) (pv := .slice none 0 0) (c := 0) rfl rfl rfl
  have hsl := hp.kr.isSl
  by_cases h0 : parF p = 0
  case neg =>
    have h0' : (parF p = 0) = False := eq_false h0
    have hrr : (H1.put (H.len + 1) (.cells [.slice none 0 0, .int .i64 0, .slice none 0 0] 0 true)).rdn (H.len + 1) 0 3 = some (.agg (bkC (.slice none 0 0) 0 (.slice none 0 0)).toArray) := rdn_put_all rfl
    repeat' (first | (exfalso; omega) | refine zA ?_ | refine zB ?_ | refine zC ?_ | refine zD ?_ | refine zE ?_ | refine zF ?_ | refine zG ?_ | refine zH ?_ | refine zI ?_ | refine zJ ?_ | refine zK rfl ?_ | refine zL ?_ | refine zM ?_ | refine zN ?_ | refine zO ?_ | refine zP rfl ?_ | refine zQ ?_ | ((first | refine zR ?_ | refine zS ?_ | refine zT ?_ | skip); intro K k; simp (disch := (first | (simp only [yD2, beq_self_eq_true, Nat.reduceLT, Nat.reduceAdd]; done) | ((fail_if_success (apply Bool.eq_iff_iff.2)); first | omega | (simp only [yD2, beq_self_eq_true, Nat.reduceLT, Nat.reduceAdd] <;> omega)) | fail)) only [↓yS, yT, ↓reduceIte, Nat.reduceEqDiff, Nat.reduceAdd, Nat.reduceMul, reduceCtorEq, Int.reduceToNat, g20, h0', hm3, hsz, hrr]; refine yC (k _ _ ?_); clear k K) | ((first | refine zU ?_ | refine zV ?_ | refine zW ?_); intro A B C D a b c d; simp only [↓yG, Nat.reduceEqDiff, ↓reduceIte, g20, h0', hm3, hsz, hrr]; (first | refine zX (a ?_) | refine zY (b ?_) | refine zZ (fun hc => c ?_) (fun hc => d ?_)) <;> clear a b c d A B C D <;> try simp only [yL] at hc) | (refine yA ?_; intro A a; simp only [↓yG, Nat.reduceEqDiff, ↓reduceIte, g20, h0', hm3, hsz, hrr]; refine yB (a ?_); clear a A) | (refine yD ?_; simp only [gresults, ↓yG, Nat.reduceEqDiff, ↓reduceIte, Option.bind_some, gld_1, gld_n, g20, h0', hm3, hsz, hrr]; refine ⟨_, rfl, ?_⟩; simp only [gone]))
    refine hPost _ _ ⟨⟨_, _, [], 0, parF p, rfl, IR.nil, ?_, .inl ⟨h0, rfl, rfl, rfl⟩⟩, hS.put (by omega) hin1 _⟩
    rw [if_neg h0]; exact IR.nil
  have hk : PQ H p := ⟨⟨hp, h0⟩, hsq⟩
  have hw1 := hS2.wf
  have hn := hk.pk.n
  have hpar := parF_ok h0
  have hG := Par.good h0
  have hD : p.D.n = p.l.length := rfl
  obtain ⟨R, hR⟩ : ∃ R : Nat, p.r = R := ⟨p.r.toNat, by omega⟩
  have hRt : p.r.toNat = R := by omega
  rw [h0]
  repeat' (first | (exfalso; omega) | refine zA ?_ | refine zB ?_ | refine zC ?_ | refine zD ?_ | refine zE ?_ | refine zF ?_ | refine zG ?_ | refine zH ?_ | refine zI ?_ | refine zJ ?_ | refine zK rfl ?_ | refine zL ?_ | refine zM ?_ | refine zN ?_ | refine zO ?_ | refine zP rfl ?_ | refine zQ ?_ | ((first | refine zR ?_ | refine zS ?_ | refine zT ?_ | skip); intro K k; simp (disch := (first | (simp only [yD2, beq_self_eq_true, Nat.reduceLT, Nat.reduceAdd]; done) | ((fail_if_success (apply Bool.eq_iff_iff.2)); first | omega | (simp only [yD2, beq_self_eq_true, Nat.reduceLT, Nat.reduceAdd] <;> omega)) | fail)) only [↓yS, yT, ↓reduceIte, Nat.reduceEqDiff, Nat.reduceAdd, Nat.reduceMul, reduceCtorEq, Int.reduceToNat, g20, e1, e1r, parC_0, hsl.len]; refine yC (k _ _ ?_); clear k K) | ((first | refine zU ?_ | refine zV ?_ | refine zW ?_); intro A B C D a b c d; simp only [↓yG, Nat.reduceEqDiff, ↓reduceIte, g20, e1, e1r, parC_0, hsl.len]; (first | refine zX (a ?_) | refine zY (b ?_) | refine zZ (fun hc => c ?_) (fun hc => d ?_)) <;> clear a b c d A B C D <;> try simp only [yL] at hc) | (refine yA ?_; intro A a; simp only [↓yG, Nat.reduceEqDiff, ↓reduceIte, g20, e1, e1r, parC_0, hsl.len]; refine yB (a ?_); clear a A) | (refine yD ?_; simp only [gresults, ↓yG, Nat.reduceEqDiff, ↓reduceIte, Option.bind_some, gld_1, gld_n, g20, e1, e1r, parC_0, hsl.len]; refine ⟨_, rfl, ?_⟩; simp only [gone]))
  refine Gw_s fun K' hK' => G1_call (by simp only [gtarget, ↓GArg.ev, ↓evs, ↓Tr.get_set, Nat.reduceEqDiff, if_true, if_false, ↓reduceIte, Option.map_some]; rfl) (pots_ok hw1 (hk.later hw hS)) fun pv H2 hq => hK' _ _ ?_
  have hS3 := hq.same
  rw [hRt] at hq
  have hOpv := hq
  have hpv := hq.ir
  clear hq
  have hslp := hpv.isSl
  have hpl : ∀ m, (potU' p.D m ((m + 1) * (p.D.n + 1))).length = (m + 1) * (p.D.n + 1) := fun m => by simp [potU']
  have hpos : ∀ m, 0 < (m + 1) * (p.D.n + 1) := fun m => Nat.mul_pos (by omega) (by omega)
  have hu0 : ∀ m, (potU' p.D m ((m + 1) * (p.D.n + 1)))[0]! = p.D.P m 0 := fun m => by
    have := potU'_at (D := p.D) (R := m) (k := 0) (i := 0) (by omega) (by omega)
    simpa using this
  have hat0 := IR.at_ hpv (j := 0) (by rw [hpl]; exact hpos R)
  rw [hu0, Nat.add_zero] at hat0
  have hPg := P_ge hG R 0
  have hS13 := hS.trans hS3
  have hm4 : H2.mine (H.len + 1) = some ([.slice none 0 0, .int .i64 0, .slice none 0 0], 0) := by rw [hS3.mine hin1]; exact hm3
  have hin2 : H.len + 1 < H2.len := Nat.lt_of_lt_of_le hin1 hS3.len
  have hBo : BrkOut p = fun l c e => (parF p ≠ 0 ∧ e = parF p ∧ l = [] ∧ c = 0) ∨ (parF p = 0 ∧ p.D.P R 0 = -1 ∧ e = 11 ∧ l = [] ∧ c = 0) ∨ (parF p = 0 ∧ e = 0 ∧ c = p.D.P R 0 ∧ Brk p.D R l c) := by
    funext l c e; unfold BrkOut; rw [hRt]
  rw [hpl] at hslp
  have hcntp := hpos R
  by_cases hcx : p.D.P R 0 = -1
  · have hrr : (H2.put (H.len + 1) (.cells [.slice none 0 0, .int .i64 0, .slice none 0 0] 0 true)).rdn (H.len + 1) 0 3 = some (.agg (bkC (.slice none 0 0) 0 (.slice none 0 0)).toArray) := rdn_put_all rfl
    repeat' (first | (exfalso; omega) | refine zA ?_ | refine zB ?_ | refine zC ?_ | refine zD ?_ | refine zE ?_ | refine zF ?_ | refine zG ?_ | refine zH ?_ | refine zI ?_ | refine zJ ?_ | refine zK rfl ?_ | refine zL ?_ | refine zM ?_ | refine zN ?_ | refine zO ?_ | refine zP rfl ?_ | refine zQ ?_ | ((first | refine zR ?_ | refine zS ?_ | refine zT ?_ | skip); intro K k; simp (disch := (first | (simp only [yD2, beq_self_eq_true, Nat.reduceLT, Nat.reduceAdd]; done) | ((fail_if_success (apply Bool.eq_iff_iff.2)); first | omega | (simp only [yD2, beq_self_eq_true, Nat.reduceLT, Nat.reduceAdd] <;> omega)) | fail)) only [↓yS, yT, ↓reduceIte, Nat.reduceEqDiff, Nat.reduceAdd, Nat.reduceMul, reduceCtorEq, Int.reduceToNat, g20, hslp.ia, hat0, Int.toNat_zero, Nat.zero_mul, Nat.add_zero, hm4, hsz, hrr]; refine yC (k _ _ ?_); clear k K) | ((first | refine zU ?_ | refine zV ?_ | refine zW ?_); intro A B C D a b c d; simp only [↓yG, Nat.reduceEqDiff, ↓reduceIte, g20, hslp.ia, hat0, Int.toNat_zero, Nat.zero_mul, Nat.add_zero, hm4, hsz, hrr]; (first | refine zX (a ?_) | refine zY (b ?_) | refine zZ (fun hc => c ?_) (fun hc => d ?_)) <;> clear a b c d A B C D <;> try simp only [yL] at hc) | (refine yA ?_; intro A a; simp only [↓yG, Nat.reduceEqDiff, ↓reduceIte, g20, hslp.ia, hat0, Int.toNat_zero, Nat.zero_mul, Nat.add_zero, hm4, hsz, hrr]; refine yB (a ?_); clear a A) | (refine yD ?_; simp only [gresults, ↓yG, Nat.reduceEqDiff, ↓reduceIte, Option.bind_some, gld_1, gld_n, g20, hslp.ia, hat0, Int.toNat_zero, Nat.zero_mul, Nat.add_zero, hm4, hsz, hrr]; refine ⟨_, rfl, ?_⟩; simp only [gone]))
    refine hPost _ _ ⟨⟨_, _, [], 0, 11, rfl, IR.nil, ?_, ?_⟩, hS13.put (by omega) hin2 _⟩
    · rw [if_neg (by decide)]; exact IR.nil
    · rw [hBo]; exact .inr (.inl ⟨h0, hcx, rfl, rfl, rfl⟩)
  repeat' (first | (exfalso; omega) | refine zA ?_ | refine zB ?_ | refine zC ?_ | refine zD ?_ | refine zE ?_ | refine zF ?_ | refine zG ?_ | refine zH ?_ | refine zI ?_ | refine zJ ?_ | refine zK rfl ?_ | refine zL ?_ | refine zM ?_ | refine zN ?_ | refine zO ?_ | refine zP rfl ?_ | refine zQ ?_ | ((first | refine zR ?_ | refine zS ?_ | refine zT ?_ | skip); intro K k; simp (disch := (first | (simp only [yD2, beq_self_eq_true, Nat.reduceLT, Nat.reduceAdd]; done) | ((fail_if_success (apply Bool.eq_iff_iff.2)); first | omega | (simp only [yD2, beq_self_eq_true, Nat.reduceLT, Nat.reduceAdd] <;> omega)) | fail)) only [↓yS, yT, ↓reduceIte, Nat.reduceEqDiff, Nat.reduceAdd, Nat.reduceMul, reduceCtorEq, Int.reduceToNat, g20, hslp.ia, hat0, Int.toNat_zero, Nat.zero_mul, Nat.add_zero]; refine yC (k _ _ ?_); clear k K) | ((first | refine zU ?_ | refine zV ?_ | refine zW ?_); intro A B C D a b c d; simp only [↓yG, Nat.reduceEqDiff, ↓reduceIte, g20, hslp.ia, hat0, Int.toNat_zero, Nat.zero_mul, Nat.add_zero]; (first | refine zX (a ?_) | refine zY (b ?_) | refine zZ (fun hc => c ?_) (fun hc => d ?_)) <;> clear a b c d A B C D <;> try simp only [yL] at hc) | (refine yA ?_; intro A a; simp only [↓yG, Nat.reduceEqDiff, ↓reduceIte, g20, hslp.ia, hat0, Int.toNat_zero, Nat.zero_mul, Nat.add_zero]; refine yB (a ?_); clear a A) | (refine yD ?_; simp only [gresults, ↓yG, Nat.reduceEqDiff, ↓reduceIte, Option.bind_some, gld_1, gld_n, g20, hslp.ia, hat0, Int.toNat_zero, Nat.zero_mul, Nat.add_zero]; refine ⟨_, rfl, ?_⟩; simp only [gone]))
  refine GW_loop (fun q fr H3 => ∃ (m : Nat), q = R - m ∧ 1 ≤ m ∧ m ≤ R ∧ fr.get 1 = some (.pointer (some ⟨H.len, 0, none⟩)) ∧ fr.get 2 = some (.pointer (some ⟨H.len + 1, 0, none⟩)) ∧ fr.get 5 = some (.int .i64 p.l.length) ∧ fr.get 6 = some (pv) ∧ fr.get 7 = some (.int .i64 m) ∧ Same H2 H3 ∧ ∀ m', 1 ≤ m' → m' < m → p.D.P m' 0 ≠ p.D.P R 0) ?_ (R - 1) ?_
  rotate_left
  · refine ⟨1, by omega, by omega, by omega, ?_⟩
    simp only [↓yG, Nat.reduceEqDiff, ↓reduceIte, Int.natCast_add, Int.cast_ofNat_Int, Int.natCast_zero, true_and, and_true, Option.some.injEq, Value.int.injEq]
    exact ⟨Same.refl hS3.wf, fun m' h1 h2 => by omega⟩
  rintro q fr H3 ⟨m, rfl, hm1, hmR, f1, f2, f5, f6, f7, hS4, hno⟩ J hJ
  have hS24 := hS3.trans hS4
  have hSH := hS13.trans hS4
  have epn3 := epn hS24
  have hw3 := hS4.wf
  have hlim3 := hw3.1
  have hrdz : ((H3.add (some (.cells zpar 0 true))).put H3.len (.cells (parC p) 0 true)).put H3.len (.cells (parC {p with r := (m : Int)}) 0 true) = (H3.add (some (.cells zpar 0 true))).put H3.len (.cells (parC {p with r := (m : Int)}) 0 true) := put_put
  have hSz : Same H3 ((H3.add (some (.cells zpar 0 true))).put H3.len (.cells (parC {p with r := (m : Int)}) 0 true)) := (Same.refl hw3).new _ _
  have hgz := gsetn_z hf
  repeat' (first | (exfalso; omega) | refine zA ?_ | refine zB ?_ | refine zC ?_ | refine zD ?_ | refine zE ?_ | refine zF ?_ | refine zG ?_ | refine zH ?_ | refine zI ?_ | refine zJ ?_ | refine zK rfl ?_ | refine zL ?_ | refine zM ?_ | refine zN ?_ | refine zO ?_ | refine zP rfl ?_ | refine zQ ?_ | ((first | refine zR ?_ | refine zS ?_ | refine zT ?_ | skip); intro K k; simp (disch := (first | (simp only [yD2, beq_self_eq_true, Nat.reduceLT, Nat.reduceAdd]; done) | ((fail_if_success (apply Bool.eq_iff_iff.2)); first | omega | (simp only [yD2, beq_self_eq_true, Nat.reduceLT, Nat.reduceAdd] <;> omega)) | fail)) only [↓yS, yT, ↓reduceIte, Nat.reduceEqDiff, Nat.reduceAdd, Nat.reduceMul, reduceCtorEq, Int.reduceToNat, g20, f1, f2, f5, f6, f7, epn3, zparE, hgz, par_set2, rdnP]; refine yC (k _ _ ?_); clear k K) | ((first | refine zU ?_ | refine zV ?_ | refine zW ?_); intro A B C D a b c d; simp only [↓yG, Nat.reduceEqDiff, ↓reduceIte, g20, f1, f2, f5, f6, f7, epn3, zparE, hgz, par_set2, rdnP]; (first | refine zX (a ?_) | refine zY (b ?_) | refine zZ (fun hc => c ?_) (fun hc => d ?_)) <;> clear a b c d A B C D <;> try simp only [yL] at hc) | (refine yA ?_; intro A a; simp only [↓yG, Nat.reduceEqDiff, ↓reduceIte, g20, f1, f2, f5, f6, f7, epn3, zparE, hgz, par_set2, rdnP]; refine yB (a ?_); clear a A) | (refine yD ?_; simp only [gresults, ↓yG, Nat.reduceEqDiff, ↓reduceIte, Option.bind_some, gld_1, gld_n, g20, f1, f2, f5, f6, f7, epn3, zparE, hgz, par_set2, rdnP]; refine ⟨_, rfl, ?_⟩; simp only [gone]))
  have hwz := hSz.wf
  have hrz : ((H3.add (some (.cells zpar 0 true))).put H3.len (.cells (parC {p with r := (m : Int)}) 0 true)).rdn H3.len 0 15 = some (parV {p with r := (m : Int)}) := rdnP
  generalize (H3.add (some (.cells zpar 0 true))).put H3.len (.cells (parC {p with r := (m : Int)}) 0 true) = H4 at *
  have hkm : PQ H {p with r := (m : Int)} := hk.rm (by omega) (by omega)
  refine Gw_s fun K' hK' => G1_callM (by simp only [gtarget, ↓GArg.ev, ↓evs, ↓Tr.get_set, Nat.reduceEqDiff, if_true, if_false, ↓reduceIte, Option.map_some, f1, f2, f5, f6, f7]; rfl) (pots_ok (wf_up hwz) (hkm.later hw (hSH.trans hSz)).up) fun mv H5 hq => hK' _ _ ?_
  have hmv' := hq.ir
  have hS5' := hq.same
  clear hq
  have hS5 := Same.down hwz hS5'
  have hmv : IR (H5.down H4.lim) mv (potU' p.D m ((m + 1) * (p.D.n + 1))) := hmv'.down hwz hS5'
  clear hmv' hS5'
  generalize H5.down H4.lim = H6 at *
  have hslm := hmv.isSl
  rw [hpl] at hslm
  have hcm := hpos m
  have hatm := IR.at_ hmv (j := 0) (by rw [hpl]; exact hcm)
  rw [hu0, Nat.add_zero] at hatm
  have hS46 := hSz.trans hS5
  have hatp := IR.at_ (GArg1.same hpv hS3.wf (hS4.trans hS46)) (j := 0) (by rw [hpl]; exact hcntp)
  rw [hu0, Nat.add_zero] at hatp
  by_cases heq : p.D.P m 0 = p.D.P R 0
  case neg =>
    have heq' := eq_false heq
    have hlt : m < R := by
      rcases Nat.lt_or_eq_of_le hmR with h | rfl
      · exact h
      · exact absurd rfl heq
    repeat' (first | (exfalso; omega) | refine zA ?_ | refine zB ?_ | refine zC ?_ | refine zD ?_ | refine zE ?_ | refine zF ?_ | refine zG ?_ | refine zH ?_ | refine zI ?_ | refine zJ ?_ | refine zK rfl ?_ | refine zL ?_ | refine zM ?_ | refine zN ?_ | refine zO ?_ | refine zP rfl ?_ | refine zQ ?_ | ((first | refine zR ?_ | refine zS ?_ | refine zT ?_ | skip); intro K k; simp (disch := (first | (simp only [yD2, beq_self_eq_true, Nat.reduceLT, Nat.reduceAdd]; done) | ((fail_if_success (apply Bool.eq_iff_iff.2)); first | omega | (simp only [yD2, beq_self_eq_true, Nat.reduceLT, Nat.reduceAdd] <;> omega)) | fail)) only [↓yS, yT, ↓reduceIte, Nat.reduceEqDiff, Nat.reduceAdd, Nat.reduceMul, reduceCtorEq, Int.reduceToNat, g20, f1, f2, f5, f6, f7, hslm.ia, hslp.ia, hatm, hatp, Int.toNat_zero, Nat.zero_mul, Nat.add_zero, heq']; refine yC (k _ _ ?_); clear k K) | ((first | refine zU ?_ | refine zV ?_ | refine zW ?_); intro A B C D a b c d; simp only [↓yG, Nat.reduceEqDiff, ↓reduceIte, g20, f1, f2, f5, f6, f7, hslm.ia, hslp.ia, hatm, hatp, Int.toNat_zero, Nat.zero_mul, Nat.add_zero, heq']; (first | refine zX (a ?_) | refine zY (b ?_) | refine zZ (fun hc => c ?_) (fun hc => d ?_)) <;> clear a b c d A B C D <;> try simp only [yL] at hc) | (refine yA ?_; intro A a; simp only [↓yG, Nat.reduceEqDiff, ↓reduceIte, g20, f1, f2, f5, f6, f7, hslm.ia, hslp.ia, hatm, hatp, Int.toNat_zero, Nat.zero_mul, Nat.add_zero, heq']; refine yB (a ?_); clear a A) | (refine yD ?_; simp only [gresults, ↓yG, Nat.reduceEqDiff, ↓reduceIte, Option.bind_some, gld_1, gld_n, g20, f1, f2, f5, f6, f7, hslm.ia, hslp.ia, hatm, hatp, Int.toNat_zero, Nat.zero_mul, Nat.add_zero, heq']; refine ⟨_, rfl, ?_⟩; simp only [gone]))
    refine hJ _ _ ⟨R - (m + 1), by omega, m + 1, rfl, by omega, by omega, ?_⟩
    simp only [↓yG, Nat.reduceEqDiff, ↓reduceIte, Int.natCast_add, Int.cast_ofNat_Int, Int.natCast_zero, true_and, and_true, Option.some.injEq, Value.int.injEq, f1, f2, f5, f6]
    refine ⟨hS4.trans hS46, fun m' h1 h2 => ?_⟩
    rcases Nat.lt_or_eq_of_le (Nat.le_of_lt_succ h2) with h | rfl
    · exact hno m' h1 h
    · exact heq
  have heq' := eq_true heq
  have hstr : Strict p.D m 0 := strict_of hcx heq hno (by rw [hD]; omega)
  clear hJ hno
  have hS26 := hS4.trans hS46
  have epn6 := epn (hS3.trans hS26)
  have hw6 := hS5.wf
  have hlim6 := hw6.1
  have hSz6 : Same H6 ((H6.add (some (.cells zpar 0 true))).put H6.len (.cells (parC {p with r := (m : Int)}) 0 true)) := (Same.refl hw6).new _ _
  repeat' (first | (exfalso; omega) | refine zA ?_ | refine zB ?_ | refine zC ?_ | refine zD ?_ | refine zE ?_ | refine zF ?_ | refine zG ?_ | refine zH ?_ | refine zI ?_ | refine zJ ?_ | refine zK rfl ?_ | refine zL ?_ | refine zM ?_ | refine zN ?_ | refine zO ?_ | refine zP rfl ?_ | refine zQ ?_ | ((first | refine zR ?_ | refine zS ?_ | refine zT ?_ | skip); intro K k; simp (disch := (first | (simp only [yD2, beq_self_eq_true, Nat.reduceLT, Nat.reduceAdd]; done) | ((fail_if_success (apply Bool.eq_iff_iff.2)); first | omega | (simp only [yD2, beq_self_eq_true, Nat.reduceLT, Nat.reduceAdd] <;> omega)) | fail)) only [↓yS, yT, ↓reduceIte, Nat.reduceEqDiff, Nat.reduceAdd, Nat.reduceMul, reduceCtorEq, Int.reduceToNat, g20, f1, f2, f5, f6, f7, hslm.ia, hslp.ia, hatm, hatp, Int.toNat_zero, Nat.zero_mul, Nat.add_zero, heq', epn6, zparE, hgz, par_set2, rdnP]; refine yC (k _ _ ?_); clear k K) | ((first | refine zU ?_ | refine zV ?_ | refine zW ?_); intro A B C D a b c d; simp only [↓yG, Nat.reduceEqDiff, ↓reduceIte, g20, f1, f2, f5, f6, f7, hslm.ia, hslp.ia, hatm, hatp, Int.toNat_zero, Nat.zero_mul, Nat.add_zero, heq', epn6, zparE, hgz, par_set2, rdnP]; (first | refine zX (a ?_) | refine zY (b ?_) | refine zZ (fun hc => c ?_) (fun hc => d ?_)) <;> clear a b c d A B C D <;> try simp only [yL] at hc) | (refine yA ?_; intro A a; simp only [↓yG, Nat.reduceEqDiff, ↓reduceIte, g20, f1, f2, f5, f6, f7, hslm.ia, hslp.ia, hatm, hatp, Int.toNat_zero, Nat.zero_mul, Nat.add_zero, heq', epn6, zparE, hgz, par_set2, rdnP]; refine yB (a ?_); clear a A) | (refine yD ?_; simp only [gresults, ↓yG, Nat.reduceEqDiff, ↓reduceIte, Option.bind_some, gld_1, gld_n, g20, f1, f2, f5, f6, f7, hslm.ia, hslp.ia, hatm, hatp, Int.toNat_zero, Nat.zero_mul, Nat.add_zero, heq', epn6, zparE, hgz, par_set2, rdnP]; refine ⟨_, rfl, ?_⟩; simp only [gone]))
  have hSHz := (hSH.trans hS46).trans hSz6
  have hrz : ((H6.add (some (.cells zpar 0 true))).put H6.len (.cells (parC {p with r := (m : Int)}) 0 true)).rdn H6.len 0 15 = some (parV {p with r := (m : Int)}) := rdnP
  have hSH6z : Same H2 ((H6.add (some (.cells zpar 0 true))).put H6.len (.cells (parC {p with r := (m : Int)}) 0 true)) := hS26.trans hSz6
  clear hslm hatm hatp hmv hSz6 hS46 hS26 epn6 hSz hwz hS5 epn3
  generalize (H6.add (some (.cells zpar 0 true))).put H6.len (.cells (parC {p with r := (m : Int)}) 0 true) = H7 at *
  refine Gw_s fun K' hK' => G1_call (by simp only [gtarget, ↓GArg.ev, ↓evs, ↓Tr.get_set, Nat.reduceEqDiff, if_true, if_false, ↓reduceIte, Option.map_some, f1, f2, f5, f6, f7]; rfl) (pots_ok hSHz.wf (hkm.later hw hSHz)) fun lv H8 hq => hK' _ _ ?_
  have hlv := hq.ir
  have hS8 := hq.same
  clear hq
  have hlv : IR H8 lv (potU' p.D m ((m + 1) * (p.D.n + 1))) := hlv
  have hSb := hSH6z.trans hS8
  have hSHb := hSHz.trans hS8
  have hpvb := GArg1.same hpv hS3.wf hSb
  have hatp := IR.at_ hpvb (j := 0) (by rw [hpl]; exact hcntp)
  rw [hu0, Nat.add_zero] at hatp
  have hw8 := hS8.wf
  have hlim8 := hw8.1
  have hfp := IR.fl hpv
  generalize hcc : p.D.P R 0 = c at *
  have hfil : fillL [.slice none 0 0, .int .i64 0, .slice none 0 0] [(1, 1, .int .i64 c), (2, 1, pv)] = some (bkC (.slice none 0 0) c pv) := by
    obtain ⟨a, gc, e, _⟩ := hpv.sl
    rw [e]
    simp [fillL, Value.cells, flatV_sl, flatV_int, bkC]
  have hst := gsetn_bk (cs := [.slice none 0 0, .int .i64 0, .slice none 0 0]) (ev := .slice none 0 0) (pv := pv) (c := c) rfl rfl hfp
  repeat' (first | (exfalso; omega) | refine zA ?_ | refine zB ?_ | refine zC ?_ | refine zD ?_ | refine zE ?_ | refine zF ?_ | refine zG ?_ | refine zH ?_ | refine zI ?_ | refine zJ ?_ | refine zK rfl ?_ | refine zL ?_ | refine zM ?_ | refine zN ?_ | refine zO ?_ | refine zP rfl ?_ | refine zQ ?_ | ((first | refine zR ?_ | refine zS ?_ | refine zT ?_ | skip); intro K k; simp (disch := (first | (simp only [yD2, beq_self_eq_true, Nat.reduceLT, Nat.reduceAdd]; done) | ((fail_if_success (apply Bool.eq_iff_iff.2)); first | omega | (simp only [yD2, beq_self_eq_true, Nat.reduceLT, Nat.reduceAdd] <;> omega)) | fail)) only [↓yS, yT, ↓reduceIte, Nat.reduceEqDiff, Nat.reduceAdd, Nat.reduceMul, reduceCtorEq, Int.reduceToNat, g20, f1, f2, f5, f6, f7, hslp.ia, hatp, Int.toNat_zero, Nat.zero_mul, Nat.add_zero, hfil, hst]; refine yC (k _ _ ?_); clear k K) | ((first | refine zU ?_ | refine zV ?_ | refine zW ?_); intro A B C D a b c d; simp only [↓yG, Nat.reduceEqDiff, ↓reduceIte, g20, f1, f2, f5, f6, f7, hslp.ia, hatp, Int.toNat_zero, Nat.zero_mul, Nat.add_zero, hfil, hst]; (first | refine zX (a ?_) | refine zY (b ?_) | refine zZ (fun hc => c ?_) (fun hc => d ?_)) <;> clear a b c d A B C D <;> try simp only [yL] at hc) | (refine yA ?_; intro A a; simp only [↓yG, Nat.reduceEqDiff, ↓reduceIte, g20, f1, f2, f5, f6, f7, hslp.ia, hatp, Int.toNat_zero, Nat.zero_mul, Nat.add_zero, hfil, hst]; refine yB (a ?_); clear a A) | (refine yD ?_; simp only [gresults, ↓yG, Nat.reduceEqDiff, ↓reduceIte, Option.bind_some, gld_1, gld_n, g20, f1, f2, f5, f6, f7, hslp.ia, hatp, Int.toNat_zero, Nat.zero_mul, Nat.add_zero, hfil, hst]; refine ⟨_, rfl, ?_⟩; simp only [gone]))
  have hSbz : Same H8 ((H8.add (some (.cells [.slice none 0 0, .int .i64 0, .slice none 0 0] 0 true))).put H8.len (.cells (bkC (.slice none 0 0) c pv) 0 true)) := (Same.refl hw8).new _ _
  have hmb : ((H8.add (some (.cells [.slice none 0 0, .int .i64 0, .slice none 0 0] 0 true))).put H8.len (.cells (bkC (.slice none 0 0) c pv) 0 true)).mine H8.len = some (bkC (.slice none 0 0) c pv, 0) := mine_put_same hlim8
  have hmr : H8.mine (H.len + 1) = some ([.slice none 0 0, .int .i64 0, .slice none 0 0], 0) := by rw [hSb.mine hin2]; exact hm4
  have hinr : H.len + 1 < H8.len := Nat.lt_of_lt_of_le hin2 hSb.len
  have epnb := fun {H'} (h : Same H8 H') => epn ((hS3.trans hSb).trans h)
  have hbrk : ∀ l, Grd p.D m 0 l → Brk p.D R l c := fun l hg => by
    have := Strict.brk hG (R := R) hstr (by omega) (by rw [heq, hcc]) hg
    rwa [hcc] at this
  have hsll := hlv.isSl
  rw [hpl] at hsll
  have hcntm := hpos m
  have hat : ∀ H', Same H8 H' → ∀ k i, k ≤ m → i ≤ p.l.length → H'.rd (blk lv) (ofs lv + (k * (p.l.length + 1) + i)) = some (.int .i64 (p.D.P (m - k) i)) := fun H' hS k i h1 h2 => by
    have h3 := idx_lt' (n := p.l.length) h1 h2
    have h4 := IR.at_ (GArg1.same hlv hw8 hS) (j := k * (p.l.length + 1) + i) (by rw [hpl]; exact h3)
    rw [h4]
    have := potU'_at (D := p.D) (R := m) (k := k) (i := i) h1 h2
    rw [← this]; rfl
  have hmI : ∀ k : Nat, (k : Int) * ((p.l.length : Int) + 1) = ((k * (p.l.length + 1) : Nat) : Int) := fun k => by simp
  have hmI1 : ∀ k : Nat, ((k : Int) + 1) * ((p.l.length : Int) + 1) = (((k + 1) * (p.l.length + 1) : Nat) : Int) := fun k => by simp
  have hix : ∀ k i, k ≤ m → i ≤ p.l.length → k * (p.l.length + 1) + i < (m + 1) * (p.l.length + 1) := fun k i h1 h2 => idx_lt' h1 h2
  have hbm : (m + 1) * (p.l.length + 1) ≤ 100000 := by
    have : (m + 1) * (p.l.length + 1) ≤ 5 * (p.l.length + 1) := Nat.mul_le_mul_right _ (by omega)
    omega
  rw [hD] at hsll
  generalize (H8.add (some (.cells [.slice none 0 0, .int .i64 0, .slice none 0 0] 0 true))).put H8.len (.cells (bkC (.slice none 0 0) c pv) 0 true) = H9 at *
  have hSHB := hSHb
  refine GW_loop (fun q fr HA => ∃ (k i : Nat) (pre : List Nat) (ev : Value), q = p.l.length - i ∧ i ≤ p.l.length ∧ k ≤ m ∧ fr.get 1 = some (.pointer (some ⟨H.len, 0, none⟩)) ∧ fr.get 2 = some (.pointer (some ⟨H.len + 1, 0, none⟩)) ∧ fr.get 5 = some (.int .i64 p.l.length) ∧ fr.get 10 = some (lv) ∧ fr.get 11 = some (.pointer (some ⟨H8.len, 0, none⟩)) ∧ fr.get 12 = some (.int .i64 i) ∧ fr.get 13 = some (.int .i64 k) ∧ HA.mine H8.len = some (bkC ev c pv, 0) ∧ OS 1 1 H8 HA ev pre.length (ints .i64 (natsI pre)) ∧ Strict p.D (m - k) i ∧ pre.length = k ∧ (∀ l, Grd p.D (m - k) i l → Grd p.D m 0 (pre ++ l))) ?_ p.l.length ?_
  rotate_left
  · refine ⟨0, 0, [], .slice none 0 0, by omega, by omega, by omega, ?_⟩
    simp only [↓yG, Nat.reduceEqDiff, ↓reduceIte, Int.natCast_add, Int.cast_ofNat_Int, Int.natCast_zero, true_and, and_true, Option.some.injEq, Value.int.injEq, f1, f2, f5]
    first
      | exact ⟨hmb, OS.nil hSbz, hstr, fun l h => h⟩
      | exact ⟨hmb, OS.nil hSbz, hstr, rfl, fun l h => h⟩
      | exact ⟨hmb, OS.nil hSbz, by simpa using hstr, by simp, fun l h => by simpa using h⟩
  clear hmb hSbz f1 f2 f5 f6 f7
  rintro q fr2 HA ⟨k, i, pre, ev, rfl, hi, hkm2, f1, f2, f5, f10, f11, f12, f13, hmA, hOA, hsA, hpk, hgr⟩ J hJ
  have hSA := hOA.same
  have hwA := hSA.wf
  have hioA := mine_lt hwA hmA
  by_cases hin3 : i < p.l.length
  case neg =>
    obtain rfl : i = p.l.length := by omega
    rw [← hD] at hsA
    have hmk0 := hsA.zero
    have hm2A : HA.mine (H.len + 1) = some ([.slice none 0 0, .int .i64 0, .slice none 0 0], 0) := by rw [hSA.mine hinr]; exact hmr
    have hld : HA.rdn H8.len 0 3 = some (.agg (bkC ev c pv).toArray) := by
      simp only [GHeap.rdn, mine_cs hmA, Option.bind_some]; rfl
    have hst := gsetn_bk (cs := [.slice none 0 0, .int .i64 0, .slice none 0 0]) (c := c) rfl hOA.fl hfp
    have hrr : (HA.put (H.len + 1) (.cells (bkC ev c pv) 0 true)).rdn (H.len + 1) 0 3 = some (.agg (bkC ev c pv).toArray) := rdn_put_all rfl
    repeat' (first | (exfalso; omega) | refine zA ?_ | refine zB ?_ | refine zC ?_ | refine zD ?_ | refine zE ?_ | refine zF ?_ | refine zG ?_ | refine zH ?_ | refine zI ?_ | refine zJ ?_ | refine zK rfl ?_ | refine zL ?_ | refine zM ?_ | refine zN ?_ | refine zO ?_ | refine zP rfl ?_ | refine zQ ?_ | ((first | refine zR ?_ | refine zS ?_ | refine zT ?_ | skip); intro K k; simp (disch := (first | (simp only [yD2, beq_self_eq_true, Nat.reduceLT, Nat.reduceAdd]; done) | ((fail_if_success (apply Bool.eq_iff_iff.2)); first | omega | (simp only [yD2, beq_self_eq_true, Nat.reduceLT, Nat.reduceAdd] <;> omega)) | fail)) only [↓yS, yT, ↓reduceIte, Nat.reduceEqDiff, Nat.reduceAdd, Nat.reduceMul, reduceCtorEq, Int.reduceToNat, g20, f1, f2, f5, f10, f11, f12, f13, hld, hm2A, hst, hrr]; refine yC (k _ _ ?_); clear k K) | ((first | refine zU ?_ | refine zV ?_ | refine zW ?_); intro A B C D a b c d; simp only [↓yG, Nat.reduceEqDiff, ↓reduceIte, g20, f1, f2, f5, f10, f11, f12, f13, hld, hm2A, hst, hrr]; (first | refine zX (a ?_) | refine zY (b ?_) | refine zZ (fun hc => c ?_) (fun hc => d ?_)) <;> clear a b c d A B C D <;> try simp only [yL] at hc) | (refine yA ?_; intro A a; simp only [↓yG, Nat.reduceEqDiff, ↓reduceIte, g20, f1, f2, f5, f10, f11, f12, f13, hld, hm2A, hst, hrr]; refine yB (a ?_); clear a A) | (refine yD ?_; simp only [gresults, ↓yG, Nat.reduceEqDiff, ↓reduceIte, Option.bind_some, gld_1, gld_n, g20, f1, f2, f5, f10, f11, f12, f13, hld, hm2A, hst, hrr]; refine ⟨_, rfl, ?_⟩; simp only [gone]))
    have hB : But (fun k => k = H.len + 1) HA (HA.put (H.len + 1) (.cells (bkC ev c pv) 0 true)) := (But.refl (S := fun k => k = H.len + 1) hwA).put rfl (mine_lt hwA hm2A) _
    have hSHA : Same H HA := hSHB.trans hSA
    have hev : OS 1 1 H HA ev pre.length (ints .i64 (natsI pre)) := ⟨hSHA, hOA.own, hOA.young.imp id fun h => Nat.le_trans hSHB.len h⟩
    have hev2 := hev.but hB (fun k hk e => by omega) (fun a ha e => by have := (hOA.ids ha).1; omega)
    refine hPost _ _ ⟨⟨ev, pv, pre, c, 0, rfl, hev2.ir, ?_, ?_⟩, hev2.same⟩
    · rw [if_pos rfl]
      have hpp : potL p = potU' p.D R ((R + 1) * (p.D.n + 1)) := by unfold potL; rw [hRt, hD]; rfl
      rw [hpp]
      have hOA2 := hOpv.later (hSb.trans hSA)
      have hO3 : OS 1 1 H HA pv ((R + 1) * (p.D.n + 1)) (ints .i64 (potU' p.D R ((R + 1) * (p.D.n + 1)))) := ⟨hSHA, hOA2.own, hOA2.young.imp id fun h => Nat.le_trans hS.len h⟩
      exact (hO3.but hB (fun k hk e => by omega) (fun a ha e => by have := (hOA2.ids ha).1; omega)).ir
    · rw [hBo]
      have := hbrk _ (hgr [] (by rw [hmk0]; exact .nil))
      rw [List.append_nil] at this
      exact .inr (.inr ⟨h0, rfl, rfl, this⟩)
  obtain ⟨mm, hmm⟩ := hsA.pos (by rw [hD]; omega)
  rw [hmm] at hsA hgr
  have hEm : p.D.E (mm + 1) i ≠ -1 := by rw [hsA.E hG]; exact hsA.1
  obtain ⟨j0, hok0, hcd0⟩ := cand_ex hG hEm
  have hj0n : j0 ≤ p.l.length := hok0.2.1
  have hiff : ∀ j, i < j → j ≤ p.l.length → (p.D.cand (p.D.P mm) i (p.D.P (mm + 1) i) j ↔ p.D.cand (p.D.E mm) i (p.D.E (mm + 1) i) j) := fun j h1 h2 => hsA.cand hG h1 (by rw [hD]; exact h2)
  have hcd0' := (hiff j0 hok0.1 hj0n).2 hcd0
  repeat' (first | (exfalso; omega) | refine zA ?_ | refine zB ?_ | refine zC ?_ | refine zD ?_ | refine zE ?_ | refine zF ?_ | refine zG ?_ | refine zH ?_ | refine zI ?_ | refine zJ ?_ | refine zK rfl ?_ | refine zL ?_ | refine zM ?_ | refine zN ?_ | refine zO ?_ | refine zP rfl ?_ | refine zQ ?_ | ((first | refine zR ?_ | refine zS ?_ | refine zT ?_ | skip); intro K k; simp (disch := (first | (simp only [yD2, beq_self_eq_true, Nat.reduceLT, Nat.reduceAdd]; done) | ((fail_if_success (apply Bool.eq_iff_iff.2)); first | omega | (simp only [yD2, beq_self_eq_true, Nat.reduceLT, Nat.reduceAdd] <;> omega)) | fail)) only [↓yS, yT, ↓reduceIte, Nat.reduceEqDiff, Nat.reduceAdd, Nat.reduceMul, reduceCtorEq, Int.reduceToNat, g20, f1, f2, f5, f10, f11, f12, f13]; refine yC (k _ _ ?_); clear k K) | ((first | refine zU ?_ | refine zV ?_ | refine zW ?_); intro A B C D a b c d; simp only [↓yG, Nat.reduceEqDiff, ↓reduceIte, g20, f1, f2, f5, f10, f11, f12, f13]; (first | refine zX (a ?_) | refine zY (b ?_) | refine zZ (fun hc => c ?_) (fun hc => d ?_)) <;> clear a b c d A B C D <;> try simp only [yL] at hc) | (refine yA ?_; intro A a; simp only [↓yG, Nat.reduceEqDiff, ↓reduceIte, g20, f1, f2, f5, f10, f11, f12, f13]; refine yB (a ?_); clear a A) | (refine yD ?_; simp only [gresults, ↓yG, Nat.reduceEqDiff, ↓reduceIte, Option.bind_some, gld_1, gld_n, g20, f1, f2, f5, f10, f11, f12, f13]; refine ⟨_, rfl, ?_⟩; simp only [gone]))
  refine GW_loop (fun q fr HB => ∃ (j : Nat), q = p.l.length + 1 - j ∧ i < j ∧ j ≤ p.l.length ∧ fr.get 1 = some (.pointer (some ⟨H.len, 0, none⟩)) ∧ fr.get 2 = some (.pointer (some ⟨H.len + 1, 0, none⟩)) ∧ fr.get 5 = some (.int .i64 p.l.length) ∧ fr.get 10 = some (lv) ∧ fr.get 11 = some (.pointer (some ⟨H8.len, 0, none⟩)) ∧ fr.get 12 = some (.int .i64 i) ∧ fr.get 13 = some (.int .i64 k) ∧ fr.get 14 = some (.int .i64 j) ∧ Same HA HB ∧ ∀ j', i < j' → j' < j → ¬ p.D.cand (p.D.P mm) i (p.D.P (mm + 1) i) j') ?_ (p.l.length - i) ?_
  rotate_left
  · refine ⟨i + 1, by omega, by omega, by have := hok0.1; omega, ?_⟩
    simp only [↓yG, Nat.reduceEqDiff, ↓reduceIte, Int.natCast_add, Int.cast_ofNat_Int, Int.natCast_zero, true_and, and_true, Option.some.injEq, Value.int.injEq, f1, f2, f5, f10, f11, f12, f13]
    exact ⟨Same.refl hwA, fun j' h1 h2 => by omega⟩
  clear f1 f2 f5 f10 f11 f12 f13
  rintro q fr3 HB ⟨j, rfl, hij, hj, f1, f2, f5, f10, f11, f12, f13, f14, hSB, hnc⟩ J3 hJ3
  have hS8B := hSA.trans hSB
  have hwB := hSB.wf
  have hne : ¬ p.D.cand (p.D.P mm) i (p.D.P (mm + 1) i) j → j < p.l.length := fun h => by
    rcases Nat.lt_or_ge j j0 with h1 | h1
    · omega
    · rcases Nat.lt_or_eq_of_le h1 with h2 | rfl
      · exact absurd hcd0' (hnc j0 hok0.1 h2)
      · exact absurd hcd0' h
  have hnext : ¬ p.D.cand (p.D.P mm) i (p.D.P (mm + 1) i) j → ∀ j', i < j' → j' < j + 1 → ¬ p.D.cand (p.D.P mm) i (p.D.P (mm + 1) i) j' := fun h j' h1 h2 => by
    rcases Nat.lt_or_eq_of_le (Nat.le_of_lt_succ h2) with h3 | rfl
    · exact hnc j' h1 h3
    · exact h
  have hmk1 := hmI1 k
  have hlt2 := hix (k + 1) j (by omega) hj
  have hyi : (((k + 1) * (p.l.length + 1) : Nat) : Int) + (j : Int) = (((k + 1) * (p.l.length + 1) + j : Nat) : Int) := by simp
  have hbk2 : 0 ≤ ((k : Int) + 1) * ((p.l.length : Int) + 1) ∧ ((k : Int) + 1) * ((p.l.length : Int) + 1) ≤ 100000 := by rw [hmk1]; omega
  have hel := hat _ hS8B (k + 1) j (by omega) hj
  rw [show m - (k + 1) = mm by omega] at hel
  generalize hyy : (k + 1) * (p.l.length + 1) + j = y at *
  have hSHx := hSHB.trans hS8B
  have epnB := epnb hS8B
  repeat' (first | (exfalso; omega) | refine zA ?_ | refine zB ?_ | refine zC ?_ | refine zD ?_ | refine zE ?_ | refine zF ?_ | refine zG ?_ | refine zH ?_ | refine zI ?_ | refine zJ ?_ | refine zK rfl ?_ | refine zL ?_ | refine zM ?_ | refine zN ?_ | refine zO ?_ | refine zP rfl ?_ | refine zQ ?_ | ((first | refine zR ?_ | refine zS ?_ | refine zT ?_ | skip); intro K k; simp (disch := (first | (simp only [yD2, beq_self_eq_true, Nat.reduceLT, Nat.reduceAdd]; done) | ((fail_if_success (apply Bool.eq_iff_iff.2)); first | omega | (simp only [yD2, beq_self_eq_true, Nat.reduceLT, Nat.reduceAdd] <;> omega)) | fail)) only [↓yS, yT, ↓reduceIte, Nat.reduceEqDiff, Nat.reduceAdd, Nat.reduceMul, reduceCtorEq, Int.reduceToNat, g20, f1, f2, f5, f10, f11, f12, f13, f14, hmk1, hyi, hsll.ia, hel, epnB]; refine yC (k _ _ ?_); clear k K) | ((first | refine zU ?_ | refine zV ?_ | refine zW ?_); intro A B C D a b c d; simp only [↓yG, Nat.reduceEqDiff, ↓reduceIte, g20, f1, f2, f5, f10, f11, f12, f13, f14, hmk1, hyi, hsll.ia, hel, epnB]; (first | refine zX (a ?_) | refine zY (b ?_) | refine zZ (fun hc => c ?_) (fun hc => d ?_)) <;> clear a b c d A B C D <;> try simp only [yL] at hc) | (refine yA ?_; intro A a; simp only [↓yG, Nat.reduceEqDiff, ↓reduceIte, g20, f1, f2, f5, f10, f11, f12, f13, f14, hmk1, hyi, hsll.ia, hel, epnB]; refine yB (a ?_); clear a A) | (refine yD ?_; simp only [gresults, ↓yG, Nat.reduceEqDiff, ↓reduceIte, Option.bind_some, gld_1, gld_n, g20, f1, f2, f5, f10, f11, f12, f13, f14, hmk1, hyi, hsll.ia, hel, epnB]; refine ⟨_, rfl, ?_⟩; simp only [gone]))
  refine Gw_s fun K' hK' => G1_callM (by simp only [gtarget, ↓GArg.ev, ↓evs, ↓Tr.get_set, Nat.reduceEqDiff, if_true, if_false, ↓reduceIte, Option.map_some, f1, f2, f5, f10, f11, f12, f13, f14]; rfl) (rFits_ok (i := i) (j := j) (wf_up hwB) (hk.later hw hSHx).up hij hj) fun r9 HC hq => hK' _ _ ?_
  obtain ⟨rfl, hSC'⟩ := hq
  have hSC := Same.down hwB hSC'
  clear hSC'
  generalize HC.down HB.lim = HD at *
  have hSBD := hSB.trans hSC
  have hPe := P_ge hG mm j
  have hPu := P_ub hG mm j
  have hP4 : ((mm : Nat) : Int) * 40000000 ≤ 4 * 40000000 := by omega
  cases hfit : p.fit i j with
  | false =>
    have hcd : ¬ p.D.cand (p.D.P mm) i (p.D.P (mm + 1) i) j := fun h => by
      have := h.1
      rw [show p.D.fit i j = p.fit i j from rfl, hfit] at this; cases this
    have := hne hcd
    repeat' (first | (exfalso; omega) | refine zA ?_ | refine zB ?_ | refine zC ?_ | refine zD ?_ | refine zE ?_ | refine zF ?_ | refine zG ?_ | refine zH ?_ | refine zI ?_ | refine zJ ?_ | refine zK rfl ?_ | refine zL ?_ | refine zM ?_ | refine zN ?_ | refine zO ?_ | refine zP rfl ?_ | refine zQ ?_ | ((first | refine zR ?_ | refine zS ?_ | refine zT ?_ | skip); intro K k; simp (disch := (first | (simp only [yD2, beq_self_eq_true, Nat.reduceLT, Nat.reduceAdd]; done) | ((fail_if_success (apply Bool.eq_iff_iff.2)); first | omega | (simp only [yD2, beq_self_eq_true, Nat.reduceLT, Nat.reduceAdd] <;> omega)) | fail)) only [↓yS, yT, ↓reduceIte, Nat.reduceEqDiff, Nat.reduceAdd, Nat.reduceMul, reduceCtorEq, Int.reduceToNat, g20, f1, f2, f5, f10, f11, f12, f13, f14]; refine yC (k _ _ ?_); clear k K) | ((first | refine zU ?_ | refine zV ?_ | refine zW ?_); intro A B C D a b c d; simp only [↓yG, Nat.reduceEqDiff, ↓reduceIte, g20, f1, f2, f5, f10, f11, f12, f13, f14]; (first | refine zX (a ?_) | refine zY (b ?_) | refine zZ (fun hc => c ?_) (fun hc => d ?_)) <;> clear a b c d A B C D <;> try simp only [yL] at hc) | (refine yA ?_; intro A a; simp only [↓yG, Nat.reduceEqDiff, ↓reduceIte, g20, f1, f2, f5, f10, f11, f12, f13, f14]; refine yB (a ?_); clear a A) | (refine yD ?_; simp only [gresults, ↓yG, Nat.reduceEqDiff, ↓reduceIte, Option.bind_some, gld_1, gld_n, g20, f1, f2, f5, f10, f11, f12, f13, f14]; refine ⟨_, rfl, ?_⟩; simp only [gone]))
    refine hJ3 _ _ ⟨p.l.length + 1 - (j + 1), by omega, j + 1, rfl, by omega, by omega, ?_⟩
    simp only [↓yG, Nat.reduceEqDiff, ↓reduceIte, Int.natCast_add, Int.cast_ofNat_Int, Int.natCast_zero, true_and, and_true, Option.some.injEq, Value.int.injEq, f1, f2, f5, f10, f11, f12, f13]
    exact ⟨hSBD, hnext hcd⟩
  | true =>
    by_cases hv : p.D.P mm j = -1
    · have hcd : ¬ p.D.cand (p.D.P mm) i (p.D.P (mm + 1) i) j := fun h => h.2.1 hv
      have := hne hcd
      repeat' (first | (exfalso; omega) | refine zA ?_ | refine zB ?_ | refine zC ?_ | refine zD ?_ | refine zE ?_ | refine zF ?_ | refine zG ?_ | refine zH ?_ | refine zI ?_ | refine zJ ?_ | refine zK rfl ?_ | refine zL ?_ | refine zM ?_ | refine zN ?_ | refine zO ?_ | refine zP rfl ?_ | refine zQ ?_ | ((first | refine zR ?_ | refine zS ?_ | refine zT ?_ | skip); intro K k; simp (disch := (first | (simp only [yD2, beq_self_eq_true, Nat.reduceLT, Nat.reduceAdd]; done) | ((fail_if_success (apply Bool.eq_iff_iff.2)); first | omega | (simp only [yD2, beq_self_eq_true, Nat.reduceLT, Nat.reduceAdd] <;> omega)) | fail)) only [↓yS, yT, ↓reduceIte, Nat.reduceEqDiff, Nat.reduceAdd, Nat.reduceMul, reduceCtorEq, Int.reduceToNat, g20, f1, f2, f5, f10, f11, f12, f13, f14]; refine yC (k _ _ ?_); clear k K) | ((first | refine zU ?_ | refine zV ?_ | refine zW ?_); intro A B C D a b c d; simp only [↓yG, Nat.reduceEqDiff, ↓reduceIte, g20, f1, f2, f5, f10, f11, f12, f13, f14]; (first | refine zX (a ?_) | refine zY (b ?_) | refine zZ (fun hc => c ?_) (fun hc => d ?_)) <;> clear a b c d A B C D <;> try simp only [yL] at hc) | (refine yA ?_; intro A a; simp only [↓yG, Nat.reduceEqDiff, ↓reduceIte, g20, f1, f2, f5, f10, f11, f12, f13, f14]; refine yB (a ?_); clear a A) | (refine yD ?_; simp only [gresults, ↓yG, Nat.reduceEqDiff, ↓reduceIte, Option.bind_some, gld_1, gld_n, g20, f1, f2, f5, f10, f11, f12, f13, f14]; refine ⟨_, rfl, ?_⟩; simp only [gone]))
      refine hJ3 _ _ ⟨p.l.length + 1 - (j + 1), by omega, j + 1, rfl, by omega, by omega, ?_⟩
      simp only [↓yG, Nat.reduceEqDiff, ↓reduceIte, Int.natCast_add, Int.cast_ofNat_Int, Int.natCast_zero, true_and, and_true, Option.some.injEq, Value.int.injEq, f1, f2, f5, f10, f11, f12, f13]
      exact ⟨hSBD, hnext hcd⟩
    · have hok : p.D.ok i j := ⟨hij, by rw [hD]; omega, hfit⟩
      have hc1 : 0 ≤ p.row i j := hG.pos _ _ hok
      have hc2 : p.row i j ≤ 40000000 := hG.ub _ _ hok
      have epnD := epnb (hSA.trans hSBD)
      have hwD := hSC.wf
      repeat' (first | (exfalso; omega) | refine zA ?_ | refine zB ?_ | refine zC ?_ | refine zD ?_ | refine zE ?_ | refine zF ?_ | refine zG ?_ | refine zH ?_ | refine zI ?_ | refine zJ ?_ | refine zK rfl ?_ | refine zL ?_ | refine zM ?_ | refine zN ?_ | refine zO ?_ | refine zP rfl ?_ | refine zQ ?_ | ((first | refine zR ?_ | refine zS ?_ | refine zT ?_ | skip); intro K k; simp (disch := (first | (simp only [yD2, beq_self_eq_true, Nat.reduceLT, Nat.reduceAdd]; done) | ((fail_if_success (apply Bool.eq_iff_iff.2)); first | omega | (simp only [yD2, beq_self_eq_true, Nat.reduceLT, Nat.reduceAdd] <;> omega)) | fail)) only [↓yS, yT, ↓reduceIte, Nat.reduceEqDiff, Nat.reduceAdd, Nat.reduceMul, reduceCtorEq, Int.reduceToNat, g20, f1, f2, f5, f10, f11, f12, f13, f14, epnD]; refine yC (k _ _ ?_); clear k K) | ((first | refine zU ?_ | refine zV ?_ | refine zW ?_); intro A B C D a b c d; simp only [↓yG, Nat.reduceEqDiff, ↓reduceIte, g20, f1, f2, f5, f10, f11, f12, f13, f14, epnD]; (first | refine zX (a ?_) | refine zY (b ?_) | refine zZ (fun hc => c ?_) (fun hc => d ?_)) <;> clear a b c d A B C D <;> try simp only [yL] at hc) | (refine yA ?_; intro A a; simp only [↓yG, Nat.reduceEqDiff, ↓reduceIte, g20, f1, f2, f5, f10, f11, f12, f13, f14, epnD]; refine yB (a ?_); clear a A) | (refine yD ?_; simp only [gresults, ↓yG, Nat.reduceEqDiff, ↓reduceIte, Option.bind_some, gld_1, gld_n, g20, f1, f2, f5, f10, f11, f12, f13, f14, epnD]; refine ⟨_, rfl, ?_⟩; simp only [gone]))
      intro K' hK'; refine G1_callM (by simp only [gtarget, ↓GArg.ev, ↓evs, ↓Tr.get_set, Nat.reduceEqDiff, if_true, if_false, ↓reduceIte, Option.map_some, f1, f2, f5, f10, f11, f12, f13, f14]; rfl) (rrow_cost (i := i) (j := j) (wf_up hwD) (hk.later hw (hSHB.trans (hSA.trans hSBD))).up hij hj) fun r9 HE hq => hK' _ _ ?_
      obtain ⟨rfl, hSE'⟩ := hq
      have hSE := Same.down hwD hSE'
      clear hSE'
      generalize HE.down HD.lim = HF at *
      have hSBF := hSBD.trans hSE
      have hS8F := hSA.trans hSBF
      have hmk := hmI k
      have hlt := hix k i (by omega) (by omega)
      have hxi : ((k * (p.l.length + 1) : Nat) : Int) + (i : Int) = ((k * (p.l.length + 1) + i : Nat) : Int) := by simp
      have hbk : 0 ≤ (k : Int) * ((p.l.length : Int) + 1) ∧ (k : Int) * ((p.l.length : Int) + 1) ≤ 100000 := by rw [hmk]; omega
      have hel2 := hat _ hS8F k i (by omega) (by omega)
      rw [show m - k = mm + 1 by omega] at hel2
      generalize hxx : k * (p.l.length + 1) + i = x at *
      by_cases heq2 : p.row i j + p.D.P mm j = p.D.P (mm + 1) i
      case neg =>
        have hcd : ¬ p.D.cand (p.D.P mm) i (p.D.P (mm + 1) i) j := fun h => heq2 h.2.2
        have := hne hcd
        have heq' := eq_false heq2
        repeat' (first | (exfalso; omega) | refine zA ?_ | refine zB ?_ | refine zC ?_ | refine zD ?_ | refine zE ?_ | refine zF ?_ | refine zG ?_ | refine zH ?_ | refine zI ?_ | refine zJ ?_ | refine zK rfl ?_ | refine zL ?_ | refine zM ?_ | refine zN ?_ | refine zO ?_ | refine zP rfl ?_ | refine zQ ?_ | ((first | refine zR ?_ | refine zS ?_ | refine zT ?_ | skip); intro K k; simp (disch := (first | (simp only [yD2, beq_self_eq_true, Nat.reduceLT, Nat.reduceAdd]; done) | ((fail_if_success (apply Bool.eq_iff_iff.2)); first | omega | (simp only [yD2, beq_self_eq_true, Nat.reduceLT, Nat.reduceAdd] <;> omega)) | fail)) only [↓yS, yT, ↓reduceIte, Nat.reduceEqDiff, Nat.reduceAdd, Nat.reduceMul, reduceCtorEq, Int.reduceToNat, g20, f1, f2, f5, f10, f11, f12, f13, f14, hmk, hxi, hsll.ia, hel2, heq']; refine yC (k _ _ ?_); clear k K) | ((first | refine zU ?_ | refine zV ?_ | refine zW ?_); intro A B C D a b c d; simp only [↓yG, Nat.reduceEqDiff, ↓reduceIte, g20, f1, f2, f5, f10, f11, f12, f13, f14, hmk, hxi, hsll.ia, hel2, heq']; (first | refine zX (a ?_) | refine zY (b ?_) | refine zZ (fun hc => c ?_) (fun hc => d ?_)) <;> clear a b c d A B C D <;> try simp only [yL] at hc) | (refine yA ?_; intro A a; simp only [↓yG, Nat.reduceEqDiff, ↓reduceIte, g20, f1, f2, f5, f10, f11, f12, f13, f14, hmk, hxi, hsll.ia, hel2, heq']; refine yB (a ?_); clear a A) | (refine yD ?_; simp only [gresults, ↓yG, Nat.reduceEqDiff, ↓reduceIte, Option.bind_some, gld_1, gld_n, g20, f1, f2, f5, f10, f11, f12, f13, f14, hmk, hxi, hsll.ia, hel2, heq']; refine ⟨_, rfl, ?_⟩; simp only [gone]))
        refine hJ3 _ _ ⟨p.l.length + 1 - (j + 1), by omega, j + 1, rfl, by omega, by omega, ?_⟩
        simp only [↓yG, Nat.reduceEqDiff, ↓reduceIte, Int.natCast_add, Int.cast_ofNat_Int, Int.natCast_zero, true_and, and_true, Option.some.injEq, Value.int.injEq, f1, f2, f5, f10, f11, f12, f13]
        exact ⟨hSBF, hnext hcd⟩
      have hcd : p.D.cand (p.D.P mm) i (p.D.P (mm + 1) i) j := ⟨hfit, hv, heq2⟩
      have heq' := eq_true heq2
      have hmF : HF.mine H8.len = some (bkC ev c pv, 0) := by rw [hSBF.mine hioA]; exact hmA
      have er := fun o => mine_rd (o := o) hmF
      have hOF := hOA.later hSBF
      have hwF := hSBF.wf
      repeat' (first | (exfalso; omega) | refine zA ?_ | refine zB ?_ | refine zC ?_ | refine zD ?_ | refine zE ?_ | refine zF ?_ | refine zG ?_ | refine zH ?_ | refine zI ?_ | refine zJ ?_ | refine zK rfl ?_ | refine zL ?_ | refine zM ?_ | refine zN ?_ | refine zO ?_ | refine zP rfl ?_ | refine zQ ?_ | ((first | refine zR ?_ | refine zS ?_ | refine zT ?_ | skip); intro K k; simp (disch := (first | (simp only [yD2, beq_self_eq_true, Nat.reduceLT, Nat.reduceAdd]; done) | ((fail_if_success (apply Bool.eq_iff_iff.2)); first | omega | (simp only [yD2, beq_self_eq_true, Nat.reduceLT, Nat.reduceAdd] <;> omega)) | fail)) only [↓yS, yT, ↓reduceIte, Nat.reduceEqDiff, Nat.reduceAdd, Nat.reduceMul, reduceCtorEq, Int.reduceToNat, g20, f1, f2, f5, f10, f11, f12, f13, f14, hmk, hxi, hsll.ia, hel2, heq', er, bkC_0]; refine yC (k _ _ ?_); clear k K) | ((first | refine zU ?_ | refine zV ?_ | refine zW ?_); intro A B C D a b c d; simp only [↓yG, Nat.reduceEqDiff, ↓reduceIte, g20, f1, f2, f5, f10, f11, f12, f13, f14, hmk, hxi, hsll.ia, hel2, heq', er, bkC_0]; (first | refine zX (a ?_) | refine zY (b ?_) | refine zZ (fun hc => c ?_) (fun hc => d ?_)) <;> clear a b c d A B C D <;> try simp only [yL] at hc) | (refine yA ?_; intro A a; simp only [↓yG, Nat.reduceEqDiff, ↓reduceIte, g20, f1, f2, f5, f10, f11, f12, f13, f14, hmk, hxi, hsll.ia, hel2, heq', er, bkC_0]; refine yB (a ?_); clear a A) | (refine yD ?_; simp only [gresults, ↓yG, Nat.reduceEqDiff, ↓reduceIte, Option.bind_some, gld_1, gld_n, g20, f1, f2, f5, f10, f11, f12, f13, f14, hmk, hxi, hsll.ia, hel2, heq', er, bkC_0]; refine ⟨_, rfl, ?_⟩; simp only [gone]))
      have hone : ints .i64 ((List.replicate 1 0).set 0 (j : Int)) = [.int .i64 (j : Nat)] := rfl
      refine Gw_s fun K' hK' => ?_
      simp (disch := (first | (simp only [yD2, beq_self_eq_true, Nat.reduceLT, Nat.reduceAdd]; done) | ((fail_if_success (apply Bool.eq_iff_iff.2)); first | omega | (simp only [yD2, beq_self_eq_true, Nat.reduceLT, Nat.reduceAdd] <;> omega)) | fail)) only [↓yS, yT, ↓reduceIte, Nat.reduceEqDiff, Nat.reduceAdd, Nat.reduceMul, reduceCtorEq, Int.reduceToNat, f1, f2, f5, f10, f11, f12, f13, f14, hone]
      obtain ⟨ev', HG, e, hOG, hBG⟩ := hOF.app1 (b := 8) (by decide) (by decide) (news := [.int .i64 (j : Nat)]) rfl (by omega) (by omega)
      refine G1_eq e (hK' _ _ ?_)
      clear hK' K' e
      have hioF := mine_lt hwF hmF
      have hmG : HG.mine H8.len = some (bkC ev c pv, 0) := by rw [hBG.mine hioF (fun ha => hOF.off hmF _ ha rfl)]; exact hmF
      have hset := @bk_set0 ev ev' pv c hOG.fl
      have hwG := hOG.same.wf
      repeat' (first | (exfalso; omega) | refine zA ?_ | refine zB ?_ | refine zC ?_ | refine zD ?_ | refine zE ?_ | refine zF ?_ | refine zG ?_ | refine zH ?_ | refine zI ?_ | refine zJ ?_ | refine zK rfl ?_ | refine zL ?_ | refine zM ?_ | refine zN ?_ | refine zO ?_ | refine zP rfl ?_ | refine zQ ?_ | ((first | refine zR ?_ | refine zS ?_ | refine zT ?_ | skip); intro K k; simp (disch := (first | (simp only [yD2, beq_self_eq_true, Nat.reduceLT, Nat.reduceAdd]; done) | ((fail_if_success (apply Bool.eq_iff_iff.2)); first | omega | (simp only [yD2, beq_self_eq_true, Nat.reduceLT, Nat.reduceAdd] <;> omega)) | fail)) only [↓yS, yT, ↓reduceIte, Nat.reduceEqDiff, Nat.reduceAdd, Nat.reduceMul, reduceCtorEq, Int.reduceToNat, g20, f1, f2, f5, f10, f11, f12, f13, f14, hmG, hset]; refine yC (k _ _ ?_); clear k K) | ((first | refine zU ?_ | refine zV ?_ | refine zW ?_); intro A B C D a b c d; simp only [↓yG, Nat.reduceEqDiff, ↓reduceIte, g20, f1, f2, f5, f10, f11, f12, f13, f14, hmG, hset]; (first | refine zX (a ?_) | refine zY (b ?_) | refine zZ (fun hc => c ?_) (fun hc => d ?_)) <;> clear a b c d A B C D <;> try simp only [yL] at hc) | (refine yA ?_; intro A a; simp only [↓yG, Nat.reduceEqDiff, ↓reduceIte, g20, f1, f2, f5, f10, f11, f12, f13, f14, hmG, hset]; refine yB (a ?_); clear a A) | (refine yD ?_; simp only [gresults, ↓yG, Nat.reduceEqDiff, ↓reduceIte, Option.bind_some, gld_1, gld_n, g20, f1, f2, f5, f10, f11, f12, f13, f14, hmG, hset]; refine ⟨_, rfl, ?_⟩; simp only [gone]))
      have hBp : But (fun k => k = H8.len) HG (HG.put H8.len (.cells (bkC ev' c pv) 0 true)) := (But.refl (S := fun k => k = H8.len) hwG).put rfl (mine_lt hwG hmG) _
      have hstn := hsA.next hG hok hv heq2
      refine hJ _ _ ⟨p.l.length - j, by omega, k + 1, j, pre ++ [j], ev', rfl, by omega, by omega, ?_⟩
      simp only [↓yG, Nat.reduceEqDiff, ↓reduceIte, Int.natCast_add, Int.cast_ofNat_Int, Int.natCast_zero, true_and, and_true, Option.some.injEq, Value.int.injEq, f1, f2, f5, f10, f11, f12, f13]
      rw [show m - (k + 1) = mm by omega]
      refine ⟨mine_put_same (mine_obj hmG).1, ?_, hstn, by simp; omega, fun l h => ?_⟩
      · rw [natsI_snoc, List.length_append]
        exact hOG.but hBp (fun k hk e => by omega) (hOG.off hmG)
      · have := hgr (j :: l) (.cons hij (by rw [hD]; omega) ((hiff j hij hj).1 hcd) (fun j' h1 h2 h3 => hnc j' h1 h2 ((hiff j' h1 (by omega)).2 h3)) h)
        rw [List.append_assoc]; exact this
end Go.Gh
