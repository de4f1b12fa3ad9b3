/-
  rowbreak, walked: open.
-/
import Derived.Test.YtbhgpiakeimmlaaDoorRbW4
namespace Go.Gh
set_option linter.unusedSimpArgs false
set_option linter.unusedVariables false
open Go.RowKit
set_option maxRecDepth 4000

theorem OS.fl {s u n : Nat} {H0 H : GHeap} {v : Value} {xs : List Value} (h : OS s u H0 H v n xs) : flatV v = true := by
  rcases h.own.at_ with ⟨e, _⟩ | ⟨i, gc, e, _⟩ <;> rw [e] <;> first | rfl | exact flatV_sl
theorem shC_set15 {p : Par} {sv sv' : Value} {a : Int} (h : flatV sv' = true) : gset (shC p sv a) 15 sv' = some (shC p sv' a) := gset_ok (by rw [shC_len]; decide) h
theorem shC_set16 {p : Par} {sv : Value} {a b : Int} : gset (shC p sv a) 16 (.int .i64 b) = some (shC p sv b) := gset_ok (by rw [shC_len]; decide) rfl
theorem fill_sh {p : Par} (hp : flatV p.v = true) {i : Nat} : fillL [.slice none 0 0, .int .i64 0, .int .i64 0, .int .i64 0, .int .i64 0, .int .i64 0, .int .i64 0, .int .i64 0, .int .i64 0, .int .i64 0, .int .i64 0, .int .i64 0, .int .i64 0, .int .i64 0, .int .i64 0, .slice none 0 0, .int .i64 0] [(0, 15, parV p), (15, 1, .slice (some ⟨i, 0, none⟩) 1 2)] = some (shC p (.slice (some ⟨i, 0, none⟩) 1 2) 0) := by
  have h1 := parC_flat hp
  simp only [fillL, par_cells, parC_len, h1]
  rfl
theorem shC_cflat {p : Par} (hp : flatV p.v = true) {i n c : Nat} {a : Int} : (shC p (.slice (some ⟨i, 0, none⟩) n c) a).all flatV = true := by
  have h1 := parC_flat hp
  simp only [shC, List.all_append, h1]
  rfl
theorem open_ok {H : GHeap} (hw : H.wf) {p : Par} (hk : PK H p) : ∃ r H', gev G 27 [parV p] H = some (r, H') ∧ (Sht H' r p ∧ Same H H') := by
  refine gev_GW (f := 27) rfl fun Post hPost => ?_
  have hf := hk.pr.kr.flat
  have hb := par_cflat hf
  have hl := par_cells p
  have hlim := hw.1
  have hS1 := (Same.refl hw).add (.cells (parC p) 0 true)
  have e0 := rdn_par (p := p) (Same.refl hS1.wf)
  have e1 := fun o => rd_par (p := p) (Same.refl hS1.wf) o
  have hfs := @fill_sh p hf
  have hsf := fun a => @shC_cflat p hf (H.len + 1) 1 2 a
  have hsl := hk.pr.kr.isSl
  have hn := hk.n
  have hset0 : (ints .i64 (List.replicate 1 0)).set 0 (.int .i64 0) = [.int .i64 0] := rfl
  simp only [frameOf, Nat.reduceAdd]
  have hS2 : Same H ((H.add (some (.cells (parC p) 0 true))).add (some (.cells [.int .i64 0] 1 true))) := hS1.add _
  have hO0 : OS 1 1 (H.add (some (.cells (parC p) 0 true))) ((H.add (some (.cells (parC p) 0 true))).add (some (.cells [.int .i64 0] 1 true))) (.slice (some ⟨(H.add (some (.cells (parC p) 0 true))).len, 0, none⟩) 1 (1 + 1)) 1 [.int .i64 0] := OS.made' (Same.refl hS1.wf) rfl
  repeat' (first | refine zA ?_ | refine zB ?_ | refine zC ?_ | refine zD ?_ | refine zE ?_ | refine zF ?_ | refine zG ?_ | refine zH ?_ | refine zI ?_ | refine zJ ?_ | refine zK rfl ?_ | refine zL ?_ | refine zM ?_ | refine zN ?_ | refine zO ?_ | refine zP rfl ?_ | refine zQ ?_ | ((first | refine zR ?_ | refine zS ?_ | refine zT ?_ | skip); intro K k; simp (disch := (first | (simp only [yD2, beq_self_eq_true, Nat.reduceLT, Nat.reduceAdd]; done) | ((fail_if_success (apply Bool.eq_iff_iff.2)); first | omega | (simp only [yD2, beq_self_eq_true, Nat.reduceLT, Nat.reduceAdd] <;> omega)) | fail)) only [↓yS, yT, ↓reduceIte, Nat.reduceEqDiff, Nat.reduceAdd, Nat.reduceMul, reduceCtorEq, Int.reduceToNat, g27, hb, hl, e0, agg_list, agg_all, hfs, hsf, parC_0, hsl.len]; refine yC (k _ _ ?_); clear k K) | ((first | refine zU ?_ | refine zV ?_ | refine zW ?_); intro A B C D a b c d; simp only [↓yG, Nat.reduceEqDiff, ↓reduceIte, g27, hb, hl, e0, agg_list, agg_all, hfs, hsf, parC_0, hsl.len]; (first | refine zX (a ?_) | refine zY (b ?_) | refine zZ (fun hc => c ?_) (fun hc => d ?_)) <;> clear a b c d A B C D <;> try simp only [yL] at hc) | (refine yA ?_; intro A a; simp only [↓yG, Nat.reduceEqDiff, ↓reduceIte, g27, hb, hl, e0, agg_list, agg_all, hfs, hsf, parC_0, hsl.len]; refine yB (a ?_); clear a A) | (refine yD ?_; simp only [gresults, ↓yG, Nat.reduceEqDiff, ↓reduceIte, Option.bind_some, gld_1, gld_n, g27, hb, hl, e0, agg_list, agg_all, hfs, hsf, parC_0, hsl.len]; refine ⟨_, rfl, ?_⟩; simp only [gone]))
  have hts : ints .i64 ((List.replicate 1 0).set 0 0) = [.int .i64 0] := rfl
  rw [hts]
  have hS3 : Same (H.add (some (.cells (parC p) 0 true))) (((H.add (some (.cells (parC p) 0 true))).add (some (.cells [.int .i64 0] 1 true))).add (some (.cells (shC p (.slice (some ⟨H.len + 1, 0, none⟩) 1 2) 0) 0 true))) := ((Same.refl hS1.wf).add _).add _
  have hO1 := hO0.later ((Same.refl hS2.wf).add (.cells (shC p (.slice (some ⟨H.len + 1, 0, none⟩) 1 2) 0) 0 true))
  have hm : (((H.add (some (.cells (parC p) 0 true))).add (some (.cells [.int .i64 0] 1 true))).add (some (.cells (shC p (.slice (some ⟨H.len + 1, 0, none⟩) 1 2) 0) 0 true))).mine (H.len + 1 + 1) = some (shC p (.slice (some ⟨H.len + 1, 0, none⟩) 1 2) 0, 0) := mine_add_eq (by simp only [len_add]) (by simp only [lim_add]; omega)
  have e1 := fun {H'} (h : Same (H.add (some (.cells (parC p) 0 true))) H') o => rd_par h o
  rw [len_add] at hO1
  generalize (((H.add (some (.cells (parC p) 0 true))).add (some (.cells [.int .i64 0] 1 true))).add (some (.cells (shC p (.slice (some ⟨H.len + 1, 0, none⟩) 1 2) 0) 0 true))) = H3 at *
  have hz := sumsL_zero p.l
  refine GW_loop (fun k fr H1 => ∃ (j : Nat) (sv : Value), k = p.l.length - j ∧ j ≤ p.l.length ∧ fr.get 1 = some (.pointer (some ⟨H.len, 0, none⟩)) ∧ fr.get 3 = some (.pointer (some ⟨H.len + 1 + 1, 0, none⟩)) ∧ fr.get 11 = some (p.v) ∧ fr.get 12 = some (.int .i64 p.l.length) ∧ fr.get 13 = some (.int .i64 j) ∧ Same (H.add (some (.cells (parC p) 0 true))) H1 ∧ H1.mine (H.len + 1 + 1) = some (shC p sv 0, 0) ∧ OS 1 1 (H.add (some (.cells (parC p) 0 true))) H1 sv (j + 1) (ints .i64 (sumsL p.l j))) ?_ p.l.length ?_
  rotate_left
  · refine ⟨0, .slice (some ⟨H.len + 1, 0, none⟩) 1 2, by omega, by omega, ?_⟩
    simp only [↓yG, Nat.reduceEqDiff, ↓reduceIte, Int.natCast_add, Int.cast_ofNat_Int, Int.natCast_zero, true_and, and_true, Option.some.injEq, Value.int.injEq]
    exact ⟨hS3, hm, by rw [hz]; exact hO1⟩
  clear hS3 hm hO1 hz
  rintro k fr H1 ⟨j, sv, rfl, hj, f1, f3, f11, f12, f13, hS, hm, hO⟩ J hJ
  have hw1 := hO.same.wf
  have hlim1 := hw1.1
  have hlen1 := hS.len
  rw [len_add] at hlen1
  have hio := mine_lt hw1 hm
  by_cases hj1 : j < p.l.length
  · have et := (hk.pr.kr.later hw (hS1.trans hS)).rowN hj1
    have hmem := mem_bangK hj1
    have hs1 := hk.pr.sh _ hmem
    have hlnn := tkN_len (tkGo_ok (tkF_go (parF_ok hk.ok).1).1 _ hmem)
    have hsc := smN_succ hj1
    have hb1 := hk.sm (k := j + 1) (by omega)
    generalize p.l[j]! = x at *
    have hS2 : Same H1 ((H1.add (some (.cells [.string ⟨#[]⟩, .int .i64 0] 0 true))).put H1.len (.cells (tkC x) 0 true)) := (Same.refl hw1).new _ _
    have x0 : ((H1.add (some (.cells [.string ⟨#[]⟩, .int .i64 0] 0 true))).put H1.len (.cells (tkC x) 0 true)).rd H1.len 0 = some (.string (strB x.t)) := by rw [rd_put_same]; rfl
    repeat' (first | (exfalso; omega) | refine zA ?_ | refine zB ?_ | refine zC ?_ | refine zD ?_ | refine zE ?_ | refine zF ?_ | refine zG ?_ | refine zH ?_ | refine zI ?_ | refine zJ ?_ | refine zK rfl ?_ | refine zL ?_ | refine zM ?_ | refine zN ?_ | refine zO ?_ | refine zP rfl ?_ | refine zQ ?_ | ((first | refine zR ?_ | refine zS ?_ | refine zT ?_ | skip); intro K k; simp (disch := (first | (simp only [yD2, beq_self_eq_true, Nat.reduceLT, Nat.reduceAdd]; done) | ((fail_if_success (apply Bool.eq_iff_iff.2)); first | omega | (simp only [yD2, beq_self_eq_true, Nat.reduceLT, Nat.reduceAdd] <;> omega)) | fail)) only [↓yS, yT, ↓reduceIte, Nat.reduceEqDiff, Nat.reduceAdd, Nat.reduceMul, reduceCtorEq, Int.reduceToNat, g27, f1, f3, f11, f12, f13, KN, hsl.ia, et]; refine yC (k _ _ ?_); clear k K) | ((first | refine zU ?_ | refine zV ?_ | refine zW ?_); intro A B C D a b c d; simp only [↓yG, Nat.reduceEqDiff, ↓reduceIte, g27, f1, f3, f11, f12, f13, KN, hsl.ia, et]; (first | refine zX (a ?_) | refine zY (b ?_) | refine zZ (fun hc => c ?_) (fun hc => d ?_)) <;> clear a b c d A B C D <;> try simp only [yL] at hc) | (refine yA ?_; intro A a; simp only [↓yG, Nat.reduceEqDiff, ↓reduceIte, g27, f1, f3, f11, f12, f13, KN, hsl.ia, et]; refine yB (a ?_); clear a A) | (refine yD ?_; simp only [gresults, ↓yG, Nat.reduceEqDiff, ↓reduceIte, Option.bind_some, gld_1, gld_n, g27, f1, f3, f11, f12, f13, KN, hsl.ia, et]; refine ⟨_, rfl, ?_⟩; simp only [gone]))
    have hm2 : ((H1.add (some (.cells [.string ⟨#[]⟩, .int .i64 0] 0 true))).put H1.len (.cells (tkC x) 0 true)).mine (H.len + 1 + 1) = some (shC p sv 0, 0) := by rw [hS2.mine hio]; exact hm
    have hO2 := hO.later hS2
    generalize (H1.add (some (.cells [.string ⟨#[]⟩, .int .i64 0] 0 true))).put H1.len (.cells (tkC x) 0 true) = H2 at *
    have er := fun o => mine_rd (o := o) hm2
    have hslv : IsSl sv (j + 1) := hO2.rd.isSl
    have es : H2.rd (blk sv) (ofs sv + j) = some (.int .i64 (smN p.l j)) := by
      rw [hO2.rd.rd (by rw [ints_length, sumsL_len]; omega)]; exact sumsL_at p.l (Nat.le_refl _)
    have hx1 : ((j : Int)).toNat = j := by omega
    repeat' (first | (exfalso; omega) | refine zA ?_ | refine zB ?_ | refine zC ?_ | refine zD ?_ | refine zE ?_ | refine zF ?_ | refine zG ?_ | refine zH ?_ | refine zI ?_ | refine zJ ?_ | refine zK rfl ?_ | refine zL ?_ | refine zM ?_ | refine zN ?_ | refine zO ?_ | refine zP rfl ?_ | refine zQ ?_ | ((first | refine zR ?_ | refine zS ?_ | refine zT ?_ | skip); intro K k; simp (disch := (first | (simp only [yD2, beq_self_eq_true, Nat.reduceLT, Nat.reduceAdd]; done) | ((fail_if_success (apply Bool.eq_iff_iff.2)); first | omega | (simp only [yD2, beq_self_eq_true, Nat.reduceLT, Nat.reduceAdd] <;> omega)) | fail)) only [↓yS, yT, ↓reduceIte, Nat.reduceEqDiff, Nat.reduceAdd, Nat.reduceMul, reduceCtorEq, Int.reduceToNat, g27, f1, f3, f11, f12, f13, er, shC_15, hslv.ia, es, hx1, Nat.mul_one, x0]; refine yC (k _ _ ?_); clear k K) | ((first | refine zU ?_ | refine zV ?_ | refine zW ?_); intro A B C D a b c d; simp only [↓yG, Nat.reduceEqDiff, ↓reduceIte, g27, f1, f3, f11, f12, f13, er, shC_15, hslv.ia, es, hx1, Nat.mul_one, x0]; (first | refine zX (a ?_) | refine zY (b ?_) | refine zZ (fun hc => c ?_) (fun hc => d ?_)) <;> clear a b c d A B C D <;> try simp only [yL] at hc) | (refine yA ?_; intro A a; simp only [↓yG, Nat.reduceEqDiff, ↓reduceIte, g27, f1, f3, f11, f12, f13, er, shC_15, hslv.ia, es, hx1, Nat.mul_one, x0]; refine yB (a ?_); clear a A) | (refine yD ?_; simp only [gresults, ↓yG, Nat.reduceEqDiff, ↓reduceIte, Option.bind_some, gld_1, gld_n, g27, f1, f3, f11, f12, f13, er, shC_15, hslv.ia, es, hx1, Nat.mul_one, x0]; refine ⟨_, rfl, ?_⟩; simp only [gone]))
    refine Gw_s fun K' hK' => G1_callM (by simp only [gtarget, ↓GArg.ev, ↓evs, ↓Tr.get_set, Nat.reduceEqDiff, if_true, if_false, ↓reduceIte, Option.map_some, f1, f3, f11, f12, f13]; rfl) (one_of (len_ok (s := strB x.t) (by rw [strB_size]; exact hs1) _)) fun r4 H4 hq => hK' _ _ ?_
    obtain ⟨rfl, rfl⟩ := hq
    rw [updown, hlnn]
    have hw2 := hO2.same.wf
    have hval : ((smN p.l j : Int) + (tkN x : Int)) = ((smN p.l (j + 1) : Nat) : Int) := by rw [hsc]; omega
    repeat' (first | (exfalso; omega) | refine zA ?_ | refine zB ?_ | refine zC ?_ | refine zD ?_ | refine zE ?_ | refine zF ?_ | refine zG ?_ | refine zH ?_ | refine zI ?_ | refine zJ ?_ | refine zK rfl ?_ | refine zL ?_ | refine zM ?_ | refine zN ?_ | refine zO ?_ | refine zP rfl ?_ | refine zQ ?_ | ((first | refine zR ?_ | refine zS ?_ | refine zT ?_ | skip); intro K k; simp (disch := (first | (simp only [yD2, beq_self_eq_true, Nat.reduceLT, Nat.reduceAdd]; done) | ((fail_if_success (apply Bool.eq_iff_iff.2)); first | omega | (simp only [yD2, beq_self_eq_true, Nat.reduceLT, Nat.reduceAdd] <;> omega)) | fail)) only [↓yS, yT, ↓reduceIte, Nat.reduceEqDiff, Nat.reduceAdd, Nat.reduceMul, reduceCtorEq, Int.reduceToNat, g27, f1, f3, f11, f12, f13, hval]; refine yC (k _ _ ?_); clear k K) | ((first | refine zU ?_ | refine zV ?_ | refine zW ?_); intro A B C D a b c d; simp only [↓yG, Nat.reduceEqDiff, ↓reduceIte, g27, f1, f3, f11, f12, f13, hval]; (first | refine zX (a ?_) | refine zY (b ?_) | refine zZ (fun hc => c ?_) (fun hc => d ?_)) <;> clear a b c d A B C D <;> try simp only [yL] at hc) | (refine yA ?_; intro A a; simp only [↓yG, Nat.reduceEqDiff, ↓reduceIte, g27, f1, f3, f11, f12, f13, hval]; refine yB (a ?_); clear a A) | (refine yD ?_; simp only [gresults, ↓yG, Nat.reduceEqDiff, ↓reduceIte, Option.bind_some, gld_1, gld_n, g27, f1, f3, f11, f12, f13, hval]; refine ⟨_, rfl, ?_⟩; simp only [gone]))
    have hone : ints .i64 ((List.replicate 1 0).set 0 ((smN p.l (j + 1) : Nat) : Int)) = [.int .i64 (smN p.l (j + 1) : Nat)] := rfl
    refine Gw_s fun K' hK' => ?_
    simp (disch := (first | (simp only [yD2, beq_self_eq_true, Nat.reduceLT, Nat.reduceAdd]; done) | ((fail_if_success (apply Bool.eq_iff_iff.2)); first | omega | (simp only [yD2, beq_self_eq_true, Nat.reduceLT, Nat.reduceAdd] <;> omega)) | fail)) only [↓yS, yT, ↓reduceIte, Nat.reduceEqDiff, Nat.reduceAdd, Nat.reduceMul, reduceCtorEq, Int.reduceToNat, f1, f3, f11, f12, f13, hone]
    obtain ⟨v', H', e, hO3, hB⟩ := hO2.app1 (b := 8) (by decide) (by decide) (news := [.int .i64 (smN p.l (j + 1) : Nat)]) rfl (by omega) (by omega)
    refine G1_eq e (hK' _ _ ?_)
    clear hK' K' e
    have hne : ¬ (H.len + 1 + 1) ∈ idOf sv := fun ha => by
      have := (hO2.ids ha).2.2
      rw [hm2] at this
      simp at this
    have hio2 := mine_lt hw2 hm2
    have hm3 : H'.mine (H.len + 1 + 1) = some (shC p sv 0, 0) := by rw [hB.mine hio2 hne]; exact hm2
    have hset := @shC_set15 p sv v' 0 hO3.fl
    have hw3 := hO3.same.wf
    have hlim3 := hw3.1
    repeat' (first | (exfalso; omega) | refine zA ?_ | refine zB ?_ | refine zC ?_ | refine zD ?_ | refine zE ?_ | refine zF ?_ | refine zG ?_ | refine zH ?_ | refine zI ?_ | refine zJ ?_ | refine zK rfl ?_ | refine zL ?_ | refine zM ?_ | refine zN ?_ | refine zO ?_ | refine zP rfl ?_ | refine zQ ?_ | ((first | refine zR ?_ | refine zS ?_ | refine zT ?_ | skip); intro K k; simp (disch := (first | (simp only [yD2, beq_self_eq_true, Nat.reduceLT, Nat.reduceAdd]; done) | ((fail_if_success (apply Bool.eq_iff_iff.2)); first | omega | (simp only [yD2, beq_self_eq_true, Nat.reduceLT, Nat.reduceAdd] <;> omega)) | fail)) only [↓yS, yT, ↓reduceIte, Nat.reduceEqDiff, Nat.reduceAdd, Nat.reduceMul, reduceCtorEq, Int.reduceToNat, g27, f1, f3, f11, f12, f13, hm3, hset]; refine yC (k _ _ ?_); clear k K) | ((first | refine zU ?_ | refine zV ?_ | refine zW ?_); intro A B C D a b c d; simp only [↓yG, Nat.reduceEqDiff, ↓reduceIte, g27, f1, f3, f11, f12, f13, hm3, hset]; (first | refine zX (a ?_) | refine zY (b ?_) | refine zZ (fun hc => c ?_) (fun hc => d ?_)) <;> clear a b c d A B C D <;> try simp only [yL] at hc) | (refine yA ?_; intro A a; simp only [↓yG, Nat.reduceEqDiff, ↓reduceIte, g27, f1, f3, f11, f12, f13, hm3, hset]; refine yB (a ?_); clear a A) | (refine yD ?_; simp only [gresults, ↓yG, Nat.reduceEqDiff, ↓reduceIte, Option.bind_some, gld_1, gld_n, g27, f1, f3, f11, f12, f13, hm3, hset]; refine ⟨_, rfl, ?_⟩; simp only [gone]))
    have hne3 : ∀ a ∈ idOf v', ¬ a = H.len + 1 + 1 := fun a ha e => by
      have := (hO3.ids ha).2.2
      rw [e, hm3] at this
      simp at this
    have hB0 : But (fun k => H.len + 1 ≤ k) H2 (H'.put (H.len + 1 + 1) (.cells (shC p v' 0) 0 true)) := by
      refine But.put (hB.mono fun k hk => ?_) (by show H.len + 1 ≤ H.len + 1 + 1; omega) (mine_lt hw3 hm3) _
      rcases hO2.own.at_ with ⟨e, _⟩ | ⟨i, gc, e, _⟩
      · rw [e] at hk; simp [idOf] at hk
      · have := (hO2.ids hk).1
        rw [len_add] at this; exact this
    refine hJ _ _ ⟨p.l.length - (j + 1), by omega, j + 1, v', rfl, by omega, ?_⟩
    simp only [↓yG, Nat.reduceEqDiff, ↓reduceIte, Int.natCast_add, Int.cast_ofNat_Int, Int.natCast_zero, true_and, and_true, Option.some.injEq, Value.int.injEq, f1, f3, f11, f12]
    refine ⟨hB0.same (hS.trans hS2) (fun k hk => ?_), mine_put_same (mine_obj hm3).1, ?_⟩
    · rw [len_add] at hk; omega
    · rw [sumsL_succ]
      refine hO3.but (S := fun k => k = H.len + 1 + 1) ((But.refl (S := fun k => k = H.len + 1 + 1) hw3).put rfl (mine_lt hw3 hm3) _) (fun k hk e => by rw [len_add] at hk; omega) hne3
  · obtain rfl : j = p.l.length := by omega
    have hsht : ShtA H1 (.pointer (some ⟨H.len + 1 + 1, 0, none⟩)) p 0 := ⟨_, sv, rfl, hio, mine_cs hm, hO.rd⟩
    have hk1 := hk.later hw (hS1.trans hS)
    have er := fun o => mine_rd (o := o) hm
    have ep := e1 hS
    repeat' (first | (exfalso; omega) | refine zA ?_ | refine zB ?_ | refine zC ?_ | refine zD ?_ | refine zE ?_ | refine zF ?_ | refine zG ?_ | refine zH ?_ | refine zI ?_ | refine zJ ?_ | refine zK rfl ?_ | refine zL ?_ | refine zM ?_ | refine zN ?_ | refine zO ?_ | refine zP rfl ?_ | refine zQ ?_ | ((first | refine zR ?_ | refine zS ?_ | refine zT ?_ | skip); intro K k; simp (disch := (first | (simp only [yD2, beq_self_eq_true, Nat.reduceLT, Nat.reduceAdd]; done) | ((fail_if_success (apply Bool.eq_iff_iff.2)); first | omega | (simp only [yD2, beq_self_eq_true, Nat.reduceLT, Nat.reduceAdd] <;> omega)) | fail)) only [↓yS, yT, ↓reduceIte, Nat.reduceEqDiff, Nat.reduceAdd, Nat.reduceMul, reduceCtorEq, Int.reduceToNat, g27, f1, f3, f11, f12, f13]; refine yC (k _ _ ?_); clear k K) | ((first | refine zU ?_ | refine zV ?_ | refine zW ?_); intro A B C D a b c d; simp only [↓yG, Nat.reduceEqDiff, ↓reduceIte, g27, f1, f3, f11, f12, f13]; (first | refine zX (a ?_) | refine zY (b ?_) | refine zZ (fun hc => c ?_) (fun hc => d ?_)) <;> clear a b c d A B C D <;> try simp only [yL] at hc) | (refine yA ?_; intro A a; simp only [↓yG, Nat.reduceEqDiff, ↓reduceIte, g27, f1, f3, f11, f12, f13]; refine yB (a ?_); clear a A) | (refine yD ?_; simp only [gresults, ↓yG, Nat.reduceEqDiff, ↓reduceIte, Option.bind_some, gld_1, gld_n, g27, f1, f3, f11, f12, f13]; refine ⟨_, rfl, ?_⟩; simp only [gone]))
    refine Gw_s fun K' hK' => G1_callM (by simp only [gtarget, ↓GArg.ev, ↓evs, ↓Tr.get_set, Nat.reduceEqDiff, if_true, if_false, ↓reduceIte, Option.map_some, f1, f3, f11, f12, f13]; rfl) (sn_ok (H := H1.up) ⟨hsht.ex⟩ ⟨⟨hk1.pr.kr.rd, hk1.pr.kr.sl⟩, hk1.pr.sh, hk1.pr.le, hk1.pr.ww, hk1.pr.rr⟩) fun r4 H4 hq => hK' _ _ ?_
    obtain ⟨rfl, rfl⟩ := hq
    rw [updown]
    repeat' (first | (exfalso; omega) | refine zA ?_ | refine zB ?_ | refine zC ?_ | refine zD ?_ | refine zE ?_ | refine zF ?_ | refine zG ?_ | refine zH ?_ | refine zI ?_ | refine zJ ?_ | refine zK rfl ?_ | refine zL ?_ | refine zM ?_ | refine zN ?_ | refine zO ?_ | refine zP rfl ?_ | refine zQ ?_ | ((first | refine zR ?_ | refine zS ?_ | refine zT ?_ | skip); intro K k; simp (disch := (first | (simp only [yD2, beq_self_eq_true, Nat.reduceLT, Nat.reduceAdd]; done) | ((fail_if_success (apply Bool.eq_iff_iff.2)); first | omega | (simp only [yD2, beq_self_eq_true, Nat.reduceLT, Nat.reduceAdd] <;> omega)) | fail)) only [↓yS, yT, ↓reduceIte, Nat.reduceEqDiff, Nat.reduceAdd, Nat.reduceMul, reduceCtorEq, Int.reduceToNat, g27, f1, f3, f11, f12, f13]; refine yC (k _ _ ?_); clear k K) | ((first | refine zU ?_ | refine zV ?_ | refine zW ?_); intro A B C D a b c d; simp only [↓yG, Nat.reduceEqDiff, ↓reduceIte, g27, f1, f3, f11, f12, f13]; (first | refine zX (a ?_) | refine zY (b ?_) | refine zZ (fun hc => c ?_) (fun hc => d ?_)) <;> clear a b c d A B C D <;> try simp only [yL] at hc) | (refine yA ?_; intro A a; simp only [↓yG, Nat.reduceEqDiff, ↓reduceIte, g27, f1, f3, f11, f12, f13]; refine yB (a ?_); clear a A) | (refine yD ?_; simp only [gresults, ↓yG, Nat.reduceEqDiff, ↓reduceIte, Option.bind_some, gld_1, gld_n, g27, f1, f3, f11, f12, f13]; refine ⟨_, rfl, ?_⟩; simp only [gone]))
    refine Gw_s fun K' hK' => G1_callM (by simp only [gtarget, ↓GArg.ev, ↓evs, ↓Tr.get_set, Nat.reduceEqDiff, if_true, if_false, ↓reduceIte, Option.map_some, f1, f3, f11, f12, f13]; rfl) (slen_ok (H := H1.up) (i := 0) ⟨hsht.ex⟩ ⟨⟨⟨hk1.pr.kr.rd, hk1.pr.kr.sl⟩, hk1.pr.sh, hk1.pr.le, hk1.pr.ww, hk1.pr.rr⟩, hk1.ok⟩ (by omega) (Nat.le_refl _)) fun r4 H4 hq => hK' _ _ ?_
    obtain ⟨rfl, rfl⟩ := hq
    rw [updown]
    repeat' (first | (exfalso; omega) | refine zA ?_ | refine zB ?_ | refine zC ?_ | refine zD ?_ | refine zE ?_ | refine zF ?_ | refine zG ?_ | refine zH ?_ | refine zI ?_ | refine zJ ?_ | refine zK rfl ?_ | refine zL ?_ | refine zM ?_ | refine zN ?_ | refine zO ?_ | refine zP rfl ?_ | refine zQ ?_ | ((first | refine zR ?_ | refine zS ?_ | refine zT ?_ | skip); intro K k; simp (disch := (first | (simp only [yD2, beq_self_eq_true, Nat.reduceLT, Nat.reduceAdd]; done) | ((fail_if_success (apply Bool.eq_iff_iff.2)); first | omega | (simp only [yD2, beq_self_eq_true, Nat.reduceLT, Nat.reduceAdd] <;> omega)) | fail)) only [↓yS, yT, ↓reduceIte, Nat.reduceEqDiff, Nat.reduceAdd, Nat.reduceMul, reduceCtorEq, Int.reduceToNat, g27, f1, f3, f11, f12, f13, ep, parC_1]; refine yC (k _ _ ?_); clear k K) | ((first | refine zU ?_ | refine zV ?_ | refine zW ?_); intro A B C D a b c d; simp only [↓yG, Nat.reduceEqDiff, ↓reduceIte, g27, f1, f3, f11, f12, f13, ep, parC_1]; (first | refine zX (a ?_) | refine zY (b ?_) | refine zZ (fun hc => c ?_) (fun hc => d ?_)) <;> clear a b c d A B C D <;> try simp only [yL] at hc) | (refine yA ?_; intro A a; simp only [↓yG, Nat.reduceEqDiff, ↓reduceIte, g27, f1, f3, f11, f12, f13, ep, parC_1]; refine yB (a ?_); clear a A) | (refine yD ?_; simp only [gresults, ↓yG, Nat.reduceEqDiff, ↓reduceIte, Option.bind_some, gld_1, gld_n, g27, f1, f3, f11, f12, f13, ep, parC_1]; refine ⟨_, rfl, ?_⟩; simp only [gone]))
    refine Gw_s fun K' hK' => G1_callM (by simp only [gtarget, ↓GArg.ev, ↓evs, ↓Tr.get_set, Nat.reduceEqDiff, if_true, if_false, ↓reduceIte, Option.map_some, f1, f3, f11, f12, f13]; rfl) (aim_ok H1.up) fun r4 H4 hq => hK' _ _ ?_
    obtain ⟨rfl, rfl⟩ := hq
    rw [updown]
    unfold aimV
    have hset := @shC_set16 p sv 0 p.aim
    have hset' : gset (shC p sv 0) 16 (.int .i64 (aimF (lenR p.l 0 p.l.length) p.w)) = some (shC p sv p.aim) := hset
    repeat' (first | (exfalso; omega) | refine zA ?_ | refine zB ?_ | refine zC ?_ | refine zD ?_ | refine zE ?_ | refine zF ?_ | refine zG ?_ | refine zH ?_ | refine zI ?_ | refine zJ ?_ | refine zK rfl ?_ | refine zL ?_ | refine zM ?_ | refine zN ?_ | refine zO ?_ | refine zP rfl ?_ | refine zQ ?_ | ((first | refine zR ?_ | refine zS ?_ | refine zT ?_ | skip); intro K k; simp (disch := (first | (simp only [yD2, beq_self_eq_true, Nat.reduceLT, Nat.reduceAdd]; done) | ((fail_if_success (apply Bool.eq_iff_iff.2)); first | omega | (simp only [yD2, beq_self_eq_true, Nat.reduceLT, Nat.reduceAdd] <;> omega)) | fail)) only [↓yS, yT, ↓reduceIte, Nat.reduceEqDiff, Nat.reduceAdd, Nat.reduceMul, reduceCtorEq, Int.reduceToNat, g27, f1, f3, f11, f12, f13, hm, hset']; refine yC (k _ _ ?_); clear k K) | ((first | refine zU ?_ | refine zV ?_ | refine zW ?_); intro A B C D a b c d; simp only [↓yG, Nat.reduceEqDiff, ↓reduceIte, g27, f1, f3, f11, f12, f13, hm, hset']; (first | refine zX (a ?_) | refine zY (b ?_) | refine zZ (fun hc => c ?_) (fun hc => d ?_)) <;> clear a b c d A B C D <;> try simp only [yL] at hc) | (refine yA ?_; intro A a; simp only [↓yG, Nat.reduceEqDiff, ↓reduceIte, g27, f1, f3, f11, f12, f13, hm, hset']; refine yB (a ?_); clear a A) | (refine yD ?_; simp only [gresults, ↓yG, Nat.reduceEqDiff, ↓reduceIte, Option.bind_some, gld_1, gld_n, g27, f1, f3, f11, f12, f13, hm, hset']; refine ⟨_, rfl, ?_⟩; simp only [gone]))
    have hB : But (fun k => k = H.len + 1 + 1) H1 (H1.put (H.len + 1 + 1) (.cells (shC p sv p.aim) 0 true)) := (But.refl (S := fun k => k = H.len + 1 + 1) hw1).put rfl hio _
    have hne3 : ∀ a ∈ idOf sv, ¬ a = H.len + 1 + 1 := fun a ha e => by
      have := (hO.ids ha).2.2
      rw [e, hm] at this
      simp at this
    have hO' := hO.but hB (fun k hk e => by rw [len_add] at hk; omega) hne3
    refine hPost _ _ ⟨⟨_, sv, rfl, hio, mine_cs (mine_put_same (mine_obj hm).1), hO'.rd⟩, hS1.trans hO'.same⟩
end Go.Gh
